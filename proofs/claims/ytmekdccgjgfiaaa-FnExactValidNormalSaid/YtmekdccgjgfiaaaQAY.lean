/- slices.Concat of two slices of integers. -/
import Derived.Test.YtmekdccgjgfiaaaShelf
import Derived.Test.YtmekdccgjgfiaaaQAW
import Derived.Test.YtmekdccgjgfiaaaQAB
import Derived.Test.YtmekdccgjgfiaaaQAF
import Derived.Test.YtmekdccgjgfiaaaQAC
import Derived.Test.YtmekdccgjgfiaaaQAX
import Derived.Test.YtmekdccgjgfiaaaQAJ
namespace Go.Proofs.Ytmekdccgjgfiaaa
open Go.RowKit

theorem growNil (n : Nat) (w : World) (hn : n ≤ 4000000) :
    Calls Try.prog 94 #[.slice none 0 0, .int .i64 (n : Int)] w fun e w' => ∃ v, e = .returned v ∧ VR w' w.heap.size v [] ∧ Keep w w' := by
  rcases Nat.eq_zero_or_pos n with h0 | h0
  · subst h0
    refine (Try.slices_Grow_zero w).mono ?_
    rintro e w' ⟨rfl, rfl⟩
    exact ⟨_, rfl, World.ownsRow_nil _ _ _ _, Ext.refl _ _⟩
  · obtain ⟨i, hi, hzz⟩ := Option.map_eq_some_iff.1 (show (Try.prog.info? 3).map (fun i => (i.zero, i.size, i.bytes)) = some (some (.int .i64 0), 1, 8) by kernel_rfl)
    simp only [Prod.mk.injEq] at hzz
    obtain ⟨hz, hsize, hby⟩ := hzz
    refine (Try.slices_Grow_nil i (.int .i64 0) hi hz (by omega) n w (by omega) (by rw [hby]; omega) (by omega)).mono ?_
    rintro e w' ⟨rfl, rfl⟩
    refine ⟨_, rfl, ?_, (Ext.refl _ w).drew.trans (Keep.al _ _)⟩
    refine World.ownsRow_made (w := w.drew) _ _ (Nat.le_refl _) ?_ ?_
    · exact grownCap_le_maxLen _ _ _ _ (by simp [maxLen]; omega)
    · have h5 := grownCap_ge w (0 + n) 0 3
      simp only [Nat.zero_add] at h5
      simp [Builtin.zeroCells, Value.cells]
      omega

set_option maxHeartbeats 2000000 in
theorem concatTwo (g cc : Nat) (a : Option Addr) (n c : Nat) (xs : List Int) (D : Nat → Prop) (a' : Option Addr) (n' c' : Nat) (ys : List Int) (D' : Nat → Prop) (w : World) (h0 : w.cell? ⟨g, 0, none⟩ = some (.slice a n c)) (h1 : w.cell? ⟨g, 1, none⟩ = some (.slice a' n' c')) (hx : IntsL w D a n xs) (hy : IntsL w D' a' n' ys) (hn : n ≤ 1052000) (hn' : n' ≤ 1052000) :
    Calls Try.prog 87 #[.slice (some ⟨g, 0, none⟩) 2 cc] w fun e w' => ∃ v, e = .returned v ∧ VR w' w.heap.size v (xs ++ ys) ∧ Keep w w' := by
  refine calls_k fun Q hQ => ?_
  have HX := Lib.hid hx
  have HY := Lib.hid hy
  clear hx hy
  go_enter Try.func87, Try.ntmps87
  go_wp2_with fail
  go_loop [3, 11] (fun sv iv => (iv = .int .i64 (0 : Nat) ∧ sv = .int .i64 (0 : Nat)) ∨ (iv = .int .i64 (1 : Nat) ∧ sv = .int .i64 (n : Nat)) ∨ (iv = .int .i64 (2 : Nat) ∧ sv = .int .i64 ((n + n' : Nat) : Int))) (fun _ iv => 2 - (intOf iv).toNat)
  case atStart => exact .inl ⟨rfl, rfl⟩
  case round =>
    rcases hrel with ⟨rfl, rfl⟩ | ⟨rfl, rfl⟩ | ⟨rfl, rfl⟩
    · go_wp2_with fail
      go_round
      case rel => exact .inr (.inl ⟨by go_num, by go_num⟩)
      case measure => simp [intOf]
    · go_wp2_with fail
      go_round
      case rel => exact .inr (.inr ⟨by go_num, by go_num⟩)
      case measure => simp [intOf]
    · go_wp2_with fail
      refine (growNil (n + n') w (by omega)).mono ?_
      rintro e w1 ⟨v, rfl, hv, p1⟩
      have HV := Lib.hid hv
      have P1 := Lib.hid p1
      clear hv
      go_wp2_with fail
      have G0 := Lib.hid h0
      have G1 := Lib.hid h1
      go_loopw [6, 27] (fun v iv wr => ((iv = .int .i64 (0 : Nat) ∧ Hid (VR wr w.heap.size v [])) ∨ (iv = .int .i64 (1 : Nat) ∧ Hid (VR wr w.heap.size v xs)) ∨ (iv = .int .i64 (2 : Nat) ∧ Hid (VR wr w.heap.size v (xs ++ ys)))) ∧ Hid (Keep w wr)) (fun _ iv _ => 2 - (intOf iv).toNat)
      case atStart => exact ⟨.inl ⟨rfl, HV⟩, P1⟩
      case round =>
        obtain ⟨hr, hK⟩ := hrel
        clear h0 h1
        have k0 := (hK.out.cell (World.block_lt_of_cell? _ _ G0.out) (fun h => h)).trans G0.out
        have k1 := (hK.out.cell (World.block_lt_of_cell? _ _ G1.out) (fun h => h)).trans G1.out
        have hbs : w.heap.size ≤ wr.heap.size := hK.out.size
        rcases hr with ⟨rfl, hv⟩ | ⟨rfl, hv⟩ | ⟨rfl, hv⟩
        · have hx2 := HX.out.ext hK.out (fun _ _ h => h)
          go_wp2_with (at_builtin; refine wpList_appInts _ rfl (.tmp 31) (.tmp 32) rfl w.heap.size u6 0 [] rfl hv.out a n c xs D rfl hx2 (by omega) (by omega) ?_; intro v' w' ho hg)
          have hv2 : Hid (VR w' w.heap.size v' xs) := by have h := ho; have hl := HX.out.1; show VR _ _ _ _; rw [VR, hl]; simpa using h
          have hK2 := Lib.hid (hK.out.grown hg (fun q hq => .inl (hv.out.lt q hq).1))
          go_roundw
          case rel => exact ⟨.inr (.inl ⟨by go_num, hv2⟩), hK2⟩
          case measure => simp [intOf]
        · have hx2 := HY.out.ext hK.out (fun _ _ h => h)
          have hxl : xs.length ≤ 1052000 := by have := HX.out.1; omega
          go_wp2_with (at_builtin; refine wpList_appInts _ rfl (.tmp 31) (.tmp 32) rfl w.heap.size u6 xs.length xs rfl hv.out a' n' c' ys D' rfl hx2 (by omega) (by omega) ?_; intro v' w' ho hg)
          have hv2 : Hid (VR w' w.heap.size v' (xs ++ ys)) := by have h := ho; have hl := HY.out.1; show VR _ _ _ _; rw [VR, List.length_append, hl]; exact h
          have hK2 := Lib.hid (hK.out.grown hg (fun q hq => .inl (hv.out.lt q hq).1))
          go_roundw
          case rel => exact ⟨.inr (.inr ⟨by go_num, hv2⟩), hK2⟩
          case measure => simp [intOf]
        · go_wp2_with fail
          exact fin_ hQ ⟨_, rfl, hv.out, hK.out⟩
end Go.Proofs.Ytmekdccgjgfiaaa
/- walk: all nodes of an expression are visited by a function value. -/
namespace Go.Proofs.Ytmekdccgjgfiaaa
open Go.RowKit

section
variable {σ : Type} (vis : Int → Int → σ → σ)
mutual
/-- What comes of visiting all nodes. -/
def visE : ExprL → σ → σ
  | .mk op num ks, s => visEs ks (vis op num s)
def visEs : List ExprL → σ → σ
  | [], s => s
  | k :: ks, s => visEs ks (visE k s)
end
theorem visE_eq (e : ExprL) (s : σ) : visE vis e s = visEs vis e.kids (vis e.op e.num s) := by cases e; rfl
theorem visEs_append (a b : List ExprL) (s : σ) : visEs vis (a ++ b) s = visEs vis b (visEs vis a s) := by
  induction a generalizing s with
  | nil => rfl
  | cons k ks ih => simp only [List.cons_append, visEs, ih]
theorem visEs_take (es : List ExprL) {j : Nat} (h : j < es.length) (s : σ) : visEs vis (es.take (j + 1)) s = visE vis (eAt es j) (visEs vis (es.take j) s) := by
  rw [take_succ_eAt es h, visEs_append]; simp only [visEs]
end

end Go.Proofs.Ytmekdccgjgfiaaa
/- walk: all nodes of an expression are visited by a function value; which blocks the visits may change may depend on the world, and the nodes may be known to be of a kind. -/
namespace Go.Proofs.Ytmekdccgjgfiaaa
open Go.RowKit

mutual
/-- All nodes are of a kind. -/
def allE (P : Int → Int → Prop) : ExprL → Prop
  | .mk op num ks => P op num ∧ allEs P ks
def allEs (P : Int → Int → Prop) : List ExprL → Prop
  | [] => True
  | k :: ks => allE P k ∧ allEs P ks
end
theorem allE_eq (P : Int → Int → Prop) (e : ExprL) : allE P e ↔ P e.op e.num ∧ allEs P e.kids := by cases e; rfl
theorem allEs_at {P : Int → Int → Prop} {es : List ExprL} (h : allEs P es) {j : Nat} (hj : j < es.length) : allE P (eAt es j) := by
  induction es generalizing j with
  | nil => simp at hj
  | cons e es ih =>
    cases j with
    | zero => exact h.1
    | succ j => exact ih h.2 (by simpa using hj)
mutual
theorem allE_true : ∀ e : ExprL, allE (fun _ _ => True) e
  | .mk _ _ ks => ⟨trivial, allEs_true ks⟩
theorem allEs_true : ∀ es : List ExprL, allEs (fun _ _ => True) es
  | [] => trivial
  | e :: es => ⟨allE_true e, allEs_true es⟩
end

/-- From w to w' only blocks of M change, and none of the old ones has come into M. -/
structure StM (M : World → Nat → Prop) (w w' : World) : Prop where
  ext : Ext (M w) w w'
  old : ∀ r, r < w.heap.size → M w' r → M w r
theorem StM.refl (M : World → Nat → Prop) (w : World) : StM M w w := ⟨Ext.refl _ _, fun _ _ h => h⟩
theorem StM.trans {M : World → Nat → Prop} {w w' w'' : World} (h : StM M w w') (k : StM M w' w'') : StM M w w'' :=
  ⟨h.ext.then_ k.ext (fun i hi hm => h.old i hi hm), fun r hr hm => h.old r hr (k.old r (Nat.lt_of_lt_of_le hr h.ext.size) hm)⟩

end Go.Proofs.Ytmekdccgjgfiaaa
/- The program's types of expressions: all kids with more variables. -/
namespace Go.Proofs.Ytmekdccgjgfiaaa
open Go.RowKit

def fitN (_ num : Int) : Prop := -9223372036854775808 ≤ num ∧ num ≤ 9223372036854775807
theorem VR.mono {w : World} {base base' : Nat} {v : Value} {xs : List Int} (h : VR w base v xs) (hb : base' ≤ base) : VR w base' v xs := by
  obtain ⟨h1, h2⟩ := h
  refine ⟨h1, ?_⟩
  rcases h2 with h2 | ⟨g, cap, cur, e, hb', rest⟩
  · exact .inl h2
  · exact .inr ⟨g, cap, cur, e, Nat.le_trans hb hb', rest⟩
theorem VR.ints {w : World} {base : Nat} {a : Option Addr} {n c : Nat} {xs : List Int} (h : VR w base (.slice a n c) xs) : n = xs.length ∧ IntsL w (fun _ => True) a n xs := by
  obtain ⟨a', c', e, _, ho⟩ := h.slice
  injection e with e1 e2 e3
  subst e1 e2 e3
  exact ⟨rfl, ho.read.mono (fun _ _ => trivial)⟩

section
variable (ds : List DeclL) (sg : List SigL)

end
end Go.Proofs.Ytmekdccgjgfiaaa
/- The program's types of expressions: variables, let. -/
namespace Go.Proofs.Ytmekdccgjgfiaaa
open Go.RowKit

theorem Ext.atd {S : Nat → Prop} {w w' : World} (k : Ext S w.drew w') {p : Addr} (hs : ¬ S p.block) {v : Value} (h : w.cell? p = some v) : w'.cell? p = some v :=
  (k.cell (World.block_lt_of_cell? w.drew _ h) hs).trans h
theorem AppV.grow {w w' w'' : World} {base : Nat} {v v' : Value} {xs : List Int} {y : Int} (h : AppV w base v xs y v' w') (hx : Ext (fun r => v'.ownBlock = some r) w' w'') : Ext (fun r => v.ownBlock = some r) w w'' :=
  h.ext.then_ hx (fun i hi e => by
    rcases h.blk i e with h1 | h1
    · exact h1
    · omega)
theorem Ext.dt {S : Nat → Prop} {w w' : World} (h : Ext S w.drew w') : Ext S w w' := (Ext.refl _ w).drew.trans h

section
variable (ds : List DeclL) (sg : List SigL) (hok : sigsOk ds sg = true)
include hok

end
end Go.Proofs.Ytmekdccgjgfiaaa
/- The program's types of expressions: if. -/
namespace Go.Proofs.Ytmekdccgjgfiaaa
open Go.RowKit

theorem Rd.tailE {w : World} {D : Nat → Prop} {es : List ExprL} {b o n c : Nat} (h : Rd w D (encExprs es) (.slice (some ⟨b, o, none⟩) (n + 2) c)) : Rd w D (encExprs es.tail) (.slice (some ⟨b, o + 3, none⟩) (n + 1) (c - 1)) := by
  obtain ⟨e1, _⟩ := exprs_at h
  match es, e1 with
  | e :: es', e1 =>
    have hl : (rowsE es').length = n + 1 := by rw [exprs_len]; simpa using e1
    have hl2 : n + 2 = (rowsE (e :: es')).length := by rw [rowsE, List.length_cons, hl]
    rw [hl2] at h
    cases h with
    | arr s rows b o c vs hD h0 hs0 hc hm hs hcell hr =>
      have q := Rd.arr (w := w) (D := D) 3 (rowsE es') b (o + 3) (c - 1) (fun i j => vs (i + 1) j) hD (by omega) (by omega) (by omega) (by omega)
        (fun i hi => by have := hs (i + 1) (by simp [rowsE]; omega); simpa [rGet, rowsE] using this)
        (fun i j hi hj => by have := hcell (i + 1) j (by simp [rowsE]; omega) hj; rw [show o + 3 + i * 3 + j = o + (i + 1) * 3 + j by omega]; exact this)
        (fun i j hi hj => by have := hr (i + 1) j (by simp [rowsE]; omega) hj; simpa [rAt, rGet, rowsE] using this)
      rw [hl] at q
      exact q
theorem eAt_tail {es : List ExprL} {j : Nat} : eAt es.tail j = eAt es (j + 1) := by cases es <;> simp [eAt]
theorem nEs_tail (es : List ExprL) : nEs es.tail ≤ nEs es := by cases es <;> simp [nEs]
theorem tyTl_tail (ds : List DeclL) (sg : List SigL) (vars : List Int) (es : List ExprL) (fs : List (List Int)) : tyTl ds sg vars es fs = tyArms ds sg vars es.tail fs := by cases es <;> simp [tyTl, tyArms]

section
variable (ds : List DeclL) (sg : List SigL) (hok : sigsOk ds sg = true)
include hok

end
end Go.Proofs.Ytmekdccgjgfiaaa
