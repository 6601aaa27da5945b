/- A whole element written into a slice of the call's own; rows that are filled one by one. -/
import Derived.Test.YtkapldpmjkdmcaaGreatRAC
import Derived.Test.YtkapldpmjkdmcaaGreatRAE
import Derived.Test.YtkapldpmjkdmcaaGreatRAD
import Derived.IntWalk
namespace Go.Proofs.YtkapldpmjkdmcaaGreat
open Go.RowKit

/-- The cells from o on are written over. -/
def setAll (w : World) (b o : Nat) : List Value → World
  | [] => w
  | u :: us => setAll (w.setCell ⟨b, o, none⟩ u) b (o + 1) us
theorem setAll_ext (w : World) (b o : Nat) (us : List Value) : Ext (fun k => k = b) w (setAll w b o us) := by
  induction us generalizing w o with
  | nil => exact Ext.refl _ _
  | cons u us ih => exact ((Ext.refl (fun k => k = b) w).setCell (p := ⟨b, o, none⟩) (.inr rfl) u).trans (ih _ _)
theorem setAll_row {w : World} {b N : Nat} {T : TypeId} {f : Nat → Value} (h : w.rowIs b T N f) (us : List Value) (o : Nat) : (setAll w b o us).rowIs b T N (fun k => if o ≤ k ∧ k < o + us.length then us.getD (k - o) undef else f k) := by
  induction us generalizing w o f with
  | nil => exact h.congr (fun i _ => by rw [if_neg (by simp)])
  | cons u us ih =>
    refine (ih (h.set o u) (o + 1)).congr (fun i _ => ?_)
    by_cases e : i = o
    · subst e
      rw [if_neg (by omega), if_pos rfl, if_pos (by simp)]
      simp [List.getD]
    · by_cases e1 : o + 1 ≤ i ∧ i < o + 1 + us.length
      · rw [if_pos e1, if_pos (by simp; omega), show i - o = (i - (o + 1)) + 1 by omega]
        simp [List.getD]
      · rw [if_neg e1, if_neg e, if_neg (by simp; omega)]

section
variable {D : Nat → Prop} {w : World}
theorem Own.cells {s : Nat} {rows : List (List Dat)} {a : Option Addr} {n c : Nat} (h : Own w D (.arr s rows) (.slice a n c)) {j : Nat} (hj : j < n) : ∃ b, a = some ⟨b, 0, none⟩ ∧ D b ∧ b < w.heap.size ∧ (∀ o, w.frozen? ⟨b, o, none⟩ = false) ∧ ∀ l, l < s → ∃ u, w.cell? ⟨b, j * s + l, none⟩ = some u := by
  cases h with
  | nil => omega
  | arr D E s rows b c T N f hD h0 hs0 hc hm hs' hN hrow hE hdis hr =>
    exact ⟨b, rfl, hD, hrow.lt, hrow.frozen, fun l hl => ⟨_, hrow.cell (Nat.lt_of_lt_of_le (idx_lt hj hl) hN)⟩⟩
theorem Own.putRow {s : Nat} {rows : List (List Dat)} {b n c : Nat} (h : Own w D (.arr s rows) (.slice (some ⟨b, 0, none⟩) n c)) {j : Nat} (hj : j < n) (us : List Value) (ds : List Dat) (E : Nat → Nat → Prop)
    (hus : us.length = s) (hds : ds.length = s) (ho : ∀ i, i < s → ∃ u, us[i]? = some u ∧ Own w (E i) (dGet ds i) u) (hE : ∀ i k, i < s → E i k → ¬ D k) (hdis : ∀ i i' k, i < s → i' < s → E i k → E i' k → i = i') :
    Own (setAll w b (j * s) us) (fun k => D k ∨ ∃ i, i < s ∧ E i k) (.arr s (rows.set j ds)) (.slice (some ⟨b, 0, none⟩) n c) := by
  cases h with
  | nil => omega
  | arr D E0 s rows b c T N f hD h0 hs0 hc hm hs' hN hrow hE0 hdis0 hr =>
    have hx := setAll_ext w b (j * s) us
    have hlen : (rows.set j ds).length = rows.length := by simp
    have q := Own.arr (w := setAll w b (j * s) us) (fun k => D k ∨ ∃ i, i < s ∧ E i k) (fun k l => if k = j then E l else E0 k l) s (rows.set j ds) b c T N _ (.inl hD) (by rw [hlen]; exact h0) hs0 (by rw [hlen]; exact hc) (by rw [hlen]; exact hm)
      (fun i hi => by
        rw [hlen] at hi
        rw [rGet_set hj]
        by_cases e : i = j
        · rw [if_pos e, hds]
        · rw [if_neg e, hs' i hi]) (by rw [hlen]; exact hN) (setAll_row hrow us (j * s))
      (by
        rw [hlen]
        intro i l k hi hl hk
        by_cases e : i = j
        · rw [if_pos e] at hk
          exact ⟨.inr ⟨l, hl, hk⟩, fun e' => hE l k hl hk (e' ▸ hD)⟩
        · rw [if_neg e] at hk
          exact ⟨.inl (hE0 i l k hi hl hk).1, (hE0 i l k hi hl hk).2⟩)
      (by
        rw [hlen]
        intro i l i' l' k hi hl hi' hl' hk hk'
        by_cases e : i = j <;> by_cases e' : i' = j
        · rw [if_pos e] at hk; rw [if_pos e'] at hk'
          exact ⟨by omega, hdis l l' k hl hl' hk hk'⟩
        · rw [if_pos e] at hk; rw [if_neg e'] at hk'
          exact absurd (hE0 i' l' k hi' hl' hk').1 (hE l k hl hk)
        · rw [if_neg e] at hk; rw [if_pos e'] at hk'
          exact absurd (hE0 i l k hi hl hk).1 (hE l' k hl' hk')
        · rw [if_neg e] at hk; rw [if_neg e'] at hk'
          exact hdis0 i l i' l' k hi hl hi' hl' hk hk')
      (fun i l hi hl => by
        rw [hlen] at hi
        have hlt := idx_lt hi hl
        by_cases e : i = j
        · subst e
          obtain ⟨u, hu, hown⟩ := ho l hl
          have e1 : (if i * s ≤ i * s + l ∧ i * s + l < i * s + us.length then us.getD (i * s + l - i * s) undef else f (i * s + l)) = u := by
            rw [if_pos (by omega), Nat.add_sub_cancel_left]; simp [List.getD, hu]
          show Own _ (if i = i then E l else E0 i l) _ (if i * s ≤ i * s + l ∧ i * s + l < i * s + us.length then us.getD (i * s + l - i * s) undef else f (i * s + l))
          rw [if_pos rfl, e1, rAt, rGet_set hj, if_pos rfl]
          exact hown.ext hx (fun k hk h => hE l k hl hk (h ▸ hD))
        · have hne : ¬ (j * s ≤ i * s + l ∧ i * s + l < j * s + us.length) := by
            rintro ⟨q1, q2⟩
            have : i * s + l = j * s + (i * s + l - j * s) := by omega
            exact e (idx_inj hl (by omega) this).1
          show Own _ (if i = j then E l else E0 i l) _ (if j * s ≤ i * s + l ∧ i * s + l < j * s + us.length then us.getD (i * s + l - j * s) undef else f (i * s + l))
          rw [if_neg e, if_neg hne, rAt, rGet_set hj, if_neg e]
          exact (hr i l hi hl).ext hx (fun k hk h => (hE0 i l k hi hl hk).2 h))
    rw [hlen] at q
    exact q
end

/-- The values us hold the data ds in rows of the call's own, whose blocks lie from lo on and below hi. -/
def ToS (lo hi : Nat) (w : World) (ds : List Dat) (us : List Value) : Prop := ∃ E : Nat → Nat → Prop, (∀ i k, E i k → lo ≤ k ∧ k < hi) ∧ (∀ i i' k, E i k → E i' k → i = i') ∧ us.length = ds.length ∧
  ∀ i, i < ds.length → ∃ u, us[i]? = some u ∧ Own w (E i) (dGet ds i) u
theorem ToS.nil (lo hi : Nat) (w : World) : ToS lo hi w [] [] := ⟨fun _ _ => False, by simp, by simp, rfl, by simp⟩
theorem ToS.ext {S : Nat → Prop} {lo hi : Nat} {w w' : World} {ds : List Dat} {us : List Value} (h : ToS lo hi w ds us) (hx : Ext S w w') (hs : ∀ k, lo ≤ k → k < hi → ¬ S k) : ToS lo hi w' ds us := by
  obtain ⟨E, h1, h2, h3, h4⟩ := h
  exact ⟨E, h1, h2, h3, fun i hi => by obtain ⟨u, hu, ho⟩ := h4 i hi; exact ⟨u, hu, ho.ext hx (fun k hk => hs k (h1 i k hk).1 (h1 i k hk).2)⟩⟩
theorem ToS.own {w : World} {m : Nat} {d : Dat} {u : Value} (h : Own w (fun k => m ≤ k) d u) : ToS m w.heap.size w [d] [u] := by
  refine ⟨fun i k => i = 0 ∧ m ≤ k ∧ k < w.heap.size, fun i k hk => hk.2, fun i i' k hk hk' => by omega, rfl, fun i hi => ?_⟩
  obtain rfl : i = 0 := by simpa using hi
  exact ⟨u, rfl, h.lt.mono (fun k hk => ⟨rfl, hk⟩)⟩
theorem ToS.int (lo hi : Nat) (w : World) (z : Int) : ToS lo hi w [.num z] [.int .i64 z] := by
  refine ⟨fun _ _ => False, by simp, by simp, rfl, fun i hi => ?_⟩
  obtain rfl : i = 0 := by simpa using hi
  exact ⟨_, rfl, .num _ z⟩
theorem ToS.app {lo m hi : Nat} {w : World} {ds ds2 : List Dat} {us us2 : List Value} (h : ToS lo m w ds us) (h2 : ToS m hi w ds2 us2) (hlo : lo ≤ m) (hhi : m ≤ hi) : ToS lo hi w (ds ++ ds2) (us ++ us2) := by
  obtain ⟨E, q1, q2, q3, q4⟩ := h
  obtain ⟨E', r1, r2, r3, r4⟩ := h2
  refine ⟨fun i => if i < ds.length then E i else E' (i - ds.length), fun i k hk => ?_, fun i i' k hk hk' => ?_, by simp [q3, r3], fun i hi => ?_⟩
  · by_cases e : i < ds.length
    · simp only [if_pos e] at hk; have := q1 i k hk; omega
    · simp only [if_neg e] at hk; have := r1 _ k hk; omega
  · by_cases e : i < ds.length <;> by_cases e' : i' < ds.length
    · simp only [if_pos e] at hk; simp only [if_pos e'] at hk'; exact q2 i i' k hk hk'
    · simp only [if_pos e] at hk; simp only [if_neg e'] at hk'
      have := q1 i k hk; have := r1 _ k hk'; omega
    · simp only [if_neg e] at hk; simp only [if_pos e'] at hk'
      have := q1 i' k hk'; have := r1 _ k hk; omega
    · simp only [if_neg e] at hk; simp only [if_neg e'] at hk'
      have := r2 _ _ k hk hk'; omega
  · by_cases e : i < ds.length
    · obtain ⟨u, hu, ho⟩ := q4 i e
      refine ⟨u, by rw [List.getElem?_append_left (by omega)]; exact hu, ?_⟩
      show Own w (if i < ds.length then E i else E' (i - ds.length)) _ _
      rw [if_pos e]
      have : dGet (ds ++ ds2) i = dGet ds i := by simp [dGet, List.getD, List.getElem?_append_left e]
      rw [this]; exact ho
    · have hl : i - ds.length < ds2.length := by simp at hi; omega
      obtain ⟨u, hu, ho⟩ := r4 _ hl
      refine ⟨u, by rw [List.getElem?_append_right (by omega), q3]; exact hu, ?_⟩
      show Own w (if i < ds.length then E i else E' (i - ds.length)) _ _
      rw [if_neg e]
      have : dGet (ds ++ ds2) i = dGet ds2 (i - ds.length) := by simp [dGet, List.getD, List.getElem?_append_right (Nat.le_of_not_lt e)]
      rw [this]; exact ho
/-- A whole element into a slice of the call's own. -/
theorem Own.put {w : World} {lo hi hi' s : Nat} {rows : List (List Dat)} {b n c : Nat} (h : Own w (fun k => lo ≤ k ∧ k < hi) (.arr s rows) (.slice (some ⟨b, 0, none⟩) n c)) {j : Nat} (hj : j < n) (us : List Value) (ds : List Dat)
    (hds : ds.length = s) (ht : ToS hi hi' w ds us) (hlo : lo ≤ hi) (hhi : hi ≤ hi') : Own (setAll w b (j * s) us) (fun k => lo ≤ k ∧ k < hi') (.arr s (rows.set j ds)) (.slice (some ⟨b, 0, none⟩) n c) := by
  obtain ⟨E, h1, h2, h3, h4⟩ := ht
  refine (h.putRow hj us ds E (by omega) hds (fun i hi => h4 i (by omega)) (fun i k _ hk hk' => by have := h1 i k hk; omega) (fun i i' k _ _ => h2 i i' k)).mono (fun k hk => ?_)
  rcases hk with hk | ⟨i, _, hk⟩
  · omega
  · have := h1 i k hk; omega
theorem rowOf (w : World) (c : Array Value) (T : TypeId) : (w.alloc (.cells c T)).rowIs w.heap.size T c.size (fun i => c.getD i undef) := World.rowIs_alloc w c T _ (fun i hi => by simp [Array.getD, hi])

/-- The first j of rows, then z. -/
def rowsTo (rows : List (List Dat)) (z : List Dat) (j : Nat) : List (List Dat) := rows.take j ++ List.replicate (rows.length - j) z
end Go.Proofs.YtkapldpmjkdmcaaGreat
/- shift of the reference, whole. -/
namespace Go.Proofs.YtkapldpmjkdmcaaGreat
open Go.RowKit

theorem frozen_keep {w w' : World} (p : Keep w.drew w') {q : Addr} {v : Value} (h : w.cell? q = some v) (hf : w.frozen? q = false) : w'.frozen? q = false := by
  have hb : q.block < w.drew.heap.size := World.block_lt_of_cell? _ _ h
  rw [p.frozen hb (fun h => h)]; exact hf

end Go.Proofs.YtkapldpmjkdmcaaGreat
/- varsFit of the reference. -/
namespace Go.Proofs.YtkapldpmjkdmcaaGreat
open Go.RowKit

/-- One node's variable is in 0..99. -/
def vfN (op num : Int) : Bool := decide (op ≠ 12) || decide (0 ≤ num ∧ num ≤ 99)
mutual
/-- All variables are in 0..99. -/
def vfE : ExprL → Bool
  | .mk op num ks => vfN op num && vfEs ks
def vfEs : List ExprL → Bool
  | [] => true
  | e :: es => vfE e && vfEs es
end
end Go.Proofs.YtkapldpmjkdmcaaGreat
/- walk: all nodes of an expression are visited by a function value. -/
namespace Go.Proofs.YtkapldpmjkdmcaaGreat
open Go.RowKit

section
variable {σ : Type} (vis : Int → Int → σ → σ)
mutual
/-- What comes of visiting all nodes. -/
def visE : ExprL → σ → σ
  | .mk op num ks, s => visEs ks (vis op num s)
def visEs : List ExprL → σ → σ
  | [], s => s
  | k :: ks, s => visEs ks (visE k s)
end
theorem visE_eq (e : ExprL) (s : σ) : visE vis e s = visEs vis e.kids (vis e.op e.num s) := by cases e; rfl
theorem visEs_append (a b : List ExprL) (s : σ) : visEs vis (a ++ b) s = visEs vis b (visEs vis a s) := by
  induction a generalizing s with
  | nil => rfl
  | cons k ks ih => simp only [List.cons_append, visEs, ih]
theorem visEs_take (es : List ExprL) {j : Nat} (h : j < es.length) (s : σ) : visEs vis (es.take (j + 1)) s = visE vis (eAt es j) (visEs vis (es.take j) s) := by
  rw [take_succ_eAt es h, visEs_append]; simp only [visEs]
end

set_option maxRecDepth 100000 in
set_option maxHeartbeats 2000000 in
theorem walk_n {σ : Type} (vis : Int → Int → σ → σ) (F : FuncId) (cap : Array Value) (S : Nat → Prop) (Inv : Nat → σ → World → Prop)
    (hF : ∀ (args : Array Value) (w : World), (callFunc F args).run Tryz.prog w = .ok (.enter F args) w)
    (hI : ∀ k s w w', Inv k s w → Keep w w' → Inv k s w')
    (hv : ∀ (k : Nat) (s : σ) (op num : Int) (a : Option Addr) (n c : Nat) (w : World), k < 30 → Inv k s w → Calls Tryz.prog F (#[.agg #[.int .i64 op, .int .i64 num, .slice a n c]] ++ cap) w fun e w' => e = .returned (.tuple #[]) ∧ Inv (k + 1) (vis op num s) w' ∧ Ext S w w')
    (N : Nat) : ∀ (op num : Int) (es : List ExprL), nEs es < N → ∀ (k : Nat) (s : σ) (a : Option Addr) (n c : Nat) (D : Nat → Prop) (w : World), Rd w D (encExprs es) (.slice a n c) → (∀ q, D q → ¬ S q) → (∀ q, S q → q < w.heap.size) → k + (nEs es + 1) ≤ 30 → Inv k s w →
    Calls Tryz.prog 64 #[.agg #[.int .i64 op, .int .i64 num, .slice a n c], .func (.func F) #[] cap] w fun e w' => e = .returned (.tuple #[]) ∧ Inv (k + (nEs es + 1)) (visEs vis es (vis op num s)) w' ∧ Ext S w w' := by
  induction N with
  | zero => intro _ _ es h; omega
  | succ N ihN =>
  intro op num es hN k s a n c D w h hDS hSw hk hInv
  refine calls_k fun Q hQ => ?_
  have K0 := Keep.al w (.cells #[.int .i64 op, .int .i64 num, .slice a n c] 58)
  have hcell := boxk (w2 := w.alloc (.cells #[.int .i64 op, .int .i64 num, .slice a n c] 58)) (Ext.refl _ _) 2
  have h1 := h.k K0
  have I1 := Lib.hid (hI _ _ _ _ hInv K0)
  have HV := Lib.hid hv
  have HI := Lib.hid hI
  have HDS := Lib.hid hDS
  have IH := Lib.hid (fun (j : Nat) (hj : j < es.length) => ihN (eAt es j).op (eAt es j).num (eAt es j).kids (by have := nE_le es hj; have := nE_eq (eAt es j); omega))
  have HB : ¬ S w.heap.size := fun hq => by have := hSw _ hq; omega
  have HSw := Lib.hid hSw
  clear hv hI hInv ihN hN hcell h hDS hSw
  go_enter Tryz.func64, Tryz.ntmps64
  go_wp2_with fail
  refine (HV.out k s op num a n c _ (by omega) I1.out).mono ?_
  rintro e w1 ⟨rfl, I2, X1⟩
  have x2 := X1.cell (p := ⟨w.heap.size, 2, none⟩) (by simp) HB
  simp at x2
  have h2 := h1.ext X1 HDS.out
  have X0 : Ext S w w1 := (Keep.to K0).trans X1
  obtain ⟨e1, hnc, hm, hat⟩ := exprs_at h2
  have HL := Lib.hid e1
  have HA := Lib.hid hat
  have J2 := Lib.hid I2
  clear e1 hat h1 I2 I1
  have HS0 : Hid (∀ q, S q → q < w1.heap.size) := fun q hq => Nat.lt_of_lt_of_le (HSw.out q hq) X0.size
  go_wp2_with fail
  go_loopw [12] (fun iv wr => ∃ j : Nat, j ≤ n ∧ iv = .int .i64 j ∧ Hid (Inv (k + 1 + nEs (es.take j)) (visEs vis (es.take j) (vis op num s)) wr) ∧ Ext S w1 wr) (fun i _ => n - (intOf i).toNat)
  case atStart => exact ⟨0, Nat.zero_le _, rfl, by show Inv _ _ _; simpa [nEs, visEs] using J2.out, Ext.refl _ _⟩
  case round =>
    obtain ⟨j, hj, rfl, hI, hX⟩ := hrel
    by_cases hlt : j < n
    · have hst := nEs_take es (j := j) (by have := HL.out; omega)
      have hle := nEs_take_le es (j + 1)
      have hee := nE_eq (eAt es j)
      have hvv := visEs_take vis es (j := j) (by have := HL.out; omega) (vis op num s)
      rw [visE_eq] at hvv
      obtain ⟨b, o, rfl, hd, a2, n2, c2, d0, d1, d2, r2⟩ := HA.out j hlt
      have g0 := (hX.cell (World.block_lt_of_cell? _ _ d0) (HDS.out _ hd)).trans d0
      have g1 := (hX.cell (World.block_lt_of_cell? _ _ d1) (HDS.out _ hd)).trans d1
      have g2 := (hX.cell (World.block_lt_of_cell? _ _ d2) (HDS.out _ hd)).trans d2
      have ka := Keep.al wr (.cells #[.int .i64 (eAt es j).op, .int .i64 (eAt es j).num, .slice a2 n2 c2] 58)
      have q2 := (r2.ext hX HDS.out).k ka
      have I3 := Lib.hid (HI.out _ _ _ _ hI.out ka)
      have hb : k + 1 + nEs (es.take j) + (nEs (eAt es j).kids + 1) ≤ 30 := by omega
      have HS := Lib.hid hst
      have HE := Lib.hid hee
      have HV2 := Lib.hid hvv
      have HX2 := Lib.hid (hX.trans (Keep.to ka))
      have HS3 : ∀ q, S q → q < (wr.alloc (.cells #[.int .i64 (eAt es j).op, .int .i64 (eAt es j).num, .slice a2 n2 c2] 58)).heap.size := fun q hq => by
        have := HS0.out q hq; have := hX.size; simp; omega
      have HSS := Lib.hid HS3
      clear d0 d1 d2 r2 hst hee hvv hI hX ka HS3 hle
      go_wp2_with fail
      refine (IH.out j (by have := HL.out; omega) _ _ _ _ _ D _ q2 HDS.out HSS.out hb I3.out).mono ?_
      rintro e w2 ⟨rfl, I4, X2⟩
      have I5 : Hid (Inv (k + 1 + nEs (es.take (j + 1))) (visEs vis (es.take (j + 1)) (vis op num s)) w2) := by
        show Inv _ _ _
        rw [HV2.out, HS.out, HE.out, ← Nat.add_assoc]; exact I4
      clear I4
      go_wp2_with fail
      go_roundw
      case rel => exact ⟨j + 1, by omega, by go_num, I5, HX2.out.trans X2⟩
      case measure => simp [intOf]; omega
    · have HJ : Hid (j = n) := by show _ = _; omega
      go_wp2_with fail
      refine bodyPost_end (v := .tuple #[]) (by simp [results, Tryz.results64, go_sem]) rfl (fin_ hQ ⟨rfl, ?_, X0.trans hX⟩)
      have e := HJ.out
      subst e
      have hI2 := hI.out
      rw [List.take_of_length_le (Nat.le_of_eq HL.out)] at hI2
      rw [show k + (nEs es + 1) = k + 1 + nEs es by omega]
      exact hI2
end Go.Proofs.YtkapldpmjkdmcaaGreat
/- walk: all nodes of an expression are visited by a function value; which blocks the visits may change may depend on the world, and the nodes may be known to be of a kind. -/
namespace Go.Proofs.YtkapldpmjkdmcaaGreat
open Go.RowKit

mutual
/-- All nodes are of a kind. -/
def allE (P : Int → Int → Prop) : ExprL → Prop
  | .mk op num ks => P op num ∧ allEs P ks
def allEs (P : Int → Int → Prop) : List ExprL → Prop
  | [] => True
  | k :: ks => allE P k ∧ allEs P ks
end
theorem allE_eq (P : Int → Int → Prop) (e : ExprL) : allE P e ↔ P e.op e.num ∧ allEs P e.kids := by cases e; rfl
theorem allEs_at {P : Int → Int → Prop} {es : List ExprL} (h : allEs P es) {j : Nat} (hj : j < es.length) : allE P (eAt es j) := by
  induction es generalizing j with
  | nil => simp at hj
  | cons e es ih =>
    cases j with
    | zero => exact h.1
    | succ j => exact ih h.2 (by simpa using hj)
mutual
theorem allE_true : ∀ e : ExprL, allE (fun _ _ => True) e
  | .mk _ _ ks => ⟨trivial, allEs_true ks⟩
theorem allEs_true : ∀ es : List ExprL, allEs (fun _ _ => True) es
  | [] => trivial
  | e :: es => ⟨allE_true e, allEs_true es⟩
end

/-- From w to w' only blocks of M change, and none of the old ones has come into M. -/
structure StM (M : World → Nat → Prop) (w w' : World) : Prop where
  ext : Ext (M w) w w'
  old : ∀ r, r < w.heap.size → M w' r → M w r
theorem StM.refl (M : World → Nat → Prop) (w : World) : StM M w w := ⟨Ext.refl _ _, fun _ _ h => h⟩
theorem StM.trans {M : World → Nat → Prop} {w w' w'' : World} (h : StM M w w') (k : StM M w' w'') : StM M w w'' :=
  ⟨h.ext.then_ k.ext (fun i hi hm => h.old i hi hm), fun r hr hm => h.old r hr (k.old r (Nat.lt_of_lt_of_le hr h.ext.size) hm)⟩

set_option maxRecDepth 100000 in
set_option maxHeartbeats 2000000 in
theorem walk_m {σ : Type} (vis : Int → Int → σ → σ) (F : FuncId) (cap : Array Value) (P : Int → Int → Prop) (M : World → Nat → Prop) (Inv : Nat → σ → World → Prop)
    (hF : ∀ (args : Array Value) (w : World), (callFunc F args).run Tryz.prog w = .ok (.enter F args) w)
    (hI : ∀ k s w w', Inv k s w → Keep w w' → Inv k s w' ∧ ∀ r, M w' r → M w r)
    (hM : ∀ k s w r, Inv k s w → M w r → r < w.heap.size)
    (hv : ∀ (k : Nat) (s : σ) (op num : Int) (a : Option Addr) (n c : Nat) (w : World), k < 30 → P op num → Inv k s w → Calls Tryz.prog F (#[.agg #[.int .i64 op, .int .i64 num, .slice a n c]] ++ cap) w fun e w' => e = .returned (.tuple #[]) ∧ Inv (k + 1) (vis op num s) w' ∧ StM M w w')
    (N : Nat) : ∀ (op num : Int) (es : List ExprL), nEs es < N → P op num → allEs P es → ∀ (k : Nat) (s : σ) (a : Option Addr) (n c : Nat) (D : Nat → Prop) (w : World), Rd w D (encExprs es) (.slice a n c) → (∀ q, D q → q < w.heap.size ∧ ¬ M w q) → k + (nEs es + 1) ≤ 30 → Inv k s w →
    Calls Tryz.prog 64 #[.agg #[.int .i64 op, .int .i64 num, .slice a n c], .func (.func F) #[] cap] w fun e w' => e = .returned (.tuple #[]) ∧ Inv (k + (nEs es + 1)) (visEs vis es (vis op num s)) w' ∧ StM M w w' := by
  induction N with
  | zero => intro _ _ es h; omega
  | succ N ihN =>
  intro op num es hN hP hPs k s a n c D w h hD hk hInv
  refine calls_k fun Q hQ => ?_
  have K0 := Keep.al w (.cells #[.int .i64 op, .int .i64 num, .slice a n c] 58)
  have hcell := boxk (w2 := w.alloc (.cells #[.int .i64 op, .int .i64 num, .slice a n c] 58)) (Ext.refl _ _) 2
  have h1 := h.k K0
  have I1 := Lib.hid (hI _ _ _ _ hInv K0).1
  have M1 := (hI _ _ _ _ hInv K0).2
  have ST0 : StM M w (w.alloc (.cells #[.int .i64 op, .int .i64 num, .slice a n c] 58)) := ⟨Keep.to K0, fun r _ hr => M1 r hr⟩
  have HV := Lib.hid hv
  have HI := Lib.hid hI
  have HM := Lib.hid hM
  have HP := Lib.hid hP
  have HPS := Lib.hid hPs
  have IH := Lib.hid (fun (j : Nat) (hj : j < es.length) => ihN (eAt es j).op (eAt es j).num (eAt es j).kids (by have := nE_le es hj; have := nE_eq (eAt es j); omega))
  have HB : ¬ M (w.alloc (.cells #[.int .i64 op, .int .i64 num, .slice a n c] 58)) w.heap.size := fun hq => by have := hM _ _ _ _ hInv (M1 _ hq); omega
  have HD0 := Lib.hid hD
  have HD1 : ∀ q, D q → ¬ M (w.alloc (.cells #[.int .i64 op, .int .i64 num, .slice a n c] 58)) q := fun q hq hm => (hD q hq).2 (M1 q hm)
  have HDS := Lib.hid HD1
  clear hv hI hM hInv ihN hN hcell h hD M1 HD1 hP hPs
  go_enter Tryz.func64, Tryz.ntmps64
  go_wp2_with fail
  refine (HV.out k s op num a n c _ (by omega) HP.out I1.out).mono ?_
  rintro e w1 ⟨rfl, I2, X1⟩
  have x2 := X1.ext.cell (p := ⟨w.heap.size, 2, none⟩) (by simp) HB
  simp at x2
  have h2 := h1.ext X1.ext HDS.out
  have X0 : StM M w w1 := ST0.trans X1
  obtain ⟨e1, hnc, hm, hat⟩ := exprs_at h2
  have HL := Lib.hid e1
  have HA := Lib.hid hat
  have J2 := Lib.hid I2
  clear e1 hat h1 I2 I1
  have HS0 : Hid (∀ q, D q → q < w1.heap.size ∧ ¬ M w1 q) := fun q hq => ⟨Nat.lt_of_lt_of_le (HD0.out q hq).1 X0.ext.size, fun hm => (HD0.out q hq).2 (X0.old q (HD0.out q hq).1 hm)⟩
  go_wp2_with fail
  go_loopw [12] (fun iv wr => ∃ j : Nat, j ≤ n ∧ iv = .int .i64 j ∧ Hid (Inv (k + 1 + nEs (es.take j)) (visEs vis (es.take j) (vis op num s)) wr) ∧ StM M w1 wr) (fun i _ => n - (intOf i).toNat)
  case atStart => exact ⟨0, Nat.zero_le _, rfl, by show Inv _ _ _; simpa [nEs, visEs] using J2.out, StM.refl _ _⟩
  case round =>
    obtain ⟨j, hj, rfl, hI, hX⟩ := hrel
    by_cases hlt : j < n
    · have hst := nEs_take es (j := j) (by have := HL.out; omega)
      have hle := nEs_take_le es (j + 1)
      have hee := nE_eq (eAt es j)
      have hvv := visEs_take vis es (j := j) (by have := HL.out; omega) (vis op num s)
      rw [visE_eq] at hvv
      obtain ⟨b, o, rfl, hd, a2, n2, c2, d0, d1, d2, r2⟩ := HA.out j hlt
      have g0 := (hX.ext.cell (World.block_lt_of_cell? _ _ d0) (HS0.out _ hd).2).trans d0
      have g1 := (hX.ext.cell (World.block_lt_of_cell? _ _ d1) (HS0.out _ hd).2).trans d1
      have g2 := (hX.ext.cell (World.block_lt_of_cell? _ _ d2) (HS0.out _ hd).2).trans d2
      have ka := Keep.al wr (.cells #[.int .i64 (eAt es j).op, .int .i64 (eAt es j).num, .slice a2 n2 c2] 58)
      have q2 := (r2.ext hX.ext (fun q hq => (HS0.out q hq).2)).k ka
      have IK := HI.out _ _ _ _ hI.out ka
      have I3 := Lib.hid IK.1
      have ST1 : StM M wr (wr.alloc (.cells #[.int .i64 (eAt es j).op, .int .i64 (eAt es j).num, .slice a2 n2 c2] 58)) := ⟨Keep.to ka, fun r _ hr => IK.2 r hr⟩
      have hb : k + 1 + nEs (es.take j) + (nEs (eAt es j).kids + 1) ≤ 30 := by omega
      have HS := Lib.hid hst
      have HE := Lib.hid hee
      have HV2 := Lib.hid hvv
      have HX2 := Lib.hid (hX.trans ST1)
      have HS3 : ∀ q, D q → q < (wr.alloc (.cells #[.int .i64 (eAt es j).op, .int .i64 (eAt es j).num, .slice a2 n2 c2] 58)).heap.size ∧ ¬ M (wr.alloc (.cells #[.int .i64 (eAt es j).op, .int .i64 (eAt es j).num, .slice a2 n2 c2] 58)) q := fun q hq => ⟨Nat.lt_of_lt_of_le (HS0.out q hq).1 HX2.out.ext.size, fun hm => (HS0.out q hq).2 (HX2.out.old q (HS0.out q hq).1 hm)⟩
      have HPJ := Lib.hid ((allE_eq P _).1 (allEs_at HPS.out (j := j) (by have := HL.out; omega)))
      have HSS := Lib.hid HS3
      clear d0 d1 d2 r2 hst hee hvv hI hX ka HS3 hle IK ST1
      go_wp2_with fail
      refine (IH.out j (by have := HL.out; omega) HPJ.out.1 HPJ.out.2 _ _ _ _ _ D _ q2 HSS.out hb I3.out).mono ?_
      rintro e w2 ⟨rfl, I4, X2⟩
      have I5 : Hid (Inv (k + 1 + nEs (es.take (j + 1))) (visEs vis (es.take (j + 1)) (vis op num s)) w2) := by
        show Inv _ _ _
        rw [HV2.out, HS.out, HE.out, ← Nat.add_assoc]; exact I4
      clear I4
      go_wp2_with fail
      go_roundw
      case rel => exact ⟨j + 1, by omega, by go_num, I5, HX2.out.trans X2⟩
      case measure => simp [intOf]; omega
    · have HJ : Hid (j = n) := by show _ = _; omega
      go_wp2_with fail
      refine bodyPost_end (v := .tuple #[]) (by simp [results, Tryz.results64, go_sem]) rfl (fin_ hQ ⟨rfl, ?_, X0.trans hX⟩)
      have e := HJ.out
      subst e
      have hI2 := hI.out
      rw [List.take_of_length_le (Nat.le_of_eq HL.out)] at hI2
      rw [show k + (nEs es + 1) = k + 1 + nEs es by omega]
      exact hI2
end Go.Proofs.YtkapldpmjkdmcaaGreat
/- Plain facts for the laws on nodes, mentions and shifts. -/
namespace Go.Proofs.YtkapldpmjkdmcaaGreat
open Go.RowKit

theorem expr_eta (e : ExprL) : ExprL.mk e.op e.num e.kids = e := by cases e; rfl

/-! ### Shifts -/
mutual
theorem vfE_all : ∀ e : ExprL, vfE e = true ↔ allE (fun op num => op = 12 → 0 ≤ num ∧ num ≤ 99) e
  | .mk op num ks => by
    have := vfEs_allEs ks
    rw [vfE, allE, Bool.and_eq_true, this, vfN]
    simp only [Bool.or_eq_true, decide_eq_true_eq, ne_eq]
    constructor
    · rintro ⟨h1, h2⟩
      exact ⟨fun h => h1.resolve_left (fun hn => hn h), h2⟩
    · rintro ⟨h1, h2⟩
      refine ⟨?_, h2⟩
      by_cases h : op = 12
      · exact .inr (h1 h)
      · exact .inl h
theorem vfEs_allEs : ∀ es : List ExprL, vfEs es = true ↔ allEs (fun op num => op = 12 → 0 ≤ num ∧ num ≤ 99) es
  | [] => by simp [vfEs, allEs]
  | e :: es => by
    have h1 := vfE_all e
    have h2 := vfEs_allEs es
    rw [vfEs, allEs, Bool.and_eq_true, h1, h2]
end

theorem shN_small {k d op num : Int} (h : op = 12 → 0 ≤ num ∧ num ≤ 99) (hd : 0 ≤ d ∧ d ≤ 99) : shN k d op num = if op = 12 ∧ k ≤ num then num + d else num := by
  unfold shN
  split
  · next h1 =>
    have := h h1.1
    rw [IntWalk.wrap64_in _ (by omega)]
  · rfl

mutual
/-- A shift by 0 changes nothing. -/
theorem shE_zero (k : Int) : ∀ e : ExprL, vfE e = true → shE k 0 e = e
  | .mk op num ks => fun h => by
    rw [vfE, Bool.and_eq_true] at h
    have h1 := shEs_zero k ks h.2
    have h2 : op = 12 → 0 ≤ num ∧ num ≤ 99 := by have := h.1; simp only [vfN, Bool.or_eq_true, decide_eq_true_eq, ne_eq] at this; exact fun e => this.resolve_left (fun hn => hn e)
    rw [shE, h1, shN_small h2 (by omega)]
    congr 1
    split <;> omega
theorem shEs_zero (k : Int) : ∀ es : List ExprL, vfEs es = true → shEs k 0 es = es
  | [] => fun _ => rfl
  | e :: es => fun h => by
    rw [vfEs, Bool.and_eq_true] at h
    rw [shEs, shE_zero k e h.1, shEs_zero k es h.2]
end
mutual
theorem nE_shE (k d : Int) : ∀ e : ExprL, nE (shE k d e) = nE e
  | .mk op num ks => by rw [shE, nE, nE, nEs_shEs k d ks]
theorem nEs_shEs (k d : Int) : ∀ es : List ExprL, nEs (shEs k d es) = nEs es
  | [] => rfl
  | e :: es => by rw [shEs, nEs, nEs, nE_shE k d e, nEs_shEs k d es]
end
mutual
/-- Shifts add up. -/
theorem shE_twice (k : Int) {d d2 : Int} (hd : 0 ≤ d ∧ d ≤ 99) (hd2 : 0 ≤ d2 ∧ d2 ≤ 99) (hs : d + d2 ≤ 99) : ∀ e : ExprL, vfE e = true → vfE (shE k d e) = true → shE k d2 (shE k d e) = shE k (d + d2) e
  | .mk op num ks => fun h h' => by
    rw [shE, vfE, Bool.and_eq_true] at h'
    rw [vfE, Bool.and_eq_true] at h
    have h1 := shEs_twice k hd hd2 hs ks h.2 h'.2
    have h2 : op = 12 → 0 ≤ num ∧ num ≤ 99 := by have := h.1; simp only [vfN, Bool.or_eq_true, decide_eq_true_eq, ne_eq] at this; exact fun e => this.resolve_left (fun hn => hn e)
    have h3 : op = 12 → 0 ≤ shN k d op num ∧ shN k d op num ≤ 99 := by have := h'.1; simp only [vfN, Bool.or_eq_true, decide_eq_true_eq, ne_eq] at this; exact fun e => this.resolve_left (fun hn => hn e)
    rw [shE, shE, shE, h1]
    congr 1
    rw [shN_small h3 hd2, shN_small h2 hd, shN_small h2 (by omega)]
    by_cases h12 : op = 12 <;> by_cases hk : k ≤ num <;> by_cases hk2 : k ≤ num + d <;> simp [h12, hk, hk2] <;> omega
theorem shEs_twice (k : Int) {d d2 : Int} (hd : 0 ≤ d ∧ d ≤ 99) (hd2 : 0 ≤ d2 ∧ d2 ≤ 99) (hs : d + d2 ≤ 99) : ∀ es : List ExprL, vfEs es = true → vfEs (shEs k d es) = true → shEs k d2 (shEs k d es) = shEs k (d + d2) es
  | [] => fun _ _ => rfl
  | e :: es => fun h h' => by
    rw [vfEs, Bool.and_eq_true] at h
    rw [shEs, vfEs, Bool.and_eq_true] at h'
    rw [shEs, shEs, shEs, shE_twice k hd hd2 hs e h.1 h'.1, shEs_twice k hd hd2 hs es h.2 h'.2]
end

/-- What a shifted expression mentions. -/
def mSh (k d v : Int) (f : Int → Nat) : Nat := if v < k then f v else if k + d ≤ v then f (v - d) else 0
mutual
theorem mE_shE (k : Int) {d : Int} (hd : 0 ≤ d ∧ d ≤ 99) (v : Int) : ∀ e : ExprL, vfE e = true → mE v (shE k d e) = mSh k d v (fun v => mE v e)
  | .mk op num ks => fun h => by
    rw [vfE, Bool.and_eq_true] at h
    have h1 := mEs_shEs k hd v ks h.2
    have h2 : op = 12 → 0 ≤ num ∧ num ≤ 99 := by have := h.1; simp only [vfN, Bool.or_eq_true, decide_eq_true_eq, ne_eq] at this; exact fun e => this.resolve_left (fun hn => hn e)
    rw [shE, mE, h1, shN_small h2 hd]
    unfold mSh
    simp only [mE]
    by_cases ho : op = 12
    · simp only [ho, true_and]
      by_cases a1 : k ≤ num <;> by_cases a2 : v < k <;> by_cases a3 : k + d ≤ v <;> simp only [a1, a2, a3, if_true, if_false] <;> (first | omega | (split <;> (first | omega | (split <;> omega))))
    · simp only [ho, false_and, if_false]
      split <;> (first | omega | (split <;> omega))
theorem mEs_shEs (k : Int) {d : Int} (hd : 0 ≤ d ∧ d ≤ 99) (v : Int) : ∀ es : List ExprL, vfEs es = true → mEs v (shEs k d es) = mSh k d v (fun v => mEs v es)
  | [] => fun _ => by unfold mSh; simp [shEs, mEs]
  | e :: es => fun h => by
    rw [vfEs, Bool.and_eq_true] at h
    rw [shEs, mEs, mE_shE k hd v e h.1, mEs_shEs k hd v es h.2]
    unfold mSh
    simp only [mEs]
    split <;> (first | rfl | (split <;> rfl))
end

/-! ### All nodes -/
mutual
theorem allE_mono {P P' : Int → Int → Prop} (h : ∀ op num, P op num → P' op num) : ∀ e : ExprL, allE P e → allE P' e
  | .mk _ _ ks => fun he => ⟨h _ _ he.1, allEs_mono h ks he.2⟩
theorem allEs_mono {P P' : Int → Int → Prop} (h : ∀ op num, P op num → P' op num) : ∀ es : List ExprL, allEs P es → allEs P' es
  | [] => fun _ => trivial
  | e :: es => fun he => ⟨allE_mono h e he.1, allEs_mono h es he.2⟩
end
mutual
theorem allE_shE {P P' : Int → Int → Prop} (k d : Int) (h : ∀ op num, P op num → P' op (shN k d op num)) : ∀ e : ExprL, allE P e → allE P' (shE k d e)
  | .mk _ _ ks => fun he => by rw [shE]; exact ⟨h _ _ he.1, allEs_shEs k d h ks he.2⟩
theorem allEs_shEs {P P' : Int → Int → Prop} (k d : Int) (h : ∀ op num, P op num → P' op (shN k d op num)) : ∀ es : List ExprL, allEs P es → allEs P' (shEs k d es)
  | [] => fun _ => trivial
  | e :: es => fun he => by rw [shEs]; exact ⟨allE_shE k d h e he.1, allEs_shEs k d h es he.2⟩
end
end Go.Proofs.YtkapldpmjkdmcaaGreat
/- What the generator of programs makes, plain: signatures, types of which there are small expressions, numbers that fit. -/
namespace Go.Proofs.YtkapldpmjkdmcaaGreat
open Go.RowKit

/-- The signatures that occur. -/
def allSigs : List (List Int × Int) := [([], 0), ([1], 0), ([1, 1], 1), ([1], 1), ([1, 0], 1), ([2, 1], 1), ([1, 1], 0), ([3], 0), ([0], 1), ([0, 1], 1), ([3, 0], 3), ([3], 1), ([1, 3, 0], 0), ([0], 0), ([0, 0], 0), ([1, 0], 0)]
/-- A program of the generator: its declarations, its signatures. -/
structure GoodG (ds : List DeclL) (fs : List FuncL) : Prop where
  decls : ∃ k : Int, 0 ≤ k ∧ k < 5 ∧ ds = goodD k
  sigs : ∀ i, i < fs.length → ((fAt fs i).params, (fAt fs i).result) ∈ allSigs
  len : fs.length ≤ 4
def T5 (t : Int) : Prop := 0 ≤ t ∧ t ≤ 4
/-- Numbers between -K and K. -/
def gfit (K : Int) (_ num : Int) : Prop := -K ≤ num ∧ num ≤ K

theorem goodD_cases {k : Int} (h0 : 0 ≤ k) (h5 : k < 5) : k = 0 ∨ k = 1 ∨ k = 2 ∨ k = 3 ∨ k = 4 := by omega
theorem T5.cases {t : Int} (h : T5 t) : t = 0 ∨ t = 1 ∨ t = 2 ∨ t = 3 ∨ t = 4 := by unfold T5 at h; omega

/-- Function x makes closures of type t. -/
def Clo (ds : List DeclL) (fs : List FuncL) (t x : Int) : Prop := 0 ≤ x ∧ x < (fs.length : Int) ∧ 0 < (fAt fs x.toNat).params.length ∧ arrowL ds (iAt (fAt fs x.toNat).params ((fAt fs x.toNat).params.length - 1)) (fAt fs x.toNat).result = t
/-- Small expressions of a type have at most n levels. -/
def Rk (ds : List DeclL) (fs : List FuncL) : Nat → Int → Prop
  | 0, _ => False
  | n + 1, t => (∀ c, c ∈ consL ds t → (c = iAt (consL ds t) 0 ∨ t ∉ conFieldsL ds c) → ∀ f, f ∈ conFieldsL ds c → Rk ds fs n f) ∧
      ((consL ds t).length = 0 → 0 < t → ∀ x, Clo ds fs t x → ∀ j, j + 1 < (fAt fs x.toNat).params.length → Rk ds fs n (iAt (fAt fs x.toNat).params j))

section
variable {ds : List DeclL} {fs : List FuncL}
theorem GoodG.ok (h : GoodG ds fs) : typesOk ds = true := by
  obtain ⟨k, h0, h5, rfl⟩ := h.decls
  rcases goodD_cases h0 h5 with rfl | rfl | rfl | rfl | rfl <;> decide
theorem GoodG.len4 (h : GoodG ds fs) : ds.length ≤ 4 := typesOk_len h.ok
theorem GoodG.fields (h : GoodG ds fs) (c : Int) : (conFieldsL ds c).length ≤ 3 ∧ ∀ f, f ∈ conFieldsL ds c → T5 f := by
  obtain ⟨h1, h2⟩ := conFieldsL_ok h.ok c
  refine ⟨h1, fun f hf => ?_⟩
  obtain ⟨i, hi, rfl⟩ := List.getElem_of_mem hf
  have := allT_at h2 hi
  rw [iAt_get hi] at this
  have := h.len4
  exact ⟨by omega, by omega⟩
theorem GoodG.cons (h : GoodG ds fs) (t : Int) : (consL ds t).length ≤ 3 ∧ ∀ c, c ∈ consL ds t → 0 ≤ c ∧ c ≤ 15 := by
  by_cases ht : 1 ≤ t ∧ t ≤ (ds.length : Int)
  · have h4 := h.len4
    obtain ⟨k, h0, h5, rfl⟩ := h.decls
    have ht2 : t = 1 ∨ t = 2 ∨ t = 3 ∨ t = 4 := by omega
    clear ht h4 h
    rcases goodD_cases h0 h5 with rfl | rfl | rfl | rfl | rfl <;> rcases ht2 with rfl | rfl | rfl | rfl <;> decide
  · rw [consL, if_neg ht]; simp
theorem GoodG.arrow (h : GoodG ds fs) {k : Nat} (hk : k < ds.length) (h0 : (dAt ds k).cons.length = 0) : T5 (dAt ds k).from_ ∧ T5 (dAt ds k).to_ := by
  have h4 := h.len4
  obtain ⟨h1, h2⟩ := declOk_arrow (typesOk_decl h.ok hk) h0
  have h3 := isT_iff.1 h1
  have h5 := isT_iff.1 h2
  exact ⟨⟨by omega, by omega⟩, ⟨by omega, by omega⟩⟩
theorem sigs_ok : ∀ s, s ∈ allSigs → s.1.length ≤ 3 ∧ (0 ≤ s.2 ∧ s.2 ≤ 4) ∧ ∀ f, f ∈ s.1 → 0 ≤ f ∧ f ≤ 4 := by decide
theorem GoodG.sig (h : GoodG ds fs) {i : Nat} (hi : i < fs.length) : (fAt fs i).params.length ≤ 3 ∧ T5 (fAt fs i).result ∧ ∀ f, f ∈ (fAt fs i).params → T5 f := sigs_ok _ (h.sigs i hi)
theorem GoodG.rk1 (h : GoodG ds fs) {t : Int} (ht : t = 0 ∨ t = 1 ∨ t = 3) : Rk ds fs 1 t := by
  obtain ⟨k, h0, h5, rfl⟩ := h.decls
  clear h
  have h1 : (∀ c, c ∈ consL (goodD k) t → (c = iAt (consL (goodD k) t) 0 ∨ t ∉ conFieldsL (goodD k) c) → conFieldsL (goodD k) c = []) ∧ ((consL (goodD k) t).length = 0 → ¬ 0 < t) := by
    rcases goodD_cases h0 h5 with rfl | rfl | rfl | rfl | rfl <;> rcases ht with rfl | rfl | rfl <;> decide
  refine ⟨fun c hc hcc f hf => ?_, fun hl ht => absurd ht (h1.2 hl)⟩
  rw [h1.1 c hc hcc] at hf
  cases hf
theorem GoodG.rk2 (h : GoodG ds fs) {t : Int} (ht : T5 t) : Rk ds fs 2 t := by
  have hs := h.sigs
  have hr : ∀ f, (f = 0 ∨ f = 1 ∨ f = 3) → Rk ds fs 1 f := fun f hf => h.rk1 hf
  obtain ⟨k, h0, h5, rfl⟩ := h.decls
  have h1 : (∀ c, c ∈ consL (goodD k) t → (c = iAt (consL (goodD k) t) 0 ∨ t ∉ conFieldsL (goodD k) c) → ∀ f, f ∈ conFieldsL (goodD k) c → f = 0 ∨ f = 1 ∨ f = 3) := by
    clear h hs hr
    rcases goodD_cases h0 h5 with rfl | rfl | rfl | rfl | rfl <;> rcases ht.cases with rfl | rfl | rfl | rfl | rfl <;> decide
  have h2 : ∀ s, s ∈ allSigs → 0 < s.1.length → 0 < arrowL (goodD k) (iAt s.1 (s.1.length - 1)) s.2 → ∀ f, f ∈ s.1.take (s.1.length - 1) → f = 0 ∨ f = 1 ∨ f = 3 := by
    clear h hs hr h1
    rcases goodD_cases h0 h5 with rfl | rfl | rfl | rfl | rfl <;> decide
  refine ⟨fun c hc hcc f hf => hr f (h1 c hc hcc f hf), fun _ ht x hx j hj => hr _ ?_⟩
  obtain ⟨x0, x1, x2, x3⟩ := hx
  refine h2 _ (hs x.toNat (by omega)) x2 (by rw [x3]; exact ht) _ ?_
  show iAt _ j ∈ (fAt fs x.toNat).params.take ((fAt fs x.toNat).params.length - 1)
  rw [iAt_get (by omega)]
  exact List.mem_take_iff_getElem.2 ⟨j, by omega, rfl⟩
/-- How many numbers are drawn for a small expression. -/
def pkS : Nat → Int
  | 0 => 0
  | n + 1 => 4 + 3 * pkS n
end
end Go.Proofs.YtkapldpmjkdmcaaGreat
