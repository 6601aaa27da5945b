/- consOf of the program and of the reference: the numbers of the constructors of a type. -/
import Derived.Test.YtmekdccgjgfiaaaQAG
import Derived.Test.YtmekdccgjgfiaaaQAC
import Derived.Test.YtmekdccgjgfiaaaQAF
import Derived.Deep.RegionHeld3
import Derived.IntWalk
namespace Go.Proofs.Ytmekdccgjgfiaaa
open Go.RowKit

def upFrom (f k : Nat) : List Int := (List.range k).map fun i => ((f + i : Nat) : Int)
theorem upFrom_succ (f k : Nat) : upFrom f (k + 1) = upFrom f k ++ [((f + k : Nat) : Int)] := by simp [upFrom, List.range_succ]
theorem consL_in {ds : List DeclL} {k : Nat} (h : k < ds.length) : consL ds ((k : Int) + 1) = upFrom (firstN ds k) (dAt ds k).cons.length := by
  have e : ((k : Int) + 1).toNat - 1 = k := by omega
  simp only [consL]
  rw [if_pos (by omega), e]
  rfl
theorem consL_out {ds : List DeclL} {t : Int} (h : ¬ (1 ≤ t ∧ t ≤ (ds.length : Int))) : consL ds t = [] := if_neg h

set_option maxHeartbeats 1000000 in
theorem specConsOf0 (a : Option Addr) (n c : Nat) (ds : List DeclL) (D : Nat → Prop) (t : Int) (w : World) (h : DeclsR w D a n ds) (hf : Few ds) :
    Calls Try.prog 83 #[.slice a n c, .int .i64 t] w fun e w' => ∃ a' m c', e = .returned (.slice a' m c') ∧ m ≤ c' ∧ OwnInts w' (fun k => w.heap.size ≤ k) a' m (consL ds t) ∧ Keep w w' := by
  refine calls_k fun Q hQ => ?_
  have HL := Lib.hid h.1
  have hn4 : n ≤ 4 := by have := hf.1; have := h.1; omega
  have hK0 : Keep w (w.alloc (.cells #[] 3)) := (Ext.refl _ w).alloc _
  have hown0 : (w.alloc (.cells #[] 3)).ownsRow w.heap.size 3 1 (.slice (some ⟨w.heap.size, 0, none⟩) 0 0) 0 (([] : List Int).map (Value.int .i64)) := World.ownsRow_made w #[] 0 (Nat.le_refl _) (by simp [maxLen]) rfl
  by_cases ht : 1 ≤ t ∧ t ≤ (n : Int)
  · obtain ⟨k, rfl⟩ : ∃ k : Nat, t = (k : Int) + 1 := ⟨(t - 1).toNat, by omega⟩
    have hkn : k < n := by omega
    have hv : decide (1 ≤ (k : Int) + 1 ∧ (k : Int) + 1 ≤ (n : Int)) = true := decide_eq_true ht
    have h1 := h.ext hK0 (fun _ _ h => h)
    obtain ⟨b, o, rfl, hd, hc⟩ := h.2 (by omega)
    obtain ⟨_, _, a', m, c', c2, hmc, hcons⟩ := hc k hkn
    have HM := Lib.hid hcons.1
    have HC : Hid (consL ds ((k : Int) + 1) = upFrom (firstN ds k) m) := by show _ = _; rw [consL_in (by have := HL.out; omega), HM.out]
    have b2 : m ≤ 3 := by have := hf.2 k (by have := HL.out; omega); have := HM.out; omega
    have b1 := firstN_le hf (k := k) (by have := HL.out; omega)
    have HO := Lib.hid hown0
    have C2 := Lib.hid c2
    clear hc hcons ht hown0 c2
    go_enter Try.func83, Try.ntmps83
    go_wp2_with (go_at_call 41; refine (specInRange _ _ _ _).mono ?_; rintro e w1 ⟨rfl, rfl⟩)
    go_loopw [5, 6] (fun v i wr => ∃ j : Nat, j ≤ m ∧ i = .int .i64 j ∧ Hid (wr.ownsRow w.heap.size 3 1 v j ((upFrom (firstN ds k) j).map (Value.int .i64))) ∧ Keep w wr) (fun _ i _ => m - (intOf i).toNat)
    case atStart => exact ⟨0, Nat.zero_le _, rfl, HO, hK0⟩
    case round =>
      obtain ⟨j, hj, rfl, hown, hK⟩ := hrel
      have hx2 := (hK.cell (World.block_lt_of_cell? _ _ C2.out) (fun h => h)).trans C2.out
      by_cases hlt : j < m
      · have h2 := h.ext hK (fun _ _ h => h)
        have hbs : w.heap.size ≤ wr.heap.size := hK.size
        go_wp2_with (first
          | (go_at_call 82; refine (specFirstCon _ _ _ _ _ _ _ h2 hf (by omega)).mono ?_; rintro e w1 ⟨rfl, rfl⟩)
          | (at_builtin; refine wpList_appInt _ rfl (.tmp 25) (.tmp 32) rfl w.heap.size u5 j (upFrom (firstN ds k) j) rfl (hown.out.alloc _) wr.heap.size 1 ((firstN ds k : Int) + (j : Int)) rfl (by simp [go_sem]) (by omega) (by simp; omega) ?_; intro v' w' ho hg))
        go_roundw
        case rel => exact ⟨j + 1, by omega, by go_num, by
          show World.ownsRow _ _ _ _ _ _ _
          rw [upFrom_succ, Int.natCast_add]; exact ho, (hK.alloc _).grown hg (fun g hg' => .inl (hown.out.lt g hg').1)⟩
        case measure => simp [intOf]; omega
      · have HJ : Hid (j = m) := by show _ = _; omega
        go_wp2
        obtain ⟨a2, cc, rfl, hle, hoi⟩ := own_of_row hown.out
        have := HJ.out
        subst this
        exact fin_ hQ ⟨a2, j, cc, rfl, hle, by rw [HC.out]; exact hoi, hK⟩
  · have hv : decide (1 ≤ t ∧ t ≤ (n : Int)) = false := decide_eq_false ht
    have HC : Hid (consL ds t = []) := by show _ = _; exact consL_out (by rw [HL.out]; exact ht)
    clear ht
    go_enter Try.func83, Try.ntmps83
    go_wp2_with (go_at_call 41; refine (specInRange _ _ _ _).mono ?_; rintro e w1 ⟨rfl, rfl⟩)
    exact fin_ hQ ⟨_, 0, 0, rfl, Nat.le_refl _, by rw [HC.out]; exact ⟨rfl, fun h => absurd h (by omega)⟩, hK0⟩

set_option maxHeartbeats 1000000 in
theorem implConsOf0 (a : Option Addr) (n c : Nat) (ds : List DeclL) (D : Nat → Prop) (t : Int) (w : World) (h : DeclsR w D a n ds) (hnc : n ≤ c) (hf : Few ds) :
    Calls Try.prog 88 #[.slice a n c, .int .i64 t] w fun e w' => ∃ a' m c', e = .returned (.slice a' m c') ∧ m ≤ c' ∧ OwnInts w' (fun k => w.heap.size ≤ k) a' m (consL ds t) ∧ Keep w w' := by
  refine calls_k fun Q hQ => ?_
  have HL := Lib.hid h.1
  have hn4 : n ≤ 4 := by have := hf.1; have := h.1; omega
  by_cases ht1 : t < 1
  · have HC : Hid (consL ds t = []) := by show _ = _; exact consL_out (by omega)
    go_enter Try.func88, Try.ntmps88
    go_wp2_with fail
    exact fin_ hQ ⟨none, 0, 0, rfl, Nat.le_refl _, by rw [HC.out]; exact ⟨rfl, fun h => absurd h (by omega)⟩, Ext.refl _ _⟩
  by_cases ht2 : (n : Int) < t
  · have HC : Hid (consL ds t = []) := by show _ = _; exact consL_out (by have := HL.out; omega)
    go_enter Try.func88, Try.ntmps88
    go_wp2_with fail
    exact fin_ hQ ⟨none, 0, 0, rfl, Nat.le_refl _, by rw [HC.out]; exact ⟨rfl, fun h => absurd h (by omega)⟩, Ext.refl _ _⟩
  obtain ⟨k, rfl⟩ : ∃ k : Nat, t = (k : Int) + 1 := ⟨(t - 1).toNat, by omega⟩
  have hkn : k < n := by omega
  obtain ⟨b, o, rfl, hd, hc⟩ := h.2 (by omega)
  obtain ⟨_, _, a', m, c', c2, hmc, hcons⟩ := hc k hkn
  have HM := Lib.hid hcons.1
  have HC : Hid (consL ds ((k : Int) + 1) = upFrom (firstN ds k) m) := by show _ = _; rw [consL_in (by have := HL.out; omega), HM.out]
  have b2 : m ≤ 3 := by have := hf.2 k (by have := HL.out; omega); have := HM.out; omega
  have b1 := firstN_le hf (k := k) (by have := HL.out; omega)
  have htk : DeclsR w D (some ⟨b, o, none⟩) k (ds.take k) := ⟨by have := HL.out; simp; omega, fun _ => ⟨b, o, rfl, hd, fun i hi => by
    have := hc i (by omega)
    rwa [show dAt (ds.take k) i = dAt ds i from by simp [dAt, hi]]⟩⟩
  have hft : Few (ds.take k) := ⟨by have := hf.1; simp; omega, fun i hi => by
    have hi' : i < k := by simp at hi; omega
    rw [show dAt (ds.take k) i = dAt ds i from by simp [dAt, hi']]
    exact hf.2 i (by simp at hi; omega)⟩
  have hcn : Hid (conN (ds.take k) = firstN ds k) := by
    show _ = _
    have hlk : (ds.take k).length = k := by have := HL.out; simp; omega
    rw [conN, hlk]
    have : ∀ j, j ≤ k → firstN (ds.take k) j = firstN ds j := by
      intro j hj
      induction j with
      | zero => rfl
      | succ j ih => simp only [firstN]; rw [ih (by omega), show dAt (ds.take k) j = dAt ds j from by simp [dAt, show j < k by omega]]
    exact this k (Nat.le_refl _)
  have C2 := Lib.hid c2
  clear hc hcons c2
  go_enter Try.func88, Try.ntmps88
  go_wp2_with fail
  refine (implConCount0 _ _ _ _ _ _ htk hft).mono ?_
  rw [hcn.out]
  rintro e w1 ⟨rfl, hk1⟩
  have c3 := (hk1.cell (World.block_lt_of_cell? _ _ C2.out) (fun h => h)).trans C2.out
  go_wp2_with fail
  go_loopw [6, 28] (fun v i wr => ∃ j : Nat, j ≤ m ∧ i = .int .i64 j ∧ Hid (wr.ownsRow w.heap.size 3 1 v j ((upFrom (firstN ds k) j).map (Value.int .i64))) ∧ Keep w wr) (fun _ i _ => m - (intOf i).toNat)
  case atStart => exact ⟨0, Nat.zero_le _, rfl, World.ownsRow_nil _ _ _ _, hk1⟩
  case round =>
    obtain ⟨j, hj, rfl, hown, hK⟩ := hrel
    by_cases hlt : j < m
    · have hbs : w.heap.size ≤ wr.heap.size := hK.size
      go_wp2_with (at_builtin; refine wpList_appInt _ rfl (.tmp 31) (.tmp 35) rfl w.heap.size u6 j (upFrom (firstN ds k) j) rfl (hown.out.alloc _) wr.heap.size 1 ((firstN ds k : Int) + (j : Int)) rfl (by simp [go_sem]) (by omega) (by simp; omega) ?_; intro v' w' ho hg)
      go_roundw
      case rel => exact ⟨j + 1, by omega, by go_num, by
        show World.ownsRow _ _ _ _ _ _ _
        rw [upFrom_succ, Int.natCast_add]; exact ho, (hK.alloc _).grown hg (fun g hg' => .inl (hown.out.lt g hg').1)⟩
      case measure => simp [intOf]; omega
    · have HJ : Hid (j = m) := by show _ = _; omega
      go_wp2
      obtain ⟨a2, cc, rfl, hle, hoi⟩ := own_of_row hown.out
      have := HJ.out
      subst this
      exact fin_ hQ ⟨a2, j, cc, rfl, hle, by rw [HC.out]; exact hoi, hK⟩
end Go.Proofs.Ytmekdccgjgfiaaa
/- copyInts, slices.Clone of integers, conFields, ConFields and ConsOf. -/
namespace Go.Proofs.Ytmekdccgjgfiaaa
open Go.RowKit

theorem copyInts_any (A : Option Addr) (m c : Nat) (ys : List Int) (D : Nat → Prop) (w : World) (h : IntsL w D A m ys) (hm : m ≤ 1099511627776) :
    Calls Try.prog 43 #[.slice A m c] w fun e w' => ∃ a' c', e = .returned (.slice a' m c') ∧ m ≤ c' ∧ OwnInts w' (fun k => w.heap.size ≤ k) a' m ys ∧ Keep w w' := by
  refine calls_k fun Q hQ => ?_
  have HO := Lib.hid (ownEmpty w)
  have hK : Keep w (w.alloc (.cells #[] 3)) := (Ext.refl _ w).alloc _
  have h1 := h.ext hK (fun _ _ h => h)
  go_enter Try.func43, Try.ntmps43
  go_wp2_with (at_builtin; refine wpList_appInts _ rfl (.tmp 3) (.tmp 4) rfl w.heap.size (.slice (some ⟨w.heap.size, 0, none⟩) 0 0) 0 [] rfl HO.out A m c ys D rfl h1 (by omega) (by simp) ?_; intro v' w' ho hg)
  obtain ⟨a2, cc, rfl, hle, hoi⟩ := own_of_row ho
  simp only [Nat.zero_add, List.nil_append] at hoi hle
  have hk : Keep w w' := hK.grown hg (fun g hg' => .inl (HO.out.lt g hg').1)
  rw [Nat.zero_add]
  exact fin_ hQ ⟨a2, cc, rfl, hle, hoi, hk⟩

theorem clone_any (A : Option Addr) (m c : Nat) (ys : List Int) (D : Nat → Prop) (w : World) (h : IntsL w D A m ys) (hm : m ≤ 1099511627776) :
    Calls Try.prog 52 #[.slice A m c] w fun e w' => ∃ a' c', e = .returned (.slice a' m c') ∧ m ≤ c' ∧ OwnInts w' (fun k => w.heap.size ≤ k) a' m ys ∧ Keep w w' := by
  refine calls_k fun Q hQ => ?_
  have hnil := fun (wx : World) => Lib.run_eql_slice_nil (P := Try.prog) wx 26 3 A m c 0 0 Try.underlying26
  rcases A with _ | x
  · have hm0 : m = 0 := by
      rcases Nat.eq_zero_or_pos m with h0 | h0
      · exact h0
      · obtain ⟨b, o, h1, _⟩ := h.2 h0; cases h1
    subst hm0
    have hy := h.1
    go_enter Try.func52, Try.ntmps52
    go_wp2_with fail
    exact fin_ hQ ⟨none, 0, rfl, Nat.le_refl _, ⟨hy, fun h => absurd h (by omega)⟩, Ext.refl _ _⟩
  have HO := Lib.hid (ownEmpty w)
  have hK : Keep w (w.alloc (.cells #[] 3)) := (Ext.refl _ w).alloc _
  have h1 := h.ext hK (fun _ _ h => h)
  go_enter Try.func52, Try.ntmps52
  go_wp2_with (at_builtin; refine wpList_appInts _ rfl (.tmp 5) (.tmp 6) rfl w.heap.size (.slice (some ⟨w.heap.size, 0, none⟩) 0 0) 0 [] rfl HO.out (some x) m c ys D rfl h1 (by omega) (by simp) ?_; intro v' w' ho hg)
  obtain ⟨a2, cc, rfl, hle, hoi⟩ := own_of_row ho
  simp only [Nat.zero_add, List.nil_append] at hoi hle
  have hk : Keep w w' := hK.grown hg (fun g hg' => .inl (HO.out.lt g hg').1)
  rw [Nat.zero_add]
  exact fin_ hQ ⟨a2, cc, rfl, hle, hoi, hk⟩

theorem conTypeL_some {ds : List DeclL} {x : Int} {i : Nat} (h : conIx ds x = some i) : conTypeL ds x = (i : Int) + 1 := by rw [conTypeL, h]; rfl
theorem conTypeL_none {ds : List DeclL} {x : Int} (h : conIx ds x = none) : conTypeL ds x = -1 := by rw [conTypeL, h]; rfl

set_option maxHeartbeats 1000000 in
theorem specConFields0 (a : Option Addr) (n c : Nat) (ds : List DeclL) (D : Nat → Prop) (x : Int) (w : World) (h : DeclsR w D a n ds) (hf : Few ds) :
    Calls Try.prog 66 #[.slice a n c, .int .i64 x] w fun e w' => ∃ a' m c', e = .returned (.slice a' m c') ∧ m ≤ c' ∧ IntsL w' (fun k => D k ∨ w.heap.size ≤ k) a' m (conFieldsL ds x) ∧ Keep w w' := by
  refine calls_k fun Q hQ => ?_
  have HL := Lib.hid h.1
  have hn4 : n ≤ 4 := by have := hf.1; have := h.1; omega
  cases hv : conIx ds x with
  | none =>
    have V := Lib.hid (conTypeL_none hv)
    have F : Hid (conFieldsL ds x = []) := by show _ = _; rw [conFieldsL, hv]
    clear hv
    go_enter Try.func66, Try.ntmps66
    go_wp2_with (go_at_call 65; refine (specConType0 _ _ _ _ _ _ _ h hf).mono ?_; rw [V.out]; rintro e w1 ⟨rfl, rfl⟩)
    exact fin_ hQ ⟨_, 0, 0, rfl, Nat.le_refl _, by rw [F.out]; exact ⟨rfl, fun h => absurd h (by omega)⟩, (Ext.refl _ _).alloc _⟩
  | some k =>
    obtain ⟨q1, q2, _⟩ := firstIx_spec hv
    have V := Lib.hid (conTypeL_some hv)
    have F : Hid (conFieldsL ds x = cAt (dAt ds k).cons (x.toNat - firstN ds k)) := by show _ = _; rw [conFieldsL, hv]
    obtain ⟨g1, g2⟩ := inDecl_iff.1 q2
    obtain ⟨j, hj⟩ := Int.eq_ofNat_of_zero_le g1
    obtain rfl : x = (firstN ds k : Int) + (j : Int) := by omega
    have hkn : k < n := by have := HL.out; omega
    obtain ⟨b, o, rfl, hd, hc⟩ := h.2 (by omega)
    obtain ⟨_, _, a', m, c', c2, hmc, hcons⟩ := hc k hkn
    have HM := hcons.1
    obtain ⟨b1', o1, rfl, hd1, hc1⟩ := hcons.2 (by omega)
    obtain ⟨a2, m2, c2', x0, hmc2, hints⟩ := hc1 j (by omega)
    have hjm : j < m := by omega
    have b1 := firstN_le hf (k := k) (by have := HL.out; omega)
    have hcl := hf.2 k (by have := HL.out; omega)
    have b3 : m ≤ 3 := by omega
    have HI := Lib.hid hints
    clear hc hcons hc1 hints hv q2 g1 g2 hj HM hcl
    go_enter Try.func66, Try.ntmps66
    go_wp2_with (go_at_call 65; refine (specConType0 _ _ _ _ _ _ _ h hf).mono ?_; rw [V.out]; rintro e w1 ⟨rfl, rfl⟩)
    have e1 : IntKind.i64.wrap ((k : Int) + 1 - 1) = (k : Int) := by rw [show (k : Int) + 1 - 1 = (k : Int) by omega]; exact IntWalk.i64_in _ (by omega)
    have e3 : IntKind.i64.wrap (k : Int) = (k : Int) := IntWalk.i64_in _ (by omega)
    have e4 : IntKind.i64.wrap (j : Int) = (j : Int) := IntWalk.i64_in _ (by omega)
    have e2 : IntKind.i64.wrap ((firstN ds k : Int) + (j : Int) - (firstN ds k : Int)) = (j : Int) := by rw [show (firstN ds k : Int) + (j : Int) - (firstN ds k : Int) = (j : Int) by omega]; exact IntWalk.i64_in _ (by omega)
    go_quiet ((go_at_call 82; exact Calls.quiet_of_same ((specFirstCon _ _ _ _ _ _ _ (h.drewN _) hf (by omega)).mono fun _ _ q => ⟨q.1, q.2.symm⟩)))
    clear e1 e2 e3 e4
    go_wp2
    refine fin_ hQ ⟨a2, m2, c2', rfl, hmc2, ?_, (Ext.refl _ _).drewN nq⟩
    rw [F.out, show ((firstN ds k : Int) + (j : Int)).toNat - firstN ds k = j by omega]
    exact (HI.out.drewN nq).mono (fun _ h => .inl h)
end Go.Proofs.Ytmekdccgjgfiaaa
/- The reference's types of expressions: its helpers over all kids. -/
namespace Go.Proofs.Ytmekdccgjgfiaaa
open Go.RowKit

theorem ints_ext {xs ys : List Int} (h : xs.length = ys.length) (h2 : ∀ i, i < xs.length → iAt xs i = iAt ys i) : xs = ys := by
  apply List.ext_getElem h
  intro i h3 h4
  have := h2 i h3
  rwa [iAt_eq h3, iAt_eq h4] at this
theorem ints_ne {xs ys : List Int} (i : Nat) (h : iAt xs i ≠ iAt ys i) : xs ≠ ys := fun e => h (by rw [e])
theorem iAt_rep {m i : Nat} (h : i < m) : iAt (List.replicate m 0) i = 0 := by simp [iAt, List.getD, h]

/-- A program that can be read. -/
def PR (w : World) (ds : List DeclL) (fs : List FuncL) (a0 : Option Addr) (n0 c0 : Nat) (a1 : Option Addr) (n1 c1 : Nat) : Prop :=
  Rd w (fun _ => True) (encDecls ds) (.slice a0 n0 c0) ∧ Rd w (fun _ => True) (encFuncs fs) (.slice a1 n1 c1)
theorem PR.k {w w' : World} {ds : List DeclL} {fs : List FuncL} {a0 : Option Addr} {n0 c0 : Nat} {a1 : Option Addr} {n1 c1 : Nat} (h : PR w ds fs a0 n0 c0 a1 n1 c1) (k : Keep w w') : PR w' ds fs a0 n0 c0 a1 n1 c1 := ⟨h.1.k k, h.2.k k⟩
theorem Rd.t {w : World} {D : Nat → Prop} {d : Dat} {v : Value} (h : Rd w D d v) : Rd w (fun _ => True) d v := h.mono (fun _ _ => trivial)

section
variable (ds : List DeclL) (fs : List FuncL)

end
end Go.Proofs.Ytmekdccgjgfiaaa
/- The reference's types of expressions: calls and closures. -/
namespace Go.Proofs.Ytmekdccgjgfiaaa
open Go.RowKit

theorem IntsL.take {w : World} {D : Nat → Prop} {a : Option Addr} {n : Nat} {xs : List Int} (h : IntsL w D a n xs) {m : Nat} (hm : m ≤ n) : IntsL w D a m (xs.take m) := by
  obtain ⟨h1, h2⟩ := h
  refine ⟨by simp; omega, fun h0 => ?_⟩
  obtain ⟨b, o, rfl, hd, hc⟩ := h2 (by omega)
  refine ⟨b, o, rfl, hd, fun i hi => ?_⟩
  rw [hc i (by omega)]
  simp [iAt, hi]
theorem simpleL_range {ds : List DeclL} {sg : List SigL} {op num : Int} {tys : List Int} (h : op = 9 ∨ op = 10) (hn : ¬ (0 ≤ num ∧ num < (sg.length : Int))) : simpleL ds sg op num tys = -1 := by
  rcases h with rfl | rfl <;> simp [simpleL] <;> intros <;> omega
theorem simpleL_call {ds : List DeclL} {sg : List SigL} {k : Nat} {tys : List Int} (hk : k < sg.length) : simpleL ds sg 9 (k : Int) tys = if tys = (sgAt sg k).params then (sgAt sg k).result else -1 := by
  rw [simpleL, if_neg (by omega), if_neg (by omega), if_neg (by omega), if_neg (by omega), if_neg (by omega), if_pos rfl]
  by_cases h : tys = (sgAt sg k).params
  · rw [if_pos ⟨by omega, by omega, by simpa using h⟩, if_pos h]; rfl
  · rw [if_neg (fun h' => h (by simpa using h'.2.2)), if_neg h]
theorem simpleL_close {ds : List DeclL} {sg : List SigL} {k : Nat} {tys : List Int} (hk : k < sg.length) : simpleL ds sg 10 (k : Int) tys = if 0 < (sgAt sg k).params.length ∧ tys = (sgAt sg k).params.take ((sgAt sg k).params.length - 1) then
    arrowL ds (iAt (sgAt sg k).params ((sgAt sg k).params.length - 1)) (sgAt sg k).result else -1 := by
  rw [simpleL, if_neg (by omega), if_neg (by omega), if_neg (by omega), if_neg (by omega), if_neg (by omega), if_neg (by omega), if_pos rfl]
  by_cases h : 0 < (sgAt sg k).params.length ∧ tys = (sgAt sg k).params.take ((sgAt sg k).params.length - 1)
  · rw [if_pos ⟨by omega, by omega, by simpa using h.1, by simpa using h.2⟩, if_pos h]; rfl
  · rw [if_neg (fun h' => h ⟨by simpa using h'.2.2.1, by simpa using h'.2.2.2⟩), if_neg h]

section
variable (ds : List DeclL) (fs : List FuncL)

end
end Go.Proofs.Ytmekdccgjgfiaaa
/- copyInts and extend of the reference: rows that grow. -/
namespace Go.Proofs.Ytmekdccgjgfiaaa
open Go.RowKit

theorem specCopyRow (A : Option Addr) (m c : Nat) (ys : List Int) (D : Nat → Prop) (w : World) (h : IntsL w D A m ys) (hm : m ≤ 2097152) :
    Calls Try.prog 43 #[.slice A m c] w fun e w' => ∃ v, e = .returned v ∧ w'.ownsRow w.heap.size 3 1 v m (ys.map (Value.int .i64)) ∧ Keep w w' := by
  refine calls_k fun Q hQ => ?_
  have HO := Lib.hid (ownEmpty w)
  have hK : Keep w (w.alloc (.cells #[] 3)) := (Ext.refl _ w).alloc _
  have h1 := h.ext hK (fun _ _ h => h)
  go_enter Try.func43, Try.ntmps43
  go_wp2_with (at_builtin; refine wpList_appInts _ rfl (.tmp 3) (.tmp 4) rfl w.heap.size (.slice (some ⟨w.heap.size, 0, none⟩) 0 0) 0 [] rfl HO.out A m c ys D rfl h1 (by omega) (by simp) ?_; intro v' w' ho hg)
  have hk : Keep w w' := hK.grown hg (fun g hg' => .inl (HO.out.lt g hg').1)
  obtain ⟨a2, cc, rfl, hle, hoi⟩ := own_of_row ho
  exact fin_ hQ ⟨_, rfl, by simpa using ho, hk⟩

theorem specExtend (A : Option Addr) (m c : Nat) (ys : List Int) (D : Nat → Prop) (B : Option Addr) (k d : Nat) (zs : List Int) (E : Nat → Prop) (w : World) (h : IntsL w D A m ys) (hm : m ≤ 2097152) (h2 : IntsL w E B k zs) (hk : k ≤ 2097152) :
    Calls Try.prog 84 #[.slice A m c, .slice B k d] w fun e w' => ∃ a' n' c', e = .returned (.slice a' n' c') ∧ n' ≤ c' ∧ OwnInts w' (fun q => w.heap.size ≤ q) a' n' (ys ++ zs) ∧ Keep w w' := by
  refine calls_k fun Q hQ => ?_
  have H2 := Lib.hid h2
  clear h2
  go_enter Try.func84, Try.ntmps84
  go_wp2_with fail
  refine (specCopyRow _ _ _ _ _ _ h hm).mono ?_
  rintro e w1 ⟨v, rfl, o1, p1⟩
  obtain ⟨a1, c1, rfl, hc1, _⟩ := own_of_row o1
  have O1 := Lib.hid o1
  have h3 := Lib.hid (H2.out.ext p1 (fun _ _ h => h))
  clear o1
  have hz := p1.size
  go_wp2_with (at_builtin; refine wpList_appInts _ rfl (.tmp 6) (.tmp 7) rfl w.heap.size (.slice a1 m c1) m ys rfl O1.out B k d zs E rfl h3.out (by omega) hz ?_; intro v' w' ho hg)
  obtain ⟨a2, cc, rfl, hle, hoi⟩ := own_of_row ho
  exact fin_ hQ ⟨a2, _, cc, rfl, hle, hoi, p1.grown hg (fun g hg' => .inl (O1.out.lt g hg').1)⟩
end Go.Proofs.Ytmekdccgjgfiaaa
/- The reference's types of expressions: matches. -/
namespace Go.Proofs.Ytmekdccgjgfiaaa
open Go.RowKit

theorem Ext.refl0 (w : World) : Keep w.drew w.drew := Ext.refl _ _
theorem Rd.kd {w : World} {D : Nat → Prop} {d : Dat} {v : Value} (h : Rd w D d v) : Rd w.drew D d v := h.k (Ext.refl (fun _ => False) w).drew
theorem PR.kd {w : World} {ds : List DeclL} {fs : List FuncL} {a0 : Option Addr} {n0 c0 : Nat} {a1 : Option Addr} {n1 c1 : Nat} (h : PR w ds fs a0 n0 c0 a1 n1 c1) : PR w.drew ds fs a0 n0 c0 a1 n1 c1 := h.k (Ext.refl (fun _ => False) w).drew
theorem Keep.dt {w w' : World} (h : Keep w.drew w') : Keep w w' := (Ext.refl _ w).drew.trans h
def matchL (ds : List DeclL) (sg : List SigL) (vars : List Int) (num : Int) (es : List ExprL) : Int :=
  if 0 < (armsL ds num).length ∧ es.length = 1 + (armsL ds num).length ∧ tyHd ds sg vars es = num then oneT (tyTl ds sg vars es (armsL ds num)) else -1
theorem armsL_len (ds : List DeclL) (t : Int) : (armsL ds t).length = (consL ds t).length := by simp [armsL]
theorem armsL_at {ds : List DeclL} {t : Int} {i : Nat} (h : i < (consL ds t).length) : cAt (armsL ds t) i = conFieldsL ds (iAt (consL ds t) i) := by
  rw [cAt_get (by rw [armsL_len]; exact h), iAt_eq h]; simp [armsL]
theorem consL_len {ds : List DeclL} (hf : Few ds) (t : Int) : (consL ds t).length ≤ 3 := by
  unfold consL
  split
  · next h => rw [List.length_map, List.length_range]; exact hf.2 _ (by omega)
  · simp

section
variable (ds : List DeclL) (fs : List FuncL)

end
end Go.Proofs.Ytmekdccgjgfiaaa
