/- The laws' comparisons: integers, constructors, declarations. -/
import Derived.Test.YthdjijhpdgajbaaTypesPlain
import Derived.StillTailTactics
namespace Go.Proofs.Ythdjijhpdgajbaa
open Go.RowKit

theorem ints_eq {xs ys : List Int} {n : Nat} (hx : xs.length = n) (hy : ys.length = n) (h : ∀ i, i < n → iAt xs i = iAt ys i) : xs = ys := by
  refine List.ext_getElem (by omega) fun i h1 h2 => ?_
  rw [← iAt_eq h1, ← iAt_eq h2]
  exact h i (by omega)
theorem cons_eq {xs ys : List (List Int)} {n : Nat} (hx : xs.length = n) (hy : ys.length = n) (h : ∀ i, i < n → cAt xs i = cAt ys i) : xs = ys := by
  refine List.ext_getElem (by omega) fun i h1 h2 => ?_
  rw [← cAt_eq h1, ← cAt_eq h2]
  exact h i (by omega)
theorem decls_eq {xs ys : List DeclL} {n : Nat} (hx : xs.length = n) (hy : ys.length = n) (h : ∀ i, i < n → dAt xs i = dAt ys i) : xs = ys := by
  refine List.ext_getElem (by omega) fun i h1 h2 => ?_
  rw [← dAt_eq h1, ← dAt_eq h2]
  exact h i (by omega)
set_option maxHeartbeats 400000 in
theorem eqIntS (a : Option Addr) (n c : Nat) (a' : Option Addr) (m c' : Nat) (xs ys : List Int) (D D' : Nat → Prop) (w : World) (h : IntsL w D a n xs) (h' : IntsL w D' a' m ys) (hn : n ≤ 1099511627776) :
    Calls Try.prog 19 #[.slice a n c, .slice a' m c'] w fun e w' => e = .returned (.bool (decide (xs = ys))) ∧ Keep w w' := by
  refine calls_k fun Q hQ => ?_
  have HX := Lib.hid h.1
  have HY := Lib.hid h'.1
  by_cases hnm : n = m
  · subst hnm
    go_enter Try.func19, Try.ntmps19
    go_wp2
    go_loopw [5] (fun i wr => ∃ k : Nat, k ≤ n ∧ i = .int .i64 k ∧ Hid (∀ j, j < k → iAt xs j = iAt ys j) ∧ Keep w wr) (fun i _ => n - (intOf i).toNat)
    case atStart => exact ⟨0, Nat.zero_le _, rfl, fun j hj => absurd hj (by omega), Ext.refl _ _⟩
    case round =>
      obtain ⟨k, hk, rfl, H, hK⟩ := hrel
      by_cases hlt : k < n
      · obtain ⟨b, o, rfl, hd, hc⟩ := (h.ext hK (fun _ _ h => h)).2 (by omega)
        obtain ⟨b', o', rfl, hd', hc'⟩ := (h'.ext hK (fun _ _ h => h)).2 (by omega)
        have c0 := hc k hlt
        have c1 := hc' k hlt
        clear hc hc' h h'
        cases hv : (iAt xs k != iAt ys k)
        · have V : Hid (iAt xs k = iAt ys k) := by show _ = _; simpa using hv
          go_wp2
          go_quiet (fail)
          go_wp2
          go_roundw
          case rel => exact ⟨k + 1, by omega, by go_num, fun j hj => by
            rcases Nat.lt_succ_iff_lt_or_eq.1 hj with h | rfl
            · exact H.out j h
            · exact V.out, hK.drewN nq⟩
          case measure => simp [intOf]; omega
        · have V : Hid (iAt xs k ≠ iAt ys k) := by show _ ≠ _; simpa using hv
          go_wp2
          go_quiet (fail)
          go_wp2
          exact fin_ hQ ⟨ret_b (decide_eq_false (fun e => V.out (by rw [e]))).symm, hK.drewN nq⟩
      · go_wp2
        exact fin_ hQ ⟨ret_b (decide_eq_true (ints_eq HX.out HY.out (fun i hi => H.out i (by omega)))).symm, hK⟩
  · have hne : ((n : Int) != (m : Int)) = true := by simp; omega
    go_enter Try.func19, Try.ntmps19
    go_wp2
    exact fin_ hQ ⟨ret_b (decide_eq_false (fun e => hnm (by rw [← HX.out, ← HY.out, e]))).symm, Ext.refl _ _⟩
set_option maxHeartbeats 400000 in
theorem equalInts (a : Option Addr) (n c : Nat) (a' : Option Addr) (m c' : Nat) (xs ys : List Int) (D D' : Nat → Prop) (w : World) (h : IntsL w D a n xs) (h' : IntsL w D' a' m ys) (hn : n ≤ 1099511627776) :
    Calls Try.prog 12 #[.slice a n c, .slice a' m c'] w fun e w' => e = .returned (.bool (decide (xs = ys))) ∧ Keep w w' := by
  refine calls_k fun Q hQ => ?_
  have HX := Lib.hid h.1
  have HY := Lib.hid h'.1
  by_cases hnm : n = m
  · subst hnm
    go_enter Try.func12, Try.ntmps12
    go_wp2
    go_loopw [5] (fun i wr => ∃ k : Nat, k ≤ n ∧ i = .int .i64 k ∧ Hid (∀ j, j < k → iAt xs j = iAt ys j) ∧ Keep w wr) (fun i _ => n - (intOf i).toNat)
    case atStart => exact ⟨0, Nat.zero_le _, rfl, fun j hj => absurd hj (by omega), Ext.refl _ _⟩
    case round =>
      obtain ⟨k, hk, rfl, H, hK⟩ := hrel
      by_cases hlt : k < n
      · obtain ⟨b, o, rfl, hd, hc⟩ := (h.ext hK (fun _ _ h => h)).2 (by omega)
        obtain ⟨b', o', rfl, hd', hc'⟩ := (h'.ext hK (fun _ _ h => h)).2 (by omega)
        have c0 := hc k hlt
        have c1 := hc' k hlt
        clear hc hc' h h'
        cases hv : (iAt xs k != iAt ys k)
        · have V : Hid (iAt xs k = iAt ys k) := by show _ = _; simpa using hv
          go_wp2
          go_quiet (fail)
          go_wp2
          go_roundw
          case rel => exact ⟨k + 1, by omega, by go_num, fun j hj => by
            rcases Nat.lt_succ_iff_lt_or_eq.1 hj with h | rfl
            · exact H.out j h
            · exact V.out, hK.drewN nq⟩
          case measure => simp [intOf]; omega
        · have V : Hid (iAt xs k ≠ iAt ys k) := by show _ ≠ _; simpa using hv
          go_wp2
          go_quiet (fail)
          go_wp2
          exact fin_ hQ ⟨ret_b (decide_eq_false (fun e => V.out (by rw [e]))).symm, hK.drewN nq⟩
      · go_wp2
        exact fin_ hQ ⟨ret_b (decide_eq_true (ints_eq HX.out HY.out (fun i hi => H.out i (by omega)))).symm, hK⟩
  · have hne : ((n : Int) != (m : Int)) = true := by simp; omega
    go_enter Try.func12, Try.ntmps12
    go_wp2
    exact fin_ hQ ⟨ret_b (decide_eq_false (fun e => hnm (by rw [← HX.out, ← HY.out, e]))).symm, Ext.refl _ _⟩

set_option maxHeartbeats 400000 in
theorem eqCon (a : Option Addr) (n c : Nat) (a' : Option Addr) (m c' : Nat) (xs ys : List Int) (D D' : Nat → Prop) (w : World) (h : IntsL w D a n xs) (h' : IntsL w D' a' m ys) (hn : n ≤ 1099511627776) :
    Calls Try.prog 55 #[.agg #[.slice a n c], .agg #[.slice a' m c']] w fun e w' => e = .returned (.bool (decide (xs = ys))) ∧ Keep w w' := by
  refine calls_k fun Q hQ => ?_
  have hK : Keep w ((w.alloc (.cells #[.slice a n c] 34)).alloc (.cells #[.slice a' m c'] 34)) := ((Ext.refl _ w).alloc _).alloc _
  have h1 := h.ext hK (fun _ _ h => h)
  have h1' := h'.ext hK (fun _ _ h => h)
  by_cases hv : xs = ys
  · have V := Lib.hid (decide_eq_true hv)
    clear hv
    go_enter Try.func55, Try.ntmps55
    go_wp2_with (go_at_call 19; refine (eqIntS _ _ _ _ _ _ _ _ _ _ _ h1 h1' hn).mono ?_; rw [V.out]; rintro e w1 ⟨rfl, hk1⟩)
    exact fin_ hQ ⟨ret_b V.out.symm, hK.trans hk1⟩
  · have V := Lib.hid (decide_eq_false hv)
    clear hv
    go_enter Try.func55, Try.ntmps55
    go_wp2_with (go_at_call 19; refine (eqIntS _ _ _ _ _ _ _ _ _ _ _ h1 h1' hn).mono ?_; rw [V.out]; rintro e w1 ⟨rfl, hk1⟩)
    exact fin_ hQ ⟨ret_b V.out.symm, hK.trans hk1⟩

def SmallC (cs : List (List Int)) : Prop := cs.length ≤ 1099511627776 ∧ ∀ i, i < cs.length → (cAt cs i).length ≤ 1099511627776
def SmallD (ds : List DeclL) : Prop := ds.length ≤ 1099511627776 ∧ ∀ i, i < ds.length → SmallC (dAt ds i).cons

set_option maxHeartbeats 1000000 in
theorem eqConS (a : Option Addr) (n c : Nat) (a' : Option Addr) (m c' : Nat) (xs ys : List (List Int)) (D D' : Nat → Prop) (w : World) (h : ConsR w D a n xs) (h' : ConsR w D' a' m ys) (hs : SmallC xs) :
    Calls Try.prog 50 #[.slice a n c, .slice a' m c'] w fun e w' => e = .returned (.bool (decide (xs = ys))) ∧ Keep w w' := by
  refine calls_k fun Q hQ => ?_
  have HX := Lib.hid h.1
  have HY := Lib.hid h'.1
  have hn : n ≤ 1099511627776 := by have := hs.1; have := HX.out; omega
  by_cases hnm : n = m
  · subst hnm
    go_enter Try.func50, Try.ntmps50
    go_wp2
    go_loopw [5] (fun i wr => ∃ k : Nat, k ≤ n ∧ i = .int .i64 k ∧ Hid (∀ j, j < k → cAt xs j = cAt ys j) ∧ Keep w wr) (fun i _ => n - (intOf i).toNat)
    case atStart => exact ⟨0, Nat.zero_le _, rfl, fun j hj => absurd hj (by omega), Ext.refl _ _⟩
    case round =>
      obtain ⟨k, hk, rfl, H, hK⟩ := hrel
      by_cases hlt : k < n
      · obtain ⟨b, o, rfl, hd, hc⟩ := (h.ext hK (fun _ _ h => h)).2 (by omega)
        obtain ⟨b', o', rfl, hd', hc'⟩ := (h'.ext hK (fun _ _ h => h)).2 (by omega)
        obtain ⟨a1, m1, k1, c0, _, i0⟩ := hc k hlt
        obtain ⟨a2, m2, k2, c1, _, i1⟩ := hc' k hlt
        have hm1 : m1 ≤ 1099511627776 := by have := hs.2 k (by have := HX.out; omega); have := i0.1; omega
        clear hc hc' h h' hs
        have i0' := i0.ext (w' := wr.drew) (Ext.refl (fun _ => False) wr).drew (fun _ _ h => h)
        have i1' := i1.ext (w' := wr.drew) (Ext.refl (fun _ => False) wr).drew (fun _ _ h => h)
        by_cases hv : cAt xs k = cAt ys k
        · have V := Lib.hid (decide_eq_true hv)
          have V1 := Lib.hid hv
          clear hv
          go_wp2
          go_still_tail 8, (by kernel_rfl)
          change wpList _ _ _ _ _ wr.drew
          go_wp2_with (go_at_call 55; refine (eqCon _ _ _ _ _ _ _ _ _ _ _ i0' i1' hm1).mono ?_; rw [V.out]; rintro e w1 ⟨rfl, hk1⟩)
          go_roundw
          case rel => exact ⟨k + 1, by omega, by go_num, fun j hj => by
            rcases Nat.lt_succ_iff_lt_or_eq.1 hj with h | rfl
            · exact H.out j h
            · exact V1.out, hK.drew.trans hk1⟩
          case measure => simp [intOf]; omega
        · have V := Lib.hid (decide_eq_false hv)
          have V1 := Lib.hid hv
          clear hv
          go_wp2
          go_still_tail 8, (by kernel_rfl)
          change wpList _ _ _ _ _ wr.drew
          go_wp2_with (go_at_call 55; refine (eqCon _ _ _ _ _ _ _ _ _ _ _ i0' i1' hm1).mono ?_; rw [V.out]; rintro e w1 ⟨rfl, hk1⟩)
          exact fin_ hQ ⟨ret_b (decide_eq_false (fun e => V1.out (by rw [e]))).symm, hK.drew.trans hk1⟩
      · go_wp2
        exact fin_ hQ ⟨ret_b (decide_eq_true (cons_eq HX.out HY.out (fun i hi => H.out i (by omega)))).symm, hK⟩
  · have hne : ((n : Int) != (m : Int)) = true := by simp; omega
    go_enter Try.func50, Try.ntmps50
    go_wp2
    exact fin_ hQ ⟨ret_b (decide_eq_false (fun e => hnm (by rw [← HX.out, ← HY.out, e]))).symm, Ext.refl _ _⟩

set_option maxHeartbeats 1000000 in
theorem eqDecl (x y : Int) (a : Option Addr) (n c : Nat) (x' y' : Int) (a' : Option Addr) (m c' : Nat) (xs ys : List (List Int)) (D D' : Nat → Prop) (w : World) (h : ConsR w D a n xs) (h' : ConsR w D' a' m ys) (hs : SmallC xs) :
    Calls Try.prog 41 #[.agg #[.int .i64 x, .int .i64 y, .slice a n c], .agg #[.int .i64 x', .int .i64 y', .slice a' m c']] w fun e w' => e = .returned (.bool (decide (x = x' ∧ y = y' ∧ xs = ys))) ∧ Keep w w' := by
  refine calls_k fun Q hQ => ?_
  have hK : Keep w ((w.alloc (.cells #[.int .i64 x, .int .i64 y, .slice a n c] 28)).alloc (.cells #[.int .i64 x', .int .i64 y', .slice a' m c'] 28)) := ((Ext.refl _ w).alloc _).alloc _
  have h1 := h.ext hK (fun _ _ h => h)
  have h1' := h'.ext hK (fun _ _ h => h)
  cases g0 : (x != x')
  · cases g1 : (y != y')
    · have g0' : Hid (x = x') := by show _ = _; simpa using g0
      have g1' : Hid (y = y') := by show _ = _; simpa using g1
      by_cases hv : xs = ys
      · have V := Lib.hid (decide_eq_true hv)
        have V1 := Lib.hid hv
        clear hv
        go_enter Try.func41, Try.ntmps41
        go_wp2_with (go_at_call 50; refine (eqConS _ _ _ _ _ _ _ _ _ _ _ h1 h1' hs).mono ?_; rw [V.out]; rintro e w1 ⟨rfl, hk1⟩)
        exact fin_ hQ ⟨ret_b (decide_eq_true ⟨g0'.out, g1'.out, V1.out⟩).symm, hK.trans hk1⟩
      · have V := Lib.hid (decide_eq_false hv)
        have V1 := Lib.hid hv
        clear hv
        go_enter Try.func41, Try.ntmps41
        go_wp2_with (go_at_call 50; refine (eqConS _ _ _ _ _ _ _ _ _ _ _ h1 h1' hs).mono ?_; rw [V.out]; rintro e w1 ⟨rfl, hk1⟩)
        exact fin_ hQ ⟨ret_b (decide_eq_false (fun e => V1.out e.2.2)).symm, hK.trans hk1⟩
    · have g1' : Hid (y ≠ y') := by show _ ≠ _; simpa using g1
      go_enter Try.func41, Try.ntmps41
      go_wp2_with fail
      exact fin_ hQ ⟨ret_b (decide_eq_false (fun e => g1'.out e.2.1)).symm, hK⟩
  · have g0' : Hid (x ≠ x') := by show _ ≠ _; simpa using g0
    go_enter Try.func41, Try.ntmps41
    go_wp2_with fail
    exact fin_ hQ ⟨ret_b (decide_eq_false (fun e => g0'.out e.1)).symm, hK⟩

theorem dAt_eta {d e : DeclL} : d = e ↔ d.from_ = e.from_ ∧ d.to_ = e.to_ ∧ d.cons = e.cons := by
  cases d; cases e; simp
instance : DecidableEq DeclL := fun _ _ => decidable_of_iff _ dAt_eta.symm

set_option maxHeartbeats 1000000 in
theorem eqDeclS (a : Option Addr) (n c : Nat) (a' : Option Addr) (m c' : Nat) (xs ys : List DeclL) (D D' : Nat → Prop) (w : World) (h : DeclsR w D a n xs) (h' : DeclsR w D' a' m ys) (hs : SmallD xs) :
    Calls Try.prog 20 #[.slice a n c, .slice a' m c'] w fun e w' => e = .returned (.bool (decide (xs = ys))) ∧ Keep w w' := by
  refine calls_k fun Q hQ => ?_
  have HX := Lib.hid h.1
  have HY := Lib.hid h'.1
  have hn : n ≤ 1099511627776 := by have := hs.1; have := HX.out; omega
  by_cases hnm : n = m
  · subst hnm
    go_enter Try.func20, Try.ntmps20
    go_wp2
    go_loopw [5] (fun i wr => ∃ k : Nat, k ≤ n ∧ i = .int .i64 k ∧ Hid (∀ j, j < k → dAt xs j = dAt ys j) ∧ Keep w wr) (fun i _ => n - (intOf i).toNat)
    case atStart => exact ⟨0, Nat.zero_le _, rfl, fun j hj => absurd hj (by omega), Ext.refl _ _⟩
    case round =>
      obtain ⟨k, hk, rfl, H, hK⟩ := hrel
      by_cases hlt : k < n
      · obtain ⟨b, o, rfl, hd, hc⟩ := (h.ext hK (fun _ _ h => h)).2 (by omega)
        obtain ⟨b', o', rfl, hd', hc'⟩ := (h'.ext hK (fun _ _ h => h)).2 (by omega)
        obtain ⟨c0, c1, a1, m1, k1, c2, _, i0⟩ := hc k hlt
        obtain ⟨d0, d1, a2, m2, k2, d2, _, i1⟩ := hc' k hlt
        have hm1 : SmallC (dAt xs k).cons := hs.2 k (by have := HX.out; omega)
        clear hc hc' h h' hs
        have i0' := i0.ext (w' := wr.drew) (Ext.refl (fun _ => False) wr).drew (fun _ _ h => h)
        have i1' := i1.ext (w' := wr.drew) (Ext.refl (fun _ => False) wr).drew (fun _ _ h => h)
        by_cases hv : (dAt xs k).from_ = (dAt ys k).from_ ∧ (dAt xs k).to_ = (dAt ys k).to_ ∧ (dAt xs k).cons = (dAt ys k).cons
        · have V := Lib.hid (decide_eq_true hv)
          have V1 := Lib.hid (dAt_eta.2 hv)
          clear hv
          go_wp2
          go_still_tail 8, (by kernel_rfl)
          change wpList _ _ _ _ _ wr.drew
          go_wp2_with (go_at_call 41; refine (eqDecl _ _ _ _ _ _ _ _ _ _ _ _ _ _ _ i0' i1' hm1).mono ?_; rw [V.out]; rintro e w1 ⟨rfl, hk1⟩)
          go_roundw
          case rel => exact ⟨k + 1, by omega, by go_num, fun j hj => by
            rcases Nat.lt_succ_iff_lt_or_eq.1 hj with h | rfl
            · exact H.out j h
            · exact V1.out, hK.drew.trans hk1⟩
          case measure => simp [intOf]; omega
        · have V := Lib.hid (decide_eq_false hv)
          have V1 := Lib.hid (fun e => hv (dAt_eta.1 e))
          clear hv
          go_wp2
          go_still_tail 8, (by kernel_rfl)
          change wpList _ _ _ _ _ wr.drew
          go_wp2_with (go_at_call 41; refine (eqDecl _ _ _ _ _ _ _ _ _ _ _ _ _ _ _ i0' i1' hm1).mono ?_; rw [V.out]; rintro e w1 ⟨rfl, hk1⟩)
          exact fin_ hQ ⟨ret_b (decide_eq_false (fun e => V1.out (by rw [e]))).symm, hK.drew.trans hk1⟩
      · go_wp2
        exact fin_ hQ ⟨ret_b (decide_eq_true (decls_eq HX.out HY.out (fun i hi => H.out i (by omega)))).symm, hK⟩
  · have hne : ((n : Int) != (m : Int)) = true := by simp; omega
    go_enter Try.func20, Try.ntmps20
    go_wp2
    exact fin_ hQ ⟨ret_b (decide_eq_false (fun e => hnm (by rw [← HX.out, ← HY.out, e]))).symm, Ext.refl _ _⟩
end Go.Proofs.Ythdjijhpdgajbaa
