/- The laws' own helpers: marks that are held. -/
import Derived.Test.YtpebcclabaennaaOwn3
import Derived.StillTailTactics
import Derived.IntWalk
namespace Go.Proofs.Ytpebcclabaennaa
open Go.RowKit


def HdC (f : FuncId) (d : Dat) : Prop := ∀ (a : Option Addr) (n c : Nat) (D : Nat → Prop) (k : Int) (w : World), Rd w D (mkD d k) (.slice a n c) → 0 ≤ k → k + (cntD d : Int) ≤ 4611686018427387904 →
  Calls Try.prog f #[.slice a n c, .int .i64 k] w fun e w' => e = .returned (.int .i64 (k + (cntD d : Int))) ∧ Keep w w'


set_option maxRecDepth 100000 in
set_option maxHeartbeats 4000000 in
theorem heldIntS (xs : List Int) : HdC 41 (encInts xs) := by
  intro a n c D k w h h0 h1
  refine calls_k fun Q hQ => ?_
  have e2 : cntD (encInts xs) = cntRR (xs.map rowI) := by rw [encInts, cntD]
  have e3 : mkD (encInts xs) k = .arr 1 (mkRR (xs.map rowI) k) := by rw [encInts, mkD]
  rw [e2] at hQ h1
  rw [e3] at h
  obtain ⟨e1, hnc, hm, hat⟩ := rows_at h
  rw [mkRR_len] at e1
  have HRL := Lib.hid e1
  have HL : Hid (xs.length = n) := by show _ = _; rw [ints_len] at e1; exact e1
  have HA := Lib.hid hat
  clear e1 e2 e3 hat h
  go_enter Try.func41, Try.ntmps41
  go_wp2
  go_loopw [1, 5] (fun kv iv wr => ∃ (j : Nat) (K : Int), j ≤ n ∧ iv = .int .i64 j ∧ kv = .int .i64 K ∧ Hid (K = k + (cntRR ((xs.map rowI).take j) : Int)) ∧ Keep w wr) (fun _ iv _ => n - (intOf iv).toNat)
  case atStart => exact ⟨0, k, Nat.zero_le _, rfl, rfl, by show _ = _; simp [cntRR], Ext.refl _ _⟩
  case round =>
    obtain ⟨j, K, hj, rfl, rfl, HK, hX⟩ := hrel
    by_cases hlt : j < n
    · have hjl : j < (xs.map rowI).length := by rw [HRL.out]; exact hlt
      have hct := cntRR_take (xs.map rowI) j hjl
      have hcl := cntRR_take_le (xs.map rowI) (j + 1)
      have hrow := ints_row xs j (by have := HL.out; omega)
      have hmg := mkRR_get (xs.map rowI) k j hjl
      rw [hrow] at hct hmg
      rw [← HK.out] at hmg
      have hcr : cntR [.num (iAt xs j)] = 1 := by simp only [cntR, cntD] <;> omega
      rw [hcr] at hct
      have hb0 : 0 ≤ K := by have := HK.out; omega
      have hb1 : K + ((1 : Nat) : Int) ≤ 4611686018427387904 := by have := HK.out; omega
      obtain ⟨b, o, rfl, hd, hcell⟩ := HA.out j hlt
      rw [hmg] at hcell
      have e : mkR [.num (iAt xs j)] K = [.num (K)] := by
        simp only [mkR, mkD]
        first | done | rfl
      rw [e] at hcell
      obtain ⟨u0, d0, r0⟩ := hcell 0 (by omega)
      rw [Nat.mul_one, Nat.add_zero] at d0
      obtain rfl := Rd.num_inv r0
      have g0 := (hX.cell (World.block_lt_of_cell? w _ d0) (fun h => h)).trans d0
      have HCT := Lib.hid hct
      clear hct hcl hrow hmg hcr hcell e d0
      go_wp2_with fail
      go_roundw
      case rel => exact ⟨j + 1, K + 1, by omega, by go_num, rfl, by
        show _ = _
        have h1 := HCT.out; have h2 := HK.out; omega, hX⟩
      case measure => simp [intOf]; omega
    · have HJ : Hid (j = n) := by show _ = _; omega
      go_wp2
      exact fin_ hQ ⟨ret_i (by rw [HK.out, HJ.out, List.take_of_length_le (Nat.le_of_eq HRL.out)]), hX⟩



set_option maxRecDepth 100000 in
set_option maxHeartbeats 4000000 in
theorem heldExprS_n (N : Nat) : ∀ xs : List ExprL, volD (encExprs xs) < N → HdC 80 (encExprs xs) := by
  induction N with
  | zero => intro xs h; omega
  | succ N ihN =>
  intro xs hvol a n c D k w h h0 h1
  have IH : ∀ ys : List ExprL, volD (encExprs ys) < volD (encExprs xs) → HdC 80 (encExprs ys) := fun ys hy => ihN ys (by omega)
  clear ihN hvol
  refine calls_k fun Q hQ => ?_
  have e2 : cntD (encExprs xs) = cntRR (rowsE xs) := by rw [encExprs, cntD]
  have e3 : mkD (encExprs xs) k = .arr 3 (mkRR (rowsE xs) k) := by rw [encExprs, mkD]
  rw [e2] at hQ h1
  rw [e3] at h
  obtain ⟨e1, hnc, hm, hat⟩ := rows_at h
  rw [mkRR_len] at e1
  have HRL := Lib.hid e1
  have HL : Hid (xs.length = n) := by show _ = _; rw [exprs_len] at e1; exact e1
  have HA := Lib.hid hat
  clear e1 e2 e3 hat h
  go_enter Try.func80, Try.ntmps80
  go_wp2
  go_loopw [1, 5] (fun kv iv wr => ∃ (j : Nat) (K : Int), j ≤ n ∧ iv = .int .i64 j ∧ kv = .int .i64 K ∧ Hid (K = k + (cntRR ((rowsE xs).take j) : Int)) ∧ Keep w wr) (fun _ iv _ => n - (intOf iv).toNat)
  case atStart => exact ⟨0, k, Nat.zero_le _, rfl, rfl, by show _ = _; simp [cntRR], Ext.refl _ _⟩
  case round =>
    obtain ⟨j, K, hj, rfl, rfl, HK, hX⟩ := hrel
    by_cases hlt : j < n
    · have hjl : j < (rowsE xs).length := by rw [HRL.out]; exact hlt
      have hct := cntRR_take (rowsE xs) j hjl
      have hcl := cntRR_take_le (rowsE xs) (j + 1)
      have hrow := exprs_row xs j (by have := HL.out; omega)
      have hmg := mkRR_get (rowsE xs) k j hjl
      rw [hrow] at hct hmg
      rw [← HK.out] at hmg
      have hcr : cntR [.num ((eAt xs j).op), .num ((eAt xs j).num), encExprs ((eAt xs j).kids)] = 1 + 1 + cntD (encExprs ((eAt xs j).kids)) := by simp only [cntR, cntD] <;> omega
      rw [hcr] at hct
      have hb0 : 0 ≤ K := by have := HK.out; omega
      have hb1 : K + ((1 + 1 + cntD (encExprs ((eAt xs j).kids)) : Nat) : Int) ≤ 4611686018427387904 := by have := HK.out; omega
      obtain ⟨b, o, rfl, hd, hcell⟩ := HA.out j hlt
      rw [hmg] at hcell
      obtain ⟨K1, y1⟩ : ∃ z : Int, z = K + 1 + 1 + (cntD (encExprs ((eAt xs j).kids)) : Int) := ⟨_, rfl⟩
      have e : mkR [.num ((eAt xs j).op), .num ((eAt xs j).num), encExprs ((eAt xs j).kids)] K = [.num (K), .num (K + 1), mkD (encExprs ((eAt xs j).kids)) (K + 1 + 1)] := by
        subst y1
        simp only [mkR, mkD, cntD]
        first | done | rfl
      rw [e] at hcell
      obtain ⟨u0, d0, r0⟩ := hcell 0 (by omega)
      rw [Nat.add_zero] at d0
      obtain rfl := Rd.num_inv r0
      have g0 := (hX.cell (World.block_lt_of_cell? w _ d0) (fun h => h)).trans d0
      obtain ⟨u1, d1, r1⟩ := hcell 1 (by omega)
      obtain rfl := Rd.num_inv r1
      have g1 := (hX.cell (World.block_lt_of_cell? w _ d1) (fun h => h)).trans d1
      obtain ⟨u2, d2, r2⟩ := hcell 2 (by omega)
      replace r2 : Rd w D (mkD (encExprs ((eAt xs j).kids)) (K + 1 + 1)) u2 := r2
      obtain ⟨a2, n2, c2, rfl⟩ : ∃ a n c, u2 = .slice a n c := by
        rw [encExprs, mkD] at r2
        obtain ⟨a, n, c, e, _⟩ := arr_slice r2
        exact ⟨a, n, c, e⟩
      have k2 : HdC 80 (encExprs ((eAt xs j).kids)) := (IH _ (by have := vol_lt (s := 3) (rows := (rowsE xs)) (i := j) (j := 2) hjl (by rw [hrow]; simp); rw [rAt, hrow] at this; simp only [dGet, List.getD, List.getElem?_cons_succ, List.getElem?_cons_zero, Option.getD_some] at this; exact this))
      have q2 := r2.k hX
      have g2 := (hX.cell (World.block_lt_of_cell? w _ d2) (fun h => h)).trans d2
      have B1 : 0 ≤ K1 ∧ K1 ≤ 4611686018427387904 := by omega
      have HCT := Lib.hid hct
      have HY1 := Lib.hid y1
      clear hct hcl hrow hmg hcr hcell e d0 d1 d2 r2 y1
      obtain ⟨B1a, B1b⟩ := B1
      go_wp2_with fail
      refine (k2 _ _ _ _ _ _ q2 (by omega) (by have := HY1.out; omega)).mono ?_
      rw [← HY1.out]
      rintro e w1 ⟨rfl, p1⟩
      have t1 : decide (K1 < 0) = false := by simp; omega
      replace hX := hX.trans p1
      clear g0 g1 g2
      go_wp2_with fail
      go_roundw
      case rel => exact ⟨j + 1, K1, by omega, by go_num, rfl, by
        show _ = _
        have h1 := HCT.out; have h2 := HK.out; have := HY1.out; omega, hX⟩
      case measure => simp [intOf]; omega
    · have HJ : Hid (j = n) := by show _ = _; omega
      go_wp2
      exact fin_ hQ ⟨ret_i (by rw [HK.out, HJ.out, List.take_of_length_le (Nat.le_of_eq HRL.out)]), hX⟩
theorem heldExprS (xs : List ExprL) : HdC 80 (encExprs xs) := heldExprS_n _ xs (Nat.lt_succ_self _)




end Go.Proofs.Ytpebcclabaennaa
