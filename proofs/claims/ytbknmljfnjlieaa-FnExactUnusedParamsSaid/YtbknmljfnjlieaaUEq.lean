/- The laws' own helpers: comparisons of equal data. -/
import Derived.Test.YtbknmljfnjlieaaGA
import Derived.StillTailTactics
import Derived.IntWalk
namespace Go.Proofs.Ytbknmljfnjlieaa
open Go.RowKit


def EqC (f : FuncId) (d : Dat) : Prop := ∀ (a : Option Addr) (n c : Nat) (a' : Option Addr) (n' c' : Nat) (D D' : Nat → Prop) (w : World), Rd w D d (.slice a n c) → Rd w D' d (.slice a' n' c') →
  Calls Try.prog f #[.slice a n c, .slice a' n' c'] w fun e w' => e = .returned (.bool true) ∧ Keep w w'


set_option maxHeartbeats 400000 in
theorem eqIntS (xs : List Int) : EqC 18 (encInts xs) := by
  intro a n c a' n' c' D D' w h h'
  refine calls_k fun Q hQ => ?_
  obtain ⟨e1, hnc, hm, hat⟩ := ints_at h
  obtain ⟨e2, _, _, hat'⟩ := ints_at h'
  obtain rfl : n = n' := by omega
  have HA := Lib.hid hat
  have HA' := Lib.hid hat'
  clear e1 e2 hat hat'
  go_enter Try.func18, Try.ntmps18
  go_wp2
  go_loopw [5] (fun i wr => ∃ k : Nat, k ≤ n ∧ i = .int .i64 k ∧ Keep w wr) (fun i _ => n - (intOf i).toNat)
  case atStart => exact ⟨0, Nat.zero_le _, rfl, Ext.refl _ _⟩
  case round =>
    obtain ⟨k, hk, rfl, hK⟩ := hrel
    by_cases hlt : k < n
    · obtain ⟨b, o, rfl, hd, c0⟩ := HA.out k hlt
      obtain ⟨b', o', rfl, hd', c1⟩ := HA'.out k hlt
      have g0 := (hK.cell (World.block_lt_of_cell? w _ c0) (fun h => h)).trans c0
      have g1 := (hK.cell (World.block_lt_of_cell? w _ c1) (fun h => h)).trans c1
      clear c0 c1
      go_wp2
      go_quiet (fail)
      go_wp2
      go_roundw
      case rel => exact ⟨k + 1, by omega, by go_num, hK.drewN nq⟩
      case measure => simp [intOf]; omega
    · go_wp2
      exact fin_ hQ ⟨rfl, hK⟩

set_option maxHeartbeats 1000000 in
theorem eqCon (D D' : Nat → Prop) (w : World) (a0 : Option Addr) (n0 c0 : Nat) (a0' : Option Addr) (n0' c0' : Nat) (d0 : Dat) (r0 : Rd w D d0 (.slice a0 n0 c0)) (r0' : Rd w D' d0 (.slice a0' n0' c0')) (k0 : EqC 18 d0) :
    Calls Try.prog 157 #[.agg #[.slice a0 n0 c0], .agg #[.slice a0' n0' c0']] w fun e w' => e = .returned (.bool true) ∧ Keep w w' := by
  refine calls_k fun Q hQ => ?_
  have K : Keep w ((w.alloc (.cells #[.slice a0 n0 c0] 170)).alloc (.cells #[.slice a0' n0' c0'] 170)) := (Keep.al _ _).trans (Keep.al _ _)
  have R0 := (rowOf w #[.slice a0 n0 c0] 170).alloc (.cells #[.slice a0' n0' c0'] 170)
  have R1 := rowOf (w.alloc (.cells #[.slice a0 n0 c0] 170)) #[.slice a0' n0' c0'] 170
  have q0 := r0.k K
  have q0' := r0'.k K
  clear r0 r0'
  simp only [World.size_alloc] at R1
  go_enter Try.func157, Try.ntmps157
  go_wp2_with fail
  refine (k0 _ _ _ _ _ _ _ _ _ q0 q0').mono ?_
  rintro e w1 ⟨rfl, p1⟩
  replace K := K.trans p1
  replace R0 := row_ext R0 p1 (fun h => h)
  replace R1 := row_ext R1 p1 (fun h => h)
  replace q0 := q0.k p1
  replace q0' := q0'.k p1
  have x0 := R0.cell (i := 0) (by simp)
  have y0 := R1.cell (i := 0) (by simp)
  simp at x0 y0
  go_wp2_with fail
  exact fin_ hQ ⟨rfl, K⟩

set_option maxRecDepth 100000 in
set_option maxHeartbeats 2000000 in
theorem eqConS (xs : List (List Int)) : EqC 142 (encCons xs) := by
  intro a n c a' n' c' D D' w h h'
  refine calls_k fun Q hQ => ?_
  obtain ⟨e1, hnc, hm, hat⟩ := cons_at h
  obtain ⟨e2, _, _, hat'⟩ := cons_at h'
  obtain rfl : n = n' := by omega
  have HL := Lib.hid e1
  have HA := Lib.hid hat
  have HA' := Lib.hid hat'
  clear e1 e2 hat hat' h h'
  go_enter Try.func142, Try.ntmps142
  go_wp2
  go_loopw [5] (fun i wr => ∃ k : Nat, k ≤ n ∧ i = .int .i64 k ∧ Keep w wr) (fun i _ => n - (intOf i).toNat)
  case atStart => exact ⟨0, Nat.zero_le _, rfl, Ext.refl _ _⟩
  case round =>
    obtain ⟨j, hj, rfl, hK⟩ := hrel
    by_cases hlt : j < n
    · obtain ⟨b, o, rfl, hd, a0, n0, c0, d0, r0⟩ := HA.out j hlt
      obtain ⟨b', o', rfl, hd', a0', n0', c0', d0', r0'⟩ := HA'.out j hlt
      have x0 := (hK.cell (World.block_lt_of_cell? w _ d0) (fun h => h)).trans d0
      have y0 := (hK.cell (World.block_lt_of_cell? w _ d0') (fun h => h)).trans d0'
      have q0 := (r0.k hK).ext (w' := wr.drew) (Ext.refl (fun _ => False) wr).drew (fun _ _ h => h)
      have q0' := (r0'.k hK).ext (w' := wr.drew) (Ext.refl (fun _ => False) wr).drew (fun _ _ h => h)
      clear d0 d0' r0 r0'
      go_wp2
      go_still_tail 8, (by kernel_rfl)
      change wpList _ _ _ _ _ wr.drew
      go_wp2_with fail
      refine (eqCon _ _ _ _ _ _ _ _ _ _ q0 q0' (eqIntS _)).mono ?_
      rintro e w1 ⟨rfl, p1⟩
      go_wp2_with fail
      go_roundw
      case rel => exact ⟨j + 1, by omega, by go_num, hK.drew.trans p1⟩
      case measure => simp [intOf]; omega
    · go_wp2
      exact fin_ hQ ⟨rfl, hK⟩

set_option maxHeartbeats 1000000 in
theorem eqDecl (D D' : Nat → Prop) (w : World) (z0 : Int) (z1 : Int) (a2 : Option Addr) (n2 c2 : Nat) (a2' : Option Addr) (n2' c2' : Nat) (d2 : Dat) (r2 : Rd w D d2 (.slice a2 n2 c2)) (r2' : Rd w D' d2 (.slice a2' n2' c2')) (k2 : EqC 142 d2) :
    Calls Try.prog 104 #[.agg #[.int .i64 z0, .int .i64 z1, .slice a2 n2 c2], .agg #[.int .i64 z0, .int .i64 z1, .slice a2' n2' c2']] w fun e w' => e = .returned (.bool true) ∧ Keep w w' := by
  refine calls_k fun Q hQ => ?_
  have K : Keep w ((w.alloc (.cells #[.int .i64 z0, .int .i64 z1, .slice a2 n2 c2] 128)).alloc (.cells #[.int .i64 z0, .int .i64 z1, .slice a2' n2' c2'] 128)) := (Keep.al _ _).trans (Keep.al _ _)
  have R0 := (rowOf w #[.int .i64 z0, .int .i64 z1, .slice a2 n2 c2] 128).alloc (.cells #[.int .i64 z0, .int .i64 z1, .slice a2' n2' c2'] 128)
  have R1 := rowOf (w.alloc (.cells #[.int .i64 z0, .int .i64 z1, .slice a2 n2 c2] 128)) #[.int .i64 z0, .int .i64 z1, .slice a2' n2' c2'] 128
  have q2 := r2.k K
  have q2' := r2'.k K
  clear r2 r2'
  simp only [World.size_alloc] at R1
  go_enter Try.func104, Try.ntmps104
  go_wp2_with fail
  refine (k2 _ _ _ _ _ _ _ _ _ q2 q2').mono ?_
  rintro e w1 ⟨rfl, p1⟩
  replace K := K.trans p1
  replace R0 := row_ext R0 p1 (fun h => h)
  replace R1 := row_ext R1 p1 (fun h => h)
  replace q2 := q2.k p1
  replace q2' := q2'.k p1
  have x0 := R0.cell (i := 0) (by simp)
  have y0 := R1.cell (i := 0) (by simp)
  have x1 := R0.cell (i := 1) (by simp)
  have y1 := R1.cell (i := 1) (by simp)
  have x2 := R0.cell (i := 2) (by simp)
  have y2 := R1.cell (i := 2) (by simp)
  simp at x0 y0 x1 y1 x2 y2
  go_wp2_with fail
  exact fin_ hQ ⟨rfl, K⟩

set_option maxRecDepth 100000 in
set_option maxHeartbeats 2000000 in
theorem eqDeclS (xs : List DeclL) : EqC 57 (encDecls xs) := by
  intro a n c a' n' c' D D' w h h'
  refine calls_k fun Q hQ => ?_
  obtain ⟨e1, hnc, hm, hat⟩ := decls_at h
  obtain ⟨e2, _, _, hat'⟩ := decls_at h'
  obtain rfl : n = n' := by omega
  have HL := Lib.hid e1
  have HA := Lib.hid hat
  have HA' := Lib.hid hat'
  clear e1 e2 hat hat' h h'
  go_enter Try.func57, Try.ntmps57
  go_wp2
  go_loopw [5] (fun i wr => ∃ k : Nat, k ≤ n ∧ i = .int .i64 k ∧ Keep w wr) (fun i _ => n - (intOf i).toNat)
  case atStart => exact ⟨0, Nat.zero_le _, rfl, Ext.refl _ _⟩
  case round =>
    obtain ⟨j, hj, rfl, hK⟩ := hrel
    by_cases hlt : j < n
    · obtain ⟨b, o, rfl, hd, a2, n2, c2, d0, d1, d2, r2⟩ := HA.out j hlt
      obtain ⟨b', o', rfl, hd', a2', n2', c2', d0', d1', d2', r2'⟩ := HA'.out j hlt
      have x0 := (hK.cell (World.block_lt_of_cell? w _ d0) (fun h => h)).trans d0
      have y0 := (hK.cell (World.block_lt_of_cell? w _ d0') (fun h => h)).trans d0'
      have x1 := (hK.cell (World.block_lt_of_cell? w _ d1) (fun h => h)).trans d1
      have y1 := (hK.cell (World.block_lt_of_cell? w _ d1') (fun h => h)).trans d1'
      have x2 := (hK.cell (World.block_lt_of_cell? w _ d2) (fun h => h)).trans d2
      have y2 := (hK.cell (World.block_lt_of_cell? w _ d2') (fun h => h)).trans d2'
      have q2 := (r2.k hK).ext (w' := wr.drew) (Ext.refl (fun _ => False) wr).drew (fun _ _ h => h)
      have q2' := (r2'.k hK).ext (w' := wr.drew) (Ext.refl (fun _ => False) wr).drew (fun _ _ h => h)
      clear d0 d0' d1 d1' d2 d2' r2 r2'
      go_wp2
      go_still_tail 8, (by kernel_rfl)
      change wpList _ _ _ _ _ wr.drew
      go_wp2_with fail
      refine (eqDecl _ _ _ _ _ _ _ _ _ _ _ _ q2 q2' (eqConS _)).mono ?_
      rintro e w1 ⟨rfl, p1⟩
      go_wp2_with fail
      go_roundw
      case rel => exact ⟨j + 1, by omega, by go_num, hK.drew.trans p1⟩
      case measure => simp [intOf]; omega
    · go_wp2
      exact fin_ hQ ⟨rfl, hK⟩

set_option maxHeartbeats 1000000 in
theorem eqExpr (D D' : Nat → Prop) (w : World) (z0 : Int) (z1 : Int) (a2 : Option Addr) (n2 c2 : Nat) (a2' : Option Addr) (n2' c2' : Nat) (d2 : Dat) (r2 : Rd w D d2 (.slice a2 n2 c2)) (r2' : Rd w D' d2 (.slice a2' n2' c2')) (k2 : EqC 59 d2) :
    Calls Try.prog 19 #[.agg #[.int .i64 z0, .int .i64 z1, .slice a2 n2 c2], .agg #[.int .i64 z0, .int .i64 z1, .slice a2' n2' c2']] w fun e w' => e = .returned (.bool true) ∧ Keep w w' := by
  refine calls_k fun Q hQ => ?_
  have K : Keep w ((w.alloc (.cells #[.int .i64 z0, .int .i64 z1, .slice a2 n2 c2] 41)).alloc (.cells #[.int .i64 z0, .int .i64 z1, .slice a2' n2' c2'] 41)) := (Keep.al _ _).trans (Keep.al _ _)
  have R0 := (rowOf w #[.int .i64 z0, .int .i64 z1, .slice a2 n2 c2] 41).alloc (.cells #[.int .i64 z0, .int .i64 z1, .slice a2' n2' c2'] 41)
  have R1 := rowOf (w.alloc (.cells #[.int .i64 z0, .int .i64 z1, .slice a2 n2 c2] 41)) #[.int .i64 z0, .int .i64 z1, .slice a2' n2' c2'] 41
  have q2 := r2.k K
  have q2' := r2'.k K
  clear r2 r2'
  simp only [World.size_alloc] at R1
  go_enter Try.func19, Try.ntmps19
  go_wp2_with fail
  refine (k2 _ _ _ _ _ _ _ _ _ q2 q2').mono ?_
  rintro e w1 ⟨rfl, p1⟩
  replace K := K.trans p1
  replace R0 := row_ext R0 p1 (fun h => h)
  replace R1 := row_ext R1 p1 (fun h => h)
  replace q2 := q2.k p1
  replace q2' := q2'.k p1
  have x0 := R0.cell (i := 0) (by simp)
  have y0 := R1.cell (i := 0) (by simp)
  have x1 := R0.cell (i := 1) (by simp)
  have y1 := R1.cell (i := 1) (by simp)
  have x2 := R0.cell (i := 2) (by simp)
  have y2 := R1.cell (i := 2) (by simp)
  simp at x0 y0 x1 y1 x2 y2
  go_wp2_with fail
  exact fin_ hQ ⟨rfl, K⟩

set_option maxRecDepth 100000 in
set_option maxHeartbeats 2000000 in
theorem eqExprS_n (N : Nat) : ∀ xs : List ExprL, volD (encExprs xs) < N → EqC 59 (encExprs xs) := by
  induction N with
  | zero => intro xs h; omega
  | succ N ihN =>
  intro xs hvol a n c a' n' c' D D' w h h'
  have IH : ∀ ys : List ExprL, volD (encExprs ys) < volD (encExprs xs) → EqC 59 (encExprs ys) := fun ys hy => ihN ys (by omega)
  clear ihN hvol
  refine calls_k fun Q hQ => ?_
  obtain ⟨e1, hnc, hm, hat⟩ := exprs_at h
  obtain ⟨e2, _, _, hat'⟩ := exprs_at h'
  obtain rfl : n = n' := by omega
  have HL := Lib.hid e1
  have HA := Lib.hid hat
  have HA' := Lib.hid hat'
  clear e1 e2 hat hat' h h'
  go_enter Try.func59, Try.ntmps59
  go_wp2
  go_loopw [5] (fun i wr => ∃ k : Nat, k ≤ n ∧ i = .int .i64 k ∧ Keep w wr) (fun i _ => n - (intOf i).toNat)
  case atStart => exact ⟨0, Nat.zero_le _, rfl, Ext.refl _ _⟩
  case round =>
    obtain ⟨j, hj, rfl, hK⟩ := hrel
    by_cases hlt : j < n
    · obtain ⟨b, o, rfl, hd, a2, n2, c2, d0, d1, d2, r2⟩ := HA.out j hlt
      obtain ⟨b', o', rfl, hd', a2', n2', c2', d0', d1', d2', r2'⟩ := HA'.out j hlt
      have x0 := (hK.cell (World.block_lt_of_cell? w _ d0) (fun h => h)).trans d0
      have y0 := (hK.cell (World.block_lt_of_cell? w _ d0') (fun h => h)).trans d0'
      have x1 := (hK.cell (World.block_lt_of_cell? w _ d1) (fun h => h)).trans d1
      have y1 := (hK.cell (World.block_lt_of_cell? w _ d1') (fun h => h)).trans d1'
      have x2 := (hK.cell (World.block_lt_of_cell? w _ d2) (fun h => h)).trans d2
      have y2 := (hK.cell (World.block_lt_of_cell? w _ d2') (fun h => h)).trans d2'
      have q2 := (r2.k hK).ext (w' := wr.drew) (Ext.refl (fun _ => False) wr).drew (fun _ _ h => h)
      have q2' := (r2'.k hK).ext (w' := wr.drew) (Ext.refl (fun _ => False) wr).drew (fun _ _ h => h)
      clear d0 d0' d1 d1' d2 d2' r2 r2'
      go_wp2
      go_still_tail 8, (by kernel_rfl)
      change wpList _ _ _ _ _ wr.drew
      go_wp2_with fail
      refine (eqExpr _ _ _ _ _ _ _ _ _ _ _ _ q2 q2' (IH _ (by have := vol_lt (s := 3) (rows := (rowsE xs)) (i := j) (j := 2) (by rw [exprs_len]; have := HL.out; omega) (by rw [exprs_row xs j (by have := HL.out; omega)]; simp); rw [rAt, exprs_row xs j (by have := HL.out; omega)] at this; simp only [dGet, List.getD, List.getElem?_cons_succ, List.getElem?_cons_zero, Option.getD_some] at this; exact this))).mono ?_
      rintro e w1 ⟨rfl, p1⟩
      go_wp2_with fail
      go_roundw
      case rel => exact ⟨j + 1, by omega, by go_num, hK.drew.trans p1⟩
      case measure => simp [intOf]; omega
    · go_wp2
      exact fin_ hQ ⟨rfl, hK⟩
theorem eqExprS (xs : List ExprL) : EqC 59 (encExprs xs) := eqExprS_n _ xs (Nat.lt_succ_self _)

set_option maxHeartbeats 1000000 in
theorem eqFunc (D D' : Nat → Prop) (w : World) (a0 : Option Addr) (n0 c0 : Nat) (a0' : Option Addr) (n0' c0' : Nat) (d0 : Dat) (z1 : Int) (z2 : Int) (z3 : Int) (a4 : Option Addr) (n4 c4 : Nat) (a4' : Option Addr) (n4' c4' : Nat) (d4 : Dat) (r0 : Rd w D d0 (.slice a0 n0 c0)) (r0' : Rd w D' d0 (.slice a0' n0' c0')) (r4 : Rd w D d4 (.slice a4 n4 c4)) (r4' : Rd w D' d4 (.slice a4' n4' c4')) (k0 : EqC 18 d0) (k4 : EqC 59 d4) :
    Calls Try.prog 105 #[.agg #[.slice a0 n0 c0, .int .i64 z1, .int .i64 z2, .int .i64 z3, .slice a4 n4 c4], .agg #[.slice a0' n0' c0', .int .i64 z1, .int .i64 z2, .int .i64 z3, .slice a4' n4' c4']] w fun e w' => e = .returned (.bool true) ∧ Keep w w' := by
  refine calls_k fun Q hQ => ?_
  have K : Keep w ((w.alloc (.cells #[.slice a0 n0 c0, .int .i64 z1, .int .i64 z2, .int .i64 z3, .slice a4 n4 c4] 92)).alloc (.cells #[.slice a0' n0' c0', .int .i64 z1, .int .i64 z2, .int .i64 z3, .slice a4' n4' c4'] 92)) := (Keep.al _ _).trans (Keep.al _ _)
  have R0 := (rowOf w #[.slice a0 n0 c0, .int .i64 z1, .int .i64 z2, .int .i64 z3, .slice a4 n4 c4] 92).alloc (.cells #[.slice a0' n0' c0', .int .i64 z1, .int .i64 z2, .int .i64 z3, .slice a4' n4' c4'] 92)
  have R1 := rowOf (w.alloc (.cells #[.slice a0 n0 c0, .int .i64 z1, .int .i64 z2, .int .i64 z3, .slice a4 n4 c4] 92)) #[.slice a0' n0' c0', .int .i64 z1, .int .i64 z2, .int .i64 z3, .slice a4' n4' c4'] 92
  have q0 := r0.k K
  have q0' := r0'.k K
  have q4 := r4.k K
  have q4' := r4'.k K
  clear r0 r0' r4 r4'
  simp only [World.size_alloc] at R1
  go_enter Try.func105, Try.ntmps105
  go_wp2_with fail
  refine (k0 _ _ _ _ _ _ _ _ _ q0 q0').mono ?_
  rintro e w1 ⟨rfl, p1⟩
  replace K := K.trans p1
  replace R0 := row_ext R0 p1 (fun h => h)
  replace R1 := row_ext R1 p1 (fun h => h)
  replace q0 := q0.k p1
  replace q0' := q0'.k p1
  replace q4 := q4.k p1
  replace q4' := q4'.k p1
  have x0 := R0.cell (i := 0) (by simp)
  have y0 := R1.cell (i := 0) (by simp)
  have x1 := R0.cell (i := 1) (by simp)
  have y1 := R1.cell (i := 1) (by simp)
  have x2 := R0.cell (i := 2) (by simp)
  have y2 := R1.cell (i := 2) (by simp)
  have x3 := R0.cell (i := 3) (by simp)
  have y3 := R1.cell (i := 3) (by simp)
  have x4 := R0.cell (i := 4) (by simp)
  have y4 := R1.cell (i := 4) (by simp)
  simp at x0 y0 x1 y1 x2 y2 x3 y3 x4 y4
  go_wp2_with fail
  clear x0 y0 x1 y1 x2 y2 x3 y3 x4 y4
  refine (eqExpr _ _ _ _ _ _ _ _ _ _ _ _ q4 q4' k4).mono ?_
  rintro e w2 ⟨rfl, p2⟩
  replace K := K.trans p2
  replace R0 := row_ext R0 p2 (fun h => h)
  replace R1 := row_ext R1 p2 (fun h => h)
  replace q0 := q0.k p2
  replace q0' := q0'.k p2
  replace q4 := q4.k p2
  replace q4' := q4'.k p2
  have x0 := R0.cell (i := 0) (by simp)
  have y0 := R1.cell (i := 0) (by simp)
  have x1 := R0.cell (i := 1) (by simp)
  have y1 := R1.cell (i := 1) (by simp)
  have x2 := R0.cell (i := 2) (by simp)
  have y2 := R1.cell (i := 2) (by simp)
  have x3 := R0.cell (i := 3) (by simp)
  have y3 := R1.cell (i := 3) (by simp)
  have x4 := R0.cell (i := 4) (by simp)
  have y4 := R1.cell (i := 4) (by simp)
  simp at x0 y0 x1 y1 x2 y2 x3 y3 x4 y4
  go_wp2_with fail
  exact fin_ hQ ⟨rfl, K⟩

set_option maxRecDepth 100000 in
set_option maxHeartbeats 2000000 in
theorem eqFuncS (xs : List FuncL) : EqC 58 (encFuncs xs) := by
  intro a n c a' n' c' D D' w h h'
  refine calls_k fun Q hQ => ?_
  obtain ⟨e1, hnc, hm, hat⟩ := funcs_at h
  obtain ⟨e2, _, _, hat'⟩ := funcs_at h'
  obtain rfl : n = n' := by omega
  have HL := Lib.hid e1
  have HA := Lib.hid hat
  have HA' := Lib.hid hat'
  clear e1 e2 hat hat' h h'
  go_enter Try.func58, Try.ntmps58
  go_wp2
  go_loopw [5] (fun i wr => ∃ k : Nat, k ≤ n ∧ i = .int .i64 k ∧ Keep w wr) (fun i _ => n - (intOf i).toNat)
  case atStart => exact ⟨0, Nat.zero_le _, rfl, Ext.refl _ _⟩
  case round =>
    obtain ⟨j, hj, rfl, hK⟩ := hrel
    by_cases hlt : j < n
    · obtain ⟨b, o, rfl, hd, a0, n0, c0, a4, n4, c4, d0, d1, d2, d3, d4, r0, r4⟩ := HA.out j hlt
      obtain ⟨b', o', rfl, hd', a0', n0', c0', a4', n4', c4', d0', d1', d2', d3', d4', r0', r4'⟩ := HA'.out j hlt
      have x0 := (hK.cell (World.block_lt_of_cell? w _ d0) (fun h => h)).trans d0
      have y0 := (hK.cell (World.block_lt_of_cell? w _ d0') (fun h => h)).trans d0'
      have x1 := (hK.cell (World.block_lt_of_cell? w _ d1) (fun h => h)).trans d1
      have y1 := (hK.cell (World.block_lt_of_cell? w _ d1') (fun h => h)).trans d1'
      have x2 := (hK.cell (World.block_lt_of_cell? w _ d2) (fun h => h)).trans d2
      have y2 := (hK.cell (World.block_lt_of_cell? w _ d2') (fun h => h)).trans d2'
      have x3 := (hK.cell (World.block_lt_of_cell? w _ d3) (fun h => h)).trans d3
      have y3 := (hK.cell (World.block_lt_of_cell? w _ d3') (fun h => h)).trans d3'
      have x4 := (hK.cell (World.block_lt_of_cell? w _ d4) (fun h => h)).trans d4
      have y4 := (hK.cell (World.block_lt_of_cell? w _ d4') (fun h => h)).trans d4'
      have q0 := (r0.k hK).ext (w' := wr.drew) (Ext.refl (fun _ => False) wr).drew (fun _ _ h => h)
      have q0' := (r0'.k hK).ext (w' := wr.drew) (Ext.refl (fun _ => False) wr).drew (fun _ _ h => h)
      have q4 := (r4.k hK).ext (w' := wr.drew) (Ext.refl (fun _ => False) wr).drew (fun _ _ h => h)
      have q4' := (r4'.k hK).ext (w' := wr.drew) (Ext.refl (fun _ => False) wr).drew (fun _ _ h => h)
      clear d0 d0' d1 d1' d2 d2' d3 d3' d4 d4' r0 r0' r4 r4'
      go_wp2
      go_still_tail 8, (by kernel_rfl)
      change wpList _ _ _ _ _ wr.drew
      go_wp2_with fail
      refine (eqFunc _ _ _ _ _ _ _ _ _ _ _ _ _ _ _ _ _ _ _ _ q0 q0' q4 q4' (eqIntS _) (eqExprS _)).mono ?_
      rintro e w1 ⟨rfl, p1⟩
      go_wp2_with fail
      go_roundw
      case rel => exact ⟨j + 1, by omega, by go_num, hK.drew.trans p1⟩
      case measure => simp [intOf]; omega
    · go_wp2
      exact fin_ hQ ⟨rfl, hK⟩

set_option maxHeartbeats 1000000 in
theorem eqProgram (D D' : Nat → Prop) (w : World) (a0 : Option Addr) (n0 c0 : Nat) (a0' : Option Addr) (n0' c0' : Nat) (d0 : Dat) (a1 : Option Addr) (n1 c1 : Nat) (a1' : Option Addr) (n1' c1' : Nat) (d1 : Dat) (r0 : Rd w D d0 (.slice a0 n0 c0)) (r0' : Rd w D' d0 (.slice a0' n0' c0')) (r1 : Rd w D d1 (.slice a1 n1 c1)) (r1' : Rd w D' d1 (.slice a1' n1' c1')) (k0 : EqC 57 d0) (k1 : EqC 58 d1) :
    Calls Try.prog 17 #[.agg #[.slice a0 n0 c0, .slice a1 n1 c1], .agg #[.slice a0' n0' c0', .slice a1' n1' c1']] w fun e w' => e = .returned (.bool true) ∧ Keep w w' := by
  refine calls_k fun Q hQ => ?_
  have K : Keep w ((w.alloc (.cells #[.slice a0 n0 c0, .slice a1 n1 c1] 36)).alloc (.cells #[.slice a0' n0' c0', .slice a1' n1' c1'] 36)) := (Keep.al _ _).trans (Keep.al _ _)
  have R0 := (rowOf w #[.slice a0 n0 c0, .slice a1 n1 c1] 36).alloc (.cells #[.slice a0' n0' c0', .slice a1' n1' c1'] 36)
  have R1 := rowOf (w.alloc (.cells #[.slice a0 n0 c0, .slice a1 n1 c1] 36)) #[.slice a0' n0' c0', .slice a1' n1' c1'] 36
  have q0 := r0.k K
  have q0' := r0'.k K
  have q1 := r1.k K
  have q1' := r1'.k K
  clear r0 r0' r1 r1'
  simp only [World.size_alloc] at R1
  go_enter Try.func17, Try.ntmps17
  go_wp2_with fail
  refine (k0 _ _ _ _ _ _ _ _ _ q0 q0').mono ?_
  rintro e w1 ⟨rfl, p1⟩
  replace K := K.trans p1
  replace R0 := row_ext R0 p1 (fun h => h)
  replace R1 := row_ext R1 p1 (fun h => h)
  replace q0 := q0.k p1
  replace q0' := q0'.k p1
  replace q1 := q1.k p1
  replace q1' := q1'.k p1
  have x0 := R0.cell (i := 0) (by simp)
  have y0 := R1.cell (i := 0) (by simp)
  have x1 := R0.cell (i := 1) (by simp)
  have y1 := R1.cell (i := 1) (by simp)
  simp at x0 y0 x1 y1
  go_wp2_with fail
  clear x0 y0 x1 y1
  refine (k1 _ _ _ _ _ _ _ _ _ q1 q1').mono ?_
  rintro e w2 ⟨rfl, p2⟩
  replace K := K.trans p2
  replace R0 := row_ext R0 p2 (fun h => h)
  replace R1 := row_ext R1 p2 (fun h => h)
  replace q0 := q0.k p2
  replace q0' := q0'.k p2
  replace q1 := q1.k p2
  replace q1' := q1'.k p2
  have x0 := R0.cell (i := 0) (by simp)
  have y0 := R1.cell (i := 0) (by simp)
  have x1 := R0.cell (i := 1) (by simp)
  have y1 := R1.cell (i := 1) (by simp)
  simp at x0 y0 x1 y1
  go_wp2_with fail
  exact fin_ hQ ⟨rfl, K⟩

set_option maxHeartbeats 1000000 in
theorem eqStep (D D' : Nat → Prop) (w : World) (z0 : Int) (z1 : Int) (z2 : Int) (a3 : Option Addr) (n3 c3 : Nat) (a3' : Option Addr) (n3' c3' : Nat) (d3 : Dat) (a4 : Option Addr) (n4 c4 : Nat) (a4' : Option Addr) (n4' c4' : Nat) (d4 : Dat) (r3 : Rd w D d3 (.slice a3 n3 c3)) (r3' : Rd w D' d3 (.slice a3' n3' c3')) (r4 : Rd w D d4 (.slice a4 n4 c4)) (r4' : Rd w D' d4 (.slice a4' n4' c4')) (k3 : EqC 18 d3) (k4 : EqC 153 d4) :
    Calls Try.prog 126 #[.agg #[.int .i64 z0, .int .i64 z1, .int .i64 z2, .slice a3 n3 c3, .slice a4 n4 c4], .agg #[.int .i64 z0, .int .i64 z1, .int .i64 z2, .slice a3' n3' c3', .slice a4' n4' c4']] w fun e w' => e = .returned (.bool true) ∧ Keep w w' := by
  refine calls_k fun Q hQ => ?_
  have K : Keep w ((w.alloc (.cells #[.int .i64 z0, .int .i64 z1, .int .i64 z2, .slice a3 n3 c3, .slice a4 n4 c4] 159)).alloc (.cells #[.int .i64 z0, .int .i64 z1, .int .i64 z2, .slice a3' n3' c3', .slice a4' n4' c4'] 159)) := (Keep.al _ _).trans (Keep.al _ _)
  have R0 := (rowOf w #[.int .i64 z0, .int .i64 z1, .int .i64 z2, .slice a3 n3 c3, .slice a4 n4 c4] 159).alloc (.cells #[.int .i64 z0, .int .i64 z1, .int .i64 z2, .slice a3' n3' c3', .slice a4' n4' c4'] 159)
  have R1 := rowOf (w.alloc (.cells #[.int .i64 z0, .int .i64 z1, .int .i64 z2, .slice a3 n3 c3, .slice a4 n4 c4] 159)) #[.int .i64 z0, .int .i64 z1, .int .i64 z2, .slice a3' n3' c3', .slice a4' n4' c4'] 159
  have q3 := r3.k K
  have q3' := r3'.k K
  have q4 := r4.k K
  have q4' := r4'.k K
  clear r3 r3' r4 r4'
  simp only [World.size_alloc] at R1
  go_enter Try.func126, Try.ntmps126
  go_wp2_with fail
  refine (k3 _ _ _ _ _ _ _ _ _ q3 q3').mono ?_
  rintro e w1 ⟨rfl, p1⟩
  replace K := K.trans p1
  replace R0 := row_ext R0 p1 (fun h => h)
  replace R1 := row_ext R1 p1 (fun h => h)
  replace q3 := q3.k p1
  replace q3' := q3'.k p1
  replace q4 := q4.k p1
  replace q4' := q4'.k p1
  have x0 := R0.cell (i := 0) (by simp)
  have y0 := R1.cell (i := 0) (by simp)
  have x1 := R0.cell (i := 1) (by simp)
  have y1 := R1.cell (i := 1) (by simp)
  have x2 := R0.cell (i := 2) (by simp)
  have y2 := R1.cell (i := 2) (by simp)
  have x3 := R0.cell (i := 3) (by simp)
  have y3 := R1.cell (i := 3) (by simp)
  have x4 := R0.cell (i := 4) (by simp)
  have y4 := R1.cell (i := 4) (by simp)
  simp at x0 y0 x1 y1 x2 y2 x3 y3 x4 y4
  go_wp2_with fail
  clear x0 y0 x1 y1 x2 y2 x3 y3 x4 y4
  refine (k4 _ _ _ _ _ _ _ _ _ q4 q4').mono ?_
  rintro e w2 ⟨rfl, p2⟩
  replace K := K.trans p2
  replace R0 := row_ext R0 p2 (fun h => h)
  replace R1 := row_ext R1 p2 (fun h => h)
  replace q3 := q3.k p2
  replace q3' := q3'.k p2
  replace q4 := q4.k p2
  replace q4' := q4'.k p2
  have x0 := R0.cell (i := 0) (by simp)
  have y0 := R1.cell (i := 0) (by simp)
  have x1 := R0.cell (i := 1) (by simp)
  have y1 := R1.cell (i := 1) (by simp)
  have x2 := R0.cell (i := 2) (by simp)
  have y2 := R1.cell (i := 2) (by simp)
  have x3 := R0.cell (i := 3) (by simp)
  have y3 := R1.cell (i := 3) (by simp)
  have x4 := R0.cell (i := 4) (by simp)
  have y4 := R1.cell (i := 4) (by simp)
  simp at x0 y0 x1 y1 x2 y2 x3 y3 x4 y4
  go_wp2_with fail
  exact fin_ hQ ⟨rfl, K⟩

set_option maxHeartbeats 1000000 in
theorem eqBlock (D D' : Nat → Prop) (w : World) (a0 : Option Addr) (n0 c0 : Nat) (a0' : Option Addr) (n0' c0' : Nat) (d0 : Dat) (z1 : Int) (r0 : Rd w D d0 (.slice a0 n0 c0)) (r0' : Rd w D' d0 (.slice a0' n0' c0')) (k0 : EqC 80 d0) :
    Calls Try.prog 36 #[.agg #[.slice a0 n0 c0, .int .i64 z1], .agg #[.slice a0' n0' c0', .int .i64 z1]] w fun e w' => e = .returned (.bool true) ∧ Keep w w' := by
  refine calls_k fun Q hQ => ?_
  have K : Keep w ((w.alloc (.cells #[.slice a0 n0 c0, .int .i64 z1] 68)).alloc (.cells #[.slice a0' n0' c0', .int .i64 z1] 68)) := (Keep.al _ _).trans (Keep.al _ _)
  have R0 := (rowOf w #[.slice a0 n0 c0, .int .i64 z1] 68).alloc (.cells #[.slice a0' n0' c0', .int .i64 z1] 68)
  have R1 := rowOf (w.alloc (.cells #[.slice a0 n0 c0, .int .i64 z1] 68)) #[.slice a0' n0' c0', .int .i64 z1] 68
  have q0 := r0.k K
  have q0' := r0'.k K
  clear r0 r0'
  simp only [World.size_alloc] at R1
  go_enter Try.func36, Try.ntmps36
  go_wp2_with fail
  refine (k0 _ _ _ _ _ _ _ _ _ q0 q0').mono ?_
  rintro e w1 ⟨rfl, p1⟩
  replace K := K.trans p1
  replace R0 := row_ext R0 p1 (fun h => h)
  replace R1 := row_ext R1 p1 (fun h => h)
  replace q0 := q0.k p1
  replace q0' := q0'.k p1
  have x0 := R0.cell (i := 0) (by simp)
  have y0 := R1.cell (i := 0) (by simp)
  have x1 := R0.cell (i := 1) (by simp)
  have y1 := R1.cell (i := 1) (by simp)
  simp at x0 y0 x1 y1
  go_wp2_with fail
  exact fin_ hQ ⟨rfl, K⟩

set_option maxRecDepth 100000 in
set_option maxHeartbeats 4000000 in
theorem eqSB_n (N : Nat) : (∀ xs : List StepL, volD (encSteps xs) < N → EqC 80 (encSteps xs)) ∧ (∀ xs : List BlockL, volD (encBlocks xs) < N → EqC 153 (encBlocks xs)) := by
  induction N with
  | zero => exact ⟨fun xs h => by omega, fun xs h => by omega⟩
  | succ N ihN =>
  obtain ⟨ihS, ihB⟩ := ihN
  refine ⟨?_, ?_⟩
  · intro xs hvol a n c a' n' c' D D' w h h'
    have IHStep : ∀ ys : List StepL, volD (encSteps ys) < volD (encSteps xs) → EqC 80 (encSteps ys) := fun ys hy => ihS ys (by omega)
    have IHBlock : ∀ ys : List BlockL, volD (encBlocks ys) < volD (encSteps xs) → EqC 153 (encBlocks ys) := fun ys hy => ihB ys (by omega)
    clear ihS ihB hvol
    refine calls_k fun Q hQ => ?_
    obtain ⟨e1, hnc, hm, hat⟩ := steps_at h
    obtain ⟨e2, _, _, hat'⟩ := steps_at h'
    obtain rfl : n = n' := by omega
    have HL := Lib.hid e1
    have HA := Lib.hid hat
    have HA' := Lib.hid hat'
    clear e1 e2 hat hat' h h'
    go_enter Try.func80, Try.ntmps80
    go_wp2
    go_loopw [5] (fun i wr => ∃ k : Nat, k ≤ n ∧ i = .int .i64 k ∧ Keep w wr) (fun i _ => n - (intOf i).toNat)
    case atStart => exact ⟨0, Nat.zero_le _, rfl, Ext.refl _ _⟩
    case round =>
      obtain ⟨j, hj, rfl, hK⟩ := hrel
      by_cases hlt : j < n
      · obtain ⟨b, o, rfl, hd, a3, n3, c3, a4, n4, c4, d0, d1, d2, d3, d4, r3, r4⟩ := HA.out j hlt
        obtain ⟨b', o', rfl, hd', a3', n3', c3', a4', n4', c4', d0', d1', d2', d3', d4', r3', r4'⟩ := HA'.out j hlt
        have x0 := (hK.cell (World.block_lt_of_cell? w _ d0) (fun h => h)).trans d0
        have y0 := (hK.cell (World.block_lt_of_cell? w _ d0') (fun h => h)).trans d0'
        have x1 := (hK.cell (World.block_lt_of_cell? w _ d1) (fun h => h)).trans d1
        have y1 := (hK.cell (World.block_lt_of_cell? w _ d1') (fun h => h)).trans d1'
        have x2 := (hK.cell (World.block_lt_of_cell? w _ d2) (fun h => h)).trans d2
        have y2 := (hK.cell (World.block_lt_of_cell? w _ d2') (fun h => h)).trans d2'
        have x3 := (hK.cell (World.block_lt_of_cell? w _ d3) (fun h => h)).trans d3
        have y3 := (hK.cell (World.block_lt_of_cell? w _ d3') (fun h => h)).trans d3'
        have x4 := (hK.cell (World.block_lt_of_cell? w _ d4) (fun h => h)).trans d4
        have y4 := (hK.cell (World.block_lt_of_cell? w _ d4') (fun h => h)).trans d4'
        have q3 := (r3.k hK).ext (w' := wr.drew) (Ext.refl (fun _ => False) wr).drew (fun _ _ h => h)
        have q3' := (r3'.k hK).ext (w' := wr.drew) (Ext.refl (fun _ => False) wr).drew (fun _ _ h => h)
        have q4 := (r4.k hK).ext (w' := wr.drew) (Ext.refl (fun _ => False) wr).drew (fun _ _ h => h)
        have q4' := (r4'.k hK).ext (w' := wr.drew) (Ext.refl (fun _ => False) wr).drew (fun _ _ h => h)
        clear d0 d0' d1 d1' d2 d2' d3 d3' d4 d4' r3 r3' r4 r4'
        go_wp2
        go_still_tail 8, (by kernel_rfl)
        change wpList _ _ _ _ _ wr.drew
        go_wp2_with fail
        refine (eqStep _ _ _ _ _ _ _ _ _ _ _ _ _ _ _ _ _ _ _ _ q3 q3' q4 q4' (eqIntS _) (IHBlock _ (by have := vol_lt (s := 5) (rows := (rowsS xs)) (i := j) (j := 4) (by rw [steps_len]; have := HL.out; omega) (by rw [steps_row xs j (by have := HL.out; omega)]; simp); rw [rAt, steps_row xs j (by have := HL.out; omega)] at this; simp only [dGet, List.getD, List.getElem?_cons_succ, List.getElem?_cons_zero, Option.getD_some] at this; exact this))).mono ?_
        rintro e w1 ⟨rfl, p1⟩
        go_wp2_with fail
        go_roundw
        case rel => exact ⟨j + 1, by omega, by go_num, hK.drew.trans p1⟩
        case measure => simp [intOf]; omega
      · go_wp2
        exact fin_ hQ ⟨rfl, hK⟩
  · intro xs hvol a n c a' n' c' D D' w h h'
    have IHStep : ∀ ys : List StepL, volD (encSteps ys) < volD (encBlocks xs) → EqC 80 (encSteps ys) := fun ys hy => ihS ys (by omega)
    have IHBlock : ∀ ys : List BlockL, volD (encBlocks ys) < volD (encBlocks xs) → EqC 153 (encBlocks ys) := fun ys hy => ihB ys (by omega)
    clear ihS ihB hvol
    refine calls_k fun Q hQ => ?_
    obtain ⟨e1, hnc, hm, hat⟩ := blocks_at h
    obtain ⟨e2, _, _, hat'⟩ := blocks_at h'
    obtain rfl : n = n' := by omega
    have HL := Lib.hid e1
    have HA := Lib.hid hat
    have HA' := Lib.hid hat'
    clear e1 e2 hat hat' h h'
    go_enter Try.func153, Try.ntmps153
    go_wp2
    go_loopw [5] (fun i wr => ∃ k : Nat, k ≤ n ∧ i = .int .i64 k ∧ Keep w wr) (fun i _ => n - (intOf i).toNat)
    case atStart => exact ⟨0, Nat.zero_le _, rfl, Ext.refl _ _⟩
    case round =>
      obtain ⟨j, hj, rfl, hK⟩ := hrel
      by_cases hlt : j < n
      · obtain ⟨b, o, rfl, hd, a0, n0, c0, d0, d1, r0⟩ := HA.out j hlt
        obtain ⟨b', o', rfl, hd', a0', n0', c0', d0', d1', r0'⟩ := HA'.out j hlt
        have x0 := (hK.cell (World.block_lt_of_cell? w _ d0) (fun h => h)).trans d0
        have y0 := (hK.cell (World.block_lt_of_cell? w _ d0') (fun h => h)).trans d0'
        have x1 := (hK.cell (World.block_lt_of_cell? w _ d1) (fun h => h)).trans d1
        have y1 := (hK.cell (World.block_lt_of_cell? w _ d1') (fun h => h)).trans d1'
        have q0 := (r0.k hK).ext (w' := wr.drew) (Ext.refl (fun _ => False) wr).drew (fun _ _ h => h)
        have q0' := (r0'.k hK).ext (w' := wr.drew) (Ext.refl (fun _ => False) wr).drew (fun _ _ h => h)
        clear d0 d0' d1 d1' r0 r0'
        go_wp2
        go_still_tail 8, (by kernel_rfl)
        change wpList _ _ _ _ _ wr.drew
        go_wp2_with fail
        refine (eqBlock _ _ _ _ _ _ _ _ _ _ _ q0 q0' (IHStep _ (by have := vol_lt (s := 2) (rows := (rowsB xs)) (i := j) (j := 0) (by rw [blocks_len]; have := HL.out; omega) (by rw [blocks_row xs j (by have := HL.out; omega)]; simp); rw [rAt, blocks_row xs j (by have := HL.out; omega)] at this; simp only [dGet, List.getD, List.getElem?_cons_zero, Option.getD_some] at this; exact this))).mono ?_
        rintro e w1 ⟨rfl, p1⟩
        go_wp2_with fail
        go_roundw
        case rel => exact ⟨j + 1, by omega, by go_num, hK.drew.trans p1⟩
        case measure => simp [intOf]; omega
      · go_wp2
        exact fin_ hQ ⟨rfl, hK⟩
theorem eqStepS (xs : List StepL) : EqC 80 (encSteps xs) := (eqSB_n _).1 xs (Nat.lt_succ_self _)
theorem eqBlockS (xs : List BlockL) : EqC 153 (encBlocks xs) := (eqSB_n _).2 xs (Nat.lt_succ_self _)

set_option maxHeartbeats 1000000 in
theorem eqRoutine (D D' : Nat → Prop) (w : World) (a0 : Option Addr) (n0 c0 : Nat) (a0' : Option Addr) (n0' c0' : Nat) (d0 : Dat) (a1 : Option Addr) (n1 c1 : Nat) (a1' : Option Addr) (n1' c1' : Nat) (d1 : Dat) (z2 : Int) (a3 : Option Addr) (n3 c3 : Nat) (a3' : Option Addr) (n3' c3' : Nat) (d3 : Dat) (z4 : Int) (r0 : Rd w D d0 (.slice a0 n0 c0)) (r0' : Rd w D' d0 (.slice a0' n0' c0')) (r1 : Rd w D d1 (.slice a1 n1 c1)) (r1' : Rd w D' d1 (.slice a1' n1' c1')) (r3 : Rd w D d3 (.slice a3 n3 c3)) (r3' : Rd w D' d3 (.slice a3' n3' c3')) (k0 : EqC 18 d0) (k1 : EqC 18 d1) (k3 : EqC 80 d3) :
    Calls Try.prog 125 #[.agg #[.slice a0 n0 c0, .slice a1 n1 c1, .int .i64 z2, .slice a3 n3 c3, .int .i64 z4], .agg #[.slice a0' n0' c0', .slice a1' n1' c1', .int .i64 z2, .slice a3' n3' c3', .int .i64 z4]] w fun e w' => e = .returned (.bool true) ∧ Keep w w' := by
  refine calls_k fun Q hQ => ?_
  have K : Keep w ((w.alloc (.cells #[.slice a0 n0 c0, .slice a1 n1 c1, .int .i64 z2, .slice a3 n3 c3, .int .i64 z4] 112)).alloc (.cells #[.slice a0' n0' c0', .slice a1' n1' c1', .int .i64 z2, .slice a3' n3' c3', .int .i64 z4] 112)) := (Keep.al _ _).trans (Keep.al _ _)
  have R0 := (rowOf w #[.slice a0 n0 c0, .slice a1 n1 c1, .int .i64 z2, .slice a3 n3 c3, .int .i64 z4] 112).alloc (.cells #[.slice a0' n0' c0', .slice a1' n1' c1', .int .i64 z2, .slice a3' n3' c3', .int .i64 z4] 112)
  have R1 := rowOf (w.alloc (.cells #[.slice a0 n0 c0, .slice a1 n1 c1, .int .i64 z2, .slice a3 n3 c3, .int .i64 z4] 112)) #[.slice a0' n0' c0', .slice a1' n1' c1', .int .i64 z2, .slice a3' n3' c3', .int .i64 z4] 112
  have q0 := r0.k K
  have q0' := r0'.k K
  have q1 := r1.k K
  have q1' := r1'.k K
  have q3 := r3.k K
  have q3' := r3'.k K
  clear r0 r0' r1 r1' r3 r3'
  simp only [World.size_alloc] at R1
  go_enter Try.func125, Try.ntmps125
  go_wp2_with fail
  refine (k0 _ _ _ _ _ _ _ _ _ q0 q0').mono ?_
  rintro e w1 ⟨rfl, p1⟩
  replace K := K.trans p1
  replace R0 := row_ext R0 p1 (fun h => h)
  replace R1 := row_ext R1 p1 (fun h => h)
  replace q0 := q0.k p1
  replace q0' := q0'.k p1
  replace q1 := q1.k p1
  replace q1' := q1'.k p1
  replace q3 := q3.k p1
  replace q3' := q3'.k p1
  have x0 := R0.cell (i := 0) (by simp)
  have y0 := R1.cell (i := 0) (by simp)
  have x1 := R0.cell (i := 1) (by simp)
  have y1 := R1.cell (i := 1) (by simp)
  have x2 := R0.cell (i := 2) (by simp)
  have y2 := R1.cell (i := 2) (by simp)
  have x3 := R0.cell (i := 3) (by simp)
  have y3 := R1.cell (i := 3) (by simp)
  have x4 := R0.cell (i := 4) (by simp)
  have y4 := R1.cell (i := 4) (by simp)
  simp at x0 y0 x1 y1 x2 y2 x3 y3 x4 y4
  go_wp2_with fail
  clear x0 y0 x1 y1 x2 y2 x3 y3 x4 y4
  refine (k1 _ _ _ _ _ _ _ _ _ q1 q1').mono ?_
  rintro e w2 ⟨rfl, p2⟩
  replace K := K.trans p2
  replace R0 := row_ext R0 p2 (fun h => h)
  replace R1 := row_ext R1 p2 (fun h => h)
  replace q0 := q0.k p2
  replace q0' := q0'.k p2
  replace q1 := q1.k p2
  replace q1' := q1'.k p2
  replace q3 := q3.k p2
  replace q3' := q3'.k p2
  have x0 := R0.cell (i := 0) (by simp)
  have y0 := R1.cell (i := 0) (by simp)
  have x1 := R0.cell (i := 1) (by simp)
  have y1 := R1.cell (i := 1) (by simp)
  have x2 := R0.cell (i := 2) (by simp)
  have y2 := R1.cell (i := 2) (by simp)
  have x3 := R0.cell (i := 3) (by simp)
  have y3 := R1.cell (i := 3) (by simp)
  have x4 := R0.cell (i := 4) (by simp)
  have y4 := R1.cell (i := 4) (by simp)
  simp at x0 y0 x1 y1 x2 y2 x3 y3 x4 y4
  go_wp2_with fail
  clear x0 y0 x1 y1 x2 y2 x3 y3 x4 y4
  refine (eqBlock _ _ _ _ _ _ _ _ _ _ _ q3 q3' k3).mono ?_
  rintro e w3 ⟨rfl, p3⟩
  replace K := K.trans p3
  replace R0 := row_ext R0 p3 (fun h => h)
  replace R1 := row_ext R1 p3 (fun h => h)
  replace q0 := q0.k p3
  replace q0' := q0'.k p3
  replace q1 := q1.k p3
  replace q1' := q1'.k p3
  replace q3 := q3.k p3
  replace q3' := q3'.k p3
  have x0 := R0.cell (i := 0) (by simp)
  have y0 := R1.cell (i := 0) (by simp)
  have x1 := R0.cell (i := 1) (by simp)
  have y1 := R1.cell (i := 1) (by simp)
  have x2 := R0.cell (i := 2) (by simp)
  have y2 := R1.cell (i := 2) (by simp)
  have x3 := R0.cell (i := 3) (by simp)
  have y3 := R1.cell (i := 3) (by simp)
  have x4 := R0.cell (i := 4) (by simp)
  have y4 := R1.cell (i := 4) (by simp)
  simp at x0 y0 x1 y1 x2 y2 x3 y3 x4 y4
  go_wp2_with fail
  exact fin_ hQ ⟨rfl, K⟩

set_option maxRecDepth 100000 in
set_option maxHeartbeats 2000000 in
theorem eqRoutineS (xs : List RoutL) : EqC 79 (encRouts xs) := by
  intro a n c a' n' c' D D' w h h'
  refine calls_k fun Q hQ => ?_
  obtain ⟨e1, hnc, hm, hat⟩ := routs_at h
  obtain ⟨e2, _, _, hat'⟩ := routs_at h'
  obtain rfl : n = n' := by omega
  have HL := Lib.hid e1
  have HA := Lib.hid hat
  have HA' := Lib.hid hat'
  clear e1 e2 hat hat' h h'
  go_enter Try.func79, Try.ntmps79
  go_wp2
  go_loopw [5] (fun i wr => ∃ k : Nat, k ≤ n ∧ i = .int .i64 k ∧ Keep w wr) (fun i _ => n - (intOf i).toNat)
  case atStart => exact ⟨0, Nat.zero_le _, rfl, Ext.refl _ _⟩
  case round =>
    obtain ⟨j, hj, rfl, hK⟩ := hrel
    by_cases hlt : j < n
    · obtain ⟨b, o, rfl, hd, a0, n0, c0, a1, n1, c1, a3, n3, c3, d0, d1, d2, d3, d4, r0, r1, r3⟩ := HA.out j hlt
      obtain ⟨b', o', rfl, hd', a0', n0', c0', a1', n1', c1', a3', n3', c3', d0', d1', d2', d3', d4', r0', r1', r3'⟩ := HA'.out j hlt
      have x0 := (hK.cell (World.block_lt_of_cell? w _ d0) (fun h => h)).trans d0
      have y0 := (hK.cell (World.block_lt_of_cell? w _ d0') (fun h => h)).trans d0'
      have x1 := (hK.cell (World.block_lt_of_cell? w _ d1) (fun h => h)).trans d1
      have y1 := (hK.cell (World.block_lt_of_cell? w _ d1') (fun h => h)).trans d1'
      have x2 := (hK.cell (World.block_lt_of_cell? w _ d2) (fun h => h)).trans d2
      have y2 := (hK.cell (World.block_lt_of_cell? w _ d2') (fun h => h)).trans d2'
      have x3 := (hK.cell (World.block_lt_of_cell? w _ d3) (fun h => h)).trans d3
      have y3 := (hK.cell (World.block_lt_of_cell? w _ d3') (fun h => h)).trans d3'
      have x4 := (hK.cell (World.block_lt_of_cell? w _ d4) (fun h => h)).trans d4
      have y4 := (hK.cell (World.block_lt_of_cell? w _ d4') (fun h => h)).trans d4'
      have q0 := (r0.k hK).ext (w' := wr.drew) (Ext.refl (fun _ => False) wr).drew (fun _ _ h => h)
      have q0' := (r0'.k hK).ext (w' := wr.drew) (Ext.refl (fun _ => False) wr).drew (fun _ _ h => h)
      have q1 := (r1.k hK).ext (w' := wr.drew) (Ext.refl (fun _ => False) wr).drew (fun _ _ h => h)
      have q1' := (r1'.k hK).ext (w' := wr.drew) (Ext.refl (fun _ => False) wr).drew (fun _ _ h => h)
      have q3 := (r3.k hK).ext (w' := wr.drew) (Ext.refl (fun _ => False) wr).drew (fun _ _ h => h)
      have q3' := (r3'.k hK).ext (w' := wr.drew) (Ext.refl (fun _ => False) wr).drew (fun _ _ h => h)
      clear d0 d0' d1 d1' d2 d2' d3 d3' d4 d4' r0 r0' r1 r1' r3 r3'
      go_wp2
      go_still_tail 8, (by kernel_rfl)
      change wpList _ _ _ _ _ wr.drew
      go_wp2_with fail
      refine (eqRoutine _ _ _ _ _ _ _ _ _ _ _ _ _ _ _ _ _ _ _ _ _ _ _ _ _ _ q0 q0' q1 q1' q3 q3' (eqIntS _) (eqIntS _) (eqStepS _)).mono ?_
      rintro e w1 ⟨rfl, p1⟩
      go_wp2_with fail
      go_roundw
      case rel => exact ⟨j + 1, by omega, by go_num, hK.drew.trans p1⟩
      case measure => simp [intOf]; omega
    · go_wp2
      exact fin_ hQ ⟨rfl, hK⟩

set_option maxHeartbeats 1000000 in
theorem eqNormal (D D' : Nat → Prop) (w : World) (a0 : Option Addr) (n0 c0 : Nat) (a0' : Option Addr) (n0' c0' : Nat) (d0 : Dat) (a1 : Option Addr) (n1 c1 : Nat) (a1' : Option Addr) (n1' c1' : Nat) (d1 : Dat) (r0 : Rd w D d0 (.slice a0 n0 c0)) (r0' : Rd w D' d0 (.slice a0' n0' c0')) (r1 : Rd w D d1 (.slice a1 n1 c1)) (r1' : Rd w D' d1 (.slice a1' n1' c1')) (k0 : EqC 57 d0) (k1 : EqC 79 d1) :
    Calls Try.prog 35 #[.agg #[.slice a0 n0 c0, .slice a1 n1 c1], .agg #[.slice a0' n0' c0', .slice a1' n1' c1']] w fun e w' => e = .returned (.bool true) ∧ Keep w w' := by
  refine calls_k fun Q hQ => ?_
  have K : Keep w ((w.alloc (.cells #[.slice a0 n0 c0, .slice a1 n1 c1] 64)).alloc (.cells #[.slice a0' n0' c0', .slice a1' n1' c1'] 64)) := (Keep.al _ _).trans (Keep.al _ _)
  have R0 := (rowOf w #[.slice a0 n0 c0, .slice a1 n1 c1] 64).alloc (.cells #[.slice a0' n0' c0', .slice a1' n1' c1'] 64)
  have R1 := rowOf (w.alloc (.cells #[.slice a0 n0 c0, .slice a1 n1 c1] 64)) #[.slice a0' n0' c0', .slice a1' n1' c1'] 64
  have q0 := r0.k K
  have q0' := r0'.k K
  have q1 := r1.k K
  have q1' := r1'.k K
  clear r0 r0' r1 r1'
  simp only [World.size_alloc] at R1
  go_enter Try.func35, Try.ntmps35
  go_wp2_with fail
  refine (k0 _ _ _ _ _ _ _ _ _ q0 q0').mono ?_
  rintro e w1 ⟨rfl, p1⟩
  replace K := K.trans p1
  replace R0 := row_ext R0 p1 (fun h => h)
  replace R1 := row_ext R1 p1 (fun h => h)
  replace q0 := q0.k p1
  replace q0' := q0'.k p1
  replace q1 := q1.k p1
  replace q1' := q1'.k p1
  have x0 := R0.cell (i := 0) (by simp)
  have y0 := R1.cell (i := 0) (by simp)
  have x1 := R0.cell (i := 1) (by simp)
  have y1 := R1.cell (i := 1) (by simp)
  simp at x0 y0 x1 y1
  go_wp2_with fail
  clear x0 y0 x1 y1
  refine (k1 _ _ _ _ _ _ _ _ _ q1 q1').mono ?_
  rintro e w2 ⟨rfl, p2⟩
  replace K := K.trans p2
  replace R0 := row_ext R0 p2 (fun h => h)
  replace R1 := row_ext R1 p2 (fun h => h)
  replace q0 := q0.k p2
  replace q0' := q0'.k p2
  replace q1 := q1.k p2
  replace q1' := q1'.k p2
  have x0 := R0.cell (i := 0) (by simp)
  have y0 := R1.cell (i := 0) (by simp)
  have x1 := R0.cell (i := 1) (by simp)
  have y1 := R1.cell (i := 1) (by simp)
  simp at x0 y0 x1 y1
  go_wp2_with fail
  exact fin_ hQ ⟨rfl, K⟩

end Go.Proofs.Ytbknmljfnjlieaa
