/- The laws' own helpers: comparisons of equal data. -/
import Derived.Test.YtkapldpmjkdmcaaGreatTAC
import Derived.StillTailTactics
import Derived.IntWalk
import Derived.Test.YtkapldpmjkdmcaaGreatTAX
import Derived.Test.YtkapldpmjkdmcaaGreatTAY
import Derived.Test.YtkapldpmjkdmcaaGreatTAV
import Derived.Deep.RegionHeld3
namespace Go.Proofs.YtkapldpmjkdmcaaGreat
open Go.RowKit


def EqC (f : FuncId) (d : Dat) : Prop := ∀ (a : Option Addr) (n c : Nat) (a' : Option Addr) (n' c' : Nat) (D D' : Nat → Prop) (w : World), Rd w D d (.slice a n c) → Rd w D' d (.slice a' n' c') →
  Calls Tryz.prog f #[.slice a n c, .slice a' n' c'] w fun e w' => e = .returned (.bool true) ∧ Keep w w'


set_option maxHeartbeats 400000 in
theorem eqIntS (xs : List Int) : EqC 137 (encInts xs) := by
  intro a n c a' n' c' D D' w h h'
  refine calls_k fun Q hQ => ?_
  obtain ⟨e1, hnc, hm, hat⟩ := ints_at h
  obtain ⟨e2, _, _, hat'⟩ := ints_at h'
  obtain rfl : n = n' := by omega
  have HA := Lib.hid hat
  have HA' := Lib.hid hat'
  clear e1 e2 hat hat'
  go_enter Tryz.func137, Tryz.ntmps137
  go_wp2
  go_loopw [5] (fun i wr => ∃ k : Nat, k ≤ n ∧ i = .int .i64 k ∧ Keep w wr) (fun i _ => n - (intOf i).toNat)
  case atStart => exact ⟨0, Nat.zero_le _, rfl, Ext.refl _ _⟩
  case round =>
    obtain ⟨k, hk, rfl, hK⟩ := hrel
    by_cases hlt : k < n
    · obtain ⟨b, o, rfl, hd, c0⟩ := HA.out k hlt
      obtain ⟨b', o', rfl, hd', c1⟩ := HA'.out k hlt
      have g0 := (hK.cell (World.block_lt_of_cell? w _ c0) (fun h => h)).trans c0
      have g1 := (hK.cell (World.block_lt_of_cell? w _ c1) (fun h => h)).trans c1
      clear c0 c1
      go_wp2
      go_quiet (fail)
      go_wp2
      go_roundw
      case rel => exact ⟨k + 1, by omega, by go_num, hK.drewN nq⟩
      case measure => simp [intOf]; omega
    · go_wp2
      exact fin_ hQ ⟨rfl, hK⟩

set_option maxHeartbeats 1000000 in
theorem eqCon (D D' : Nat → Prop) (w : World) (a0 : Option Addr) (n0 c0 : Nat) (a0' : Option Addr) (n0' c0' : Nat) (d0 : Dat) (r0 : Rd w D d0 (.slice a0 n0 c0)) (r0' : Rd w D' d0 (.slice a0' n0' c0')) (k0 : EqC 137 d0) :
    Calls Tryz.prog 192 #[.agg #[.slice a0 n0 c0], .agg #[.slice a0' n0' c0']] w fun e w' => e = .returned (.bool true) ∧ Keep w w' := by
  refine calls_k fun Q hQ => ?_
  have K : Keep w ((w.alloc (.cells #[.slice a0 n0 c0] 155)).alloc (.cells #[.slice a0' n0' c0'] 155)) := (Keep.al _ _).trans (Keep.al _ _)
  have R0 := (rowOf w #[.slice a0 n0 c0] 155).alloc (.cells #[.slice a0' n0' c0'] 155)
  have R1 := rowOf (w.alloc (.cells #[.slice a0 n0 c0] 155)) #[.slice a0' n0' c0'] 155
  have q0 := r0.k K
  have q0' := r0'.k K
  clear r0 r0'
  simp only [World.size_alloc] at R1
  go_enter Tryz.func192, Tryz.ntmps192
  go_wp2_with fail
  refine (k0 _ _ _ _ _ _ _ _ _ q0 q0').mono ?_
  rintro e w1 ⟨rfl, p1⟩
  replace K := K.trans p1
  replace R0 := row_ext R0 p1 (fun h => h)
  replace R1 := row_ext R1 p1 (fun h => h)
  replace q0 := q0.k p1
  replace q0' := q0'.k p1
  have x0 := R0.cell (i := 0) (by simp)
  have y0 := R1.cell (i := 0) (by simp)
  simp at x0 y0
  go_wp2_with fail
  exact fin_ hQ ⟨rfl, K⟩

set_option maxRecDepth 100000 in
set_option maxHeartbeats 2000000 in
theorem eqConS (xs : List (List Int)) : EqC 136 (encCons xs) := by
  intro a n c a' n' c' D D' w h h'
  refine calls_k fun Q hQ => ?_
  obtain ⟨e1, hnc, hm, hat⟩ := cons_at h
  obtain ⟨e2, _, _, hat'⟩ := cons_at h'
  obtain rfl : n = n' := by omega
  have HL := Lib.hid e1
  have HA := Lib.hid hat
  have HA' := Lib.hid hat'
  clear e1 e2 hat hat' h h'
  go_enter Tryz.func136, Tryz.ntmps136
  go_wp2
  go_loopw [5] (fun i wr => ∃ k : Nat, k ≤ n ∧ i = .int .i64 k ∧ Keep w wr) (fun i _ => n - (intOf i).toNat)
  case atStart => exact ⟨0, Nat.zero_le _, rfl, Ext.refl _ _⟩
  case round =>
    obtain ⟨j, hj, rfl, hK⟩ := hrel
    by_cases hlt : j < n
    · obtain ⟨b, o, rfl, hd, a0, n0, c0, d0, r0⟩ := HA.out j hlt
      obtain ⟨b', o', rfl, hd', a0', n0', c0', d0', r0'⟩ := HA'.out j hlt
      have x0 := (hK.cell (World.block_lt_of_cell? w _ d0) (fun h => h)).trans d0
      have y0 := (hK.cell (World.block_lt_of_cell? w _ d0') (fun h => h)).trans d0'
      have q0 := (r0.k hK).ext (w' := wr.drew) (Ext.refl (fun _ => False) wr).drew (fun _ _ h => h)
      have q0' := (r0'.k hK).ext (w' := wr.drew) (Ext.refl (fun _ => False) wr).drew (fun _ _ h => h)
      clear d0 d0' r0 r0'
      go_wp2
      go_still_tail 8, (by kernel_rfl)
      change wpList _ _ _ _ _ wr.drew
      go_wp2_with fail
      refine (eqCon _ _ _ _ _ _ _ _ _ _ q0 q0' (eqIntS _)).mono ?_
      rintro e w1 ⟨rfl, p1⟩
      go_wp2_with fail
      go_roundw
      case rel => exact ⟨j + 1, by omega, by go_num, hK.drew.trans p1⟩
      case measure => simp [intOf]; omega
    · go_wp2
      exact fin_ hQ ⟨rfl, hK⟩

set_option maxHeartbeats 1000000 in
theorem eqDecl (D D' : Nat → Prop) (w : World) (z0 : Int) (z1 : Int) (a2 : Option Addr) (n2 c2 : Nat) (a2' : Option Addr) (n2' c2' : Nat) (d2 : Dat) (r2 : Rd w D d2 (.slice a2 n2 c2)) (r2' : Rd w D' d2 (.slice a2' n2' c2')) (k2 : EqC 136 d2) :
    Calls Tryz.prog 88 #[.agg #[.int .i64 z0, .int .i64 z1, .slice a2 n2 c2], .agg #[.int .i64 z0, .int .i64 z1, .slice a2' n2' c2']] w fun e w' => e = .returned (.bool true) ∧ Keep w w' := by
  refine calls_k fun Q hQ => ?_
  have K : Keep w ((w.alloc (.cells #[.int .i64 z0, .int .i64 z1, .slice a2 n2 c2] 125)).alloc (.cells #[.int .i64 z0, .int .i64 z1, .slice a2' n2' c2'] 125)) := (Keep.al _ _).trans (Keep.al _ _)
  have R0 := (rowOf w #[.int .i64 z0, .int .i64 z1, .slice a2 n2 c2] 125).alloc (.cells #[.int .i64 z0, .int .i64 z1, .slice a2' n2' c2'] 125)
  have R1 := rowOf (w.alloc (.cells #[.int .i64 z0, .int .i64 z1, .slice a2 n2 c2] 125)) #[.int .i64 z0, .int .i64 z1, .slice a2' n2' c2'] 125
  have q2 := r2.k K
  have q2' := r2'.k K
  clear r2 r2'
  simp only [World.size_alloc] at R1
  go_enter Tryz.func88, Tryz.ntmps88
  go_wp2_with fail
  refine (k2 _ _ _ _ _ _ _ _ _ q2 q2').mono ?_
  rintro e w1 ⟨rfl, p1⟩
  replace K := K.trans p1
  replace R0 := row_ext R0 p1 (fun h => h)
  replace R1 := row_ext R1 p1 (fun h => h)
  replace q2 := q2.k p1
  replace q2' := q2'.k p1
  have x0 := R0.cell (i := 0) (by simp)
  have y0 := R1.cell (i := 0) (by simp)
  have x1 := R0.cell (i := 1) (by simp)
  have y1 := R1.cell (i := 1) (by simp)
  have x2 := R0.cell (i := 2) (by simp)
  have y2 := R1.cell (i := 2) (by simp)
  simp at x0 y0 x1 y1 x2 y2
  go_wp2_with fail
  exact fin_ hQ ⟨rfl, K⟩

set_option maxRecDepth 100000 in
set_option maxHeartbeats 2000000 in
theorem eqDeclS (xs : List DeclL) : EqC 42 (encDecls xs) := by
  intro a n c a' n' c' D D' w h h'
  refine calls_k fun Q hQ => ?_
  obtain ⟨e1, hnc, hm, hat⟩ := decls_at h
  obtain ⟨e2, _, _, hat'⟩ := decls_at h'
  obtain rfl : n = n' := by omega
  have HL := Lib.hid e1
  have HA := Lib.hid hat
  have HA' := Lib.hid hat'
  clear e1 e2 hat hat' h h'
  go_enter Tryz.func42, Tryz.ntmps42
  go_wp2
  go_loopw [5] (fun i wr => ∃ k : Nat, k ≤ n ∧ i = .int .i64 k ∧ Keep w wr) (fun i _ => n - (intOf i).toNat)
  case atStart => exact ⟨0, Nat.zero_le _, rfl, Ext.refl _ _⟩
  case round =>
    obtain ⟨j, hj, rfl, hK⟩ := hrel
    by_cases hlt : j < n
    · obtain ⟨b, o, rfl, hd, a2, n2, c2, d0, d1, d2, r2⟩ := HA.out j hlt
      obtain ⟨b', o', rfl, hd', a2', n2', c2', d0', d1', d2', r2'⟩ := HA'.out j hlt
      have x0 := (hK.cell (World.block_lt_of_cell? w _ d0) (fun h => h)).trans d0
      have y0 := (hK.cell (World.block_lt_of_cell? w _ d0') (fun h => h)).trans d0'
      have x1 := (hK.cell (World.block_lt_of_cell? w _ d1) (fun h => h)).trans d1
      have y1 := (hK.cell (World.block_lt_of_cell? w _ d1') (fun h => h)).trans d1'
      have x2 := (hK.cell (World.block_lt_of_cell? w _ d2) (fun h => h)).trans d2
      have y2 := (hK.cell (World.block_lt_of_cell? w _ d2') (fun h => h)).trans d2'
      have q2 := (r2.k hK).ext (w' := wr.drew) (Ext.refl (fun _ => False) wr).drew (fun _ _ h => h)
      have q2' := (r2'.k hK).ext (w' := wr.drew) (Ext.refl (fun _ => False) wr).drew (fun _ _ h => h)
      clear d0 d0' d1 d1' d2 d2' r2 r2'
      go_wp2
      go_still_tail 8, (by kernel_rfl)
      change wpList _ _ _ _ _ wr.drew
      go_wp2_with fail
      refine (eqDecl _ _ _ _ _ _ _ _ _ _ _ _ q2 q2' (eqConS _)).mono ?_
      rintro e w1 ⟨rfl, p1⟩
      go_wp2_with fail
      go_roundw
      case rel => exact ⟨j + 1, by omega, by go_num, hK.drew.trans p1⟩
      case measure => simp [intOf]; omega
    · go_wp2
      exact fin_ hQ ⟨rfl, hK⟩

set_option maxHeartbeats 1000000 in
theorem eqStep (D D' : Nat → Prop) (w : World) (z0 : Int) (z1 : Int) (z2 : Int) (a3 : Option Addr) (n3 c3 : Nat) (a3' : Option Addr) (n3' c3' : Nat) (d3 : Dat) (a4 : Option Addr) (n4 c4 : Nat) (a4' : Option Addr) (n4' c4' : Nat) (d4 : Dat) (r3 : Rd w D d3 (.slice a3 n3 c3)) (r3' : Rd w D' d3 (.slice a3' n3' c3')) (r4 : Rd w D d4 (.slice a4 n4 c4)) (r4' : Rd w D' d4 (.slice a4' n4' c4')) (k3 : EqC 137 d3) (k4 : EqC 233 d4) :
    Calls Tryz.prog 224 #[.agg #[.int .i64 z0, .int .i64 z1, .int .i64 z2, .slice a3 n3 c3, .slice a4 n4 c4], .agg #[.int .i64 z0, .int .i64 z1, .int .i64 z2, .slice a3' n3' c3', .slice a4' n4' c4']] w fun e w' => e = .returned (.bool true) ∧ Keep w w' := by
  refine calls_k fun Q hQ => ?_
  have K : Keep w ((w.alloc (.cells #[.int .i64 z0, .int .i64 z1, .int .i64 z2, .slice a3 n3 c3, .slice a4 n4 c4] 136)).alloc (.cells #[.int .i64 z0, .int .i64 z1, .int .i64 z2, .slice a3' n3' c3', .slice a4' n4' c4'] 136)) := (Keep.al _ _).trans (Keep.al _ _)
  have R0 := (rowOf w #[.int .i64 z0, .int .i64 z1, .int .i64 z2, .slice a3 n3 c3, .slice a4 n4 c4] 136).alloc (.cells #[.int .i64 z0, .int .i64 z1, .int .i64 z2, .slice a3' n3' c3', .slice a4' n4' c4'] 136)
  have R1 := rowOf (w.alloc (.cells #[.int .i64 z0, .int .i64 z1, .int .i64 z2, .slice a3 n3 c3, .slice a4 n4 c4] 136)) #[.int .i64 z0, .int .i64 z1, .int .i64 z2, .slice a3' n3' c3', .slice a4' n4' c4'] 136
  have q3 := r3.k K
  have q3' := r3'.k K
  have q4 := r4.k K
  have q4' := r4'.k K
  clear r3 r3' r4 r4'
  simp only [World.size_alloc] at R1
  go_enter Tryz.func224, Tryz.ntmps224
  go_wp2_with fail
  refine (k3 _ _ _ _ _ _ _ _ _ q3 q3').mono ?_
  rintro e w1 ⟨rfl, p1⟩
  replace K := K.trans p1
  replace R0 := row_ext R0 p1 (fun h => h)
  replace R1 := row_ext R1 p1 (fun h => h)
  replace q3 := q3.k p1
  replace q3' := q3'.k p1
  replace q4 := q4.k p1
  replace q4' := q4'.k p1
  have x0 := R0.cell (i := 0) (by simp)
  have y0 := R1.cell (i := 0) (by simp)
  have x1 := R0.cell (i := 1) (by simp)
  have y1 := R1.cell (i := 1) (by simp)
  have x2 := R0.cell (i := 2) (by simp)
  have y2 := R1.cell (i := 2) (by simp)
  have x3 := R0.cell (i := 3) (by simp)
  have y3 := R1.cell (i := 3) (by simp)
  have x4 := R0.cell (i := 4) (by simp)
  have y4 := R1.cell (i := 4) (by simp)
  simp at x0 y0 x1 y1 x2 y2 x3 y3 x4 y4
  go_wp2_with fail
  clear x0 y0 x1 y1 x2 y2 x3 y3 x4 y4
  refine (k4 _ _ _ _ _ _ _ _ _ q4 q4').mono ?_
  rintro e w2 ⟨rfl, p2⟩
  replace K := K.trans p2
  replace R0 := row_ext R0 p2 (fun h => h)
  replace R1 := row_ext R1 p2 (fun h => h)
  replace q3 := q3.k p2
  replace q3' := q3'.k p2
  replace q4 := q4.k p2
  replace q4' := q4'.k p2
  have x0 := R0.cell (i := 0) (by simp)
  have y0 := R1.cell (i := 0) (by simp)
  have x1 := R0.cell (i := 1) (by simp)
  have y1 := R1.cell (i := 1) (by simp)
  have x2 := R0.cell (i := 2) (by simp)
  have y2 := R1.cell (i := 2) (by simp)
  have x3 := R0.cell (i := 3) (by simp)
  have y3 := R1.cell (i := 3) (by simp)
  have x4 := R0.cell (i := 4) (by simp)
  have y4 := R1.cell (i := 4) (by simp)
  simp at x0 y0 x1 y1 x2 y2 x3 y3 x4 y4
  go_wp2_with fail
  exact fin_ hQ ⟨rfl, K⟩

set_option maxHeartbeats 1000000 in
theorem eqBlock (D D' : Nat → Prop) (w : World) (a0 : Option Addr) (n0 c0 : Nat) (a0' : Option Addr) (n0' c0' : Nat) (d0 : Dat) (z1 : Int) (r0 : Rd w D d0 (.slice a0 n0 c0)) (r0' : Rd w D' d0 (.slice a0' n0' c0')) (k0 : EqC 193 d0) :
    Calls Tryz.prog 138 #[.agg #[.slice a0 n0 c0, .int .i64 z1], .agg #[.slice a0' n0' c0', .int .i64 z1]] w fun e w' => e = .returned (.bool true) ∧ Keep w w' := by
  refine calls_k fun Q hQ => ?_
  have K : Keep w ((w.alloc (.cells #[.slice a0 n0 c0, .int .i64 z1] 69)).alloc (.cells #[.slice a0' n0' c0', .int .i64 z1] 69)) := (Keep.al _ _).trans (Keep.al _ _)
  have R0 := (rowOf w #[.slice a0 n0 c0, .int .i64 z1] 69).alloc (.cells #[.slice a0' n0' c0', .int .i64 z1] 69)
  have R1 := rowOf (w.alloc (.cells #[.slice a0 n0 c0, .int .i64 z1] 69)) #[.slice a0' n0' c0', .int .i64 z1] 69
  have q0 := r0.k K
  have q0' := r0'.k K
  clear r0 r0'
  simp only [World.size_alloc] at R1
  go_enter Tryz.func138, Tryz.ntmps138
  go_wp2_with fail
  refine (k0 _ _ _ _ _ _ _ _ _ q0 q0').mono ?_
  rintro e w1 ⟨rfl, p1⟩
  replace K := K.trans p1
  replace R0 := row_ext R0 p1 (fun h => h)
  replace R1 := row_ext R1 p1 (fun h => h)
  replace q0 := q0.k p1
  replace q0' := q0'.k p1
  have x0 := R0.cell (i := 0) (by simp)
  have y0 := R1.cell (i := 0) (by simp)
  have x1 := R0.cell (i := 1) (by simp)
  have y1 := R1.cell (i := 1) (by simp)
  simp at x0 y0 x1 y1
  go_wp2_with fail
  exact fin_ hQ ⟨rfl, K⟩

set_option maxRecDepth 100000 in
set_option maxHeartbeats 4000000 in
theorem eqSB_n (N : Nat) : (∀ xs : List StepL, volD (encSteps xs) < N → EqC 193 (encSteps xs)) ∧ (∀ xs : List BlockL, volD (encBlocks xs) < N → EqC 233 (encBlocks xs)) := by
  induction N with
  | zero => exact ⟨fun xs h => by omega, fun xs h => by omega⟩
  | succ N ihN =>
  obtain ⟨ihS, ihB⟩ := ihN
  refine ⟨?_, ?_⟩
  · intro xs hvol a n c a' n' c' D D' w h h'
    have IHStep : ∀ ys : List StepL, volD (encSteps ys) < volD (encSteps xs) → EqC 193 (encSteps ys) := fun ys hy => ihS ys (by omega)
    have IHBlock : ∀ ys : List BlockL, volD (encBlocks ys) < volD (encSteps xs) → EqC 233 (encBlocks ys) := fun ys hy => ihB ys (by omega)
    clear ihS ihB hvol
    refine calls_k fun Q hQ => ?_
    obtain ⟨e1, hnc, hm, hat⟩ := steps_at h
    obtain ⟨e2, _, _, hat'⟩ := steps_at h'
    obtain rfl : n = n' := by omega
    have HL := Lib.hid e1
    have HA := Lib.hid hat
    have HA' := Lib.hid hat'
    clear e1 e2 hat hat' h h'
    go_enter Tryz.func193, Tryz.ntmps193
    go_wp2
    go_loopw [5] (fun i wr => ∃ k : Nat, k ≤ n ∧ i = .int .i64 k ∧ Keep w wr) (fun i _ => n - (intOf i).toNat)
    case atStart => exact ⟨0, Nat.zero_le _, rfl, Ext.refl _ _⟩
    case round =>
      obtain ⟨j, hj, rfl, hK⟩ := hrel
      by_cases hlt : j < n
      · obtain ⟨b, o, rfl, hd, a3, n3, c3, a4, n4, c4, d0, d1, d2, d3, d4, r3, r4⟩ := HA.out j hlt
        obtain ⟨b', o', rfl, hd', a3', n3', c3', a4', n4', c4', d0', d1', d2', d3', d4', r3', r4'⟩ := HA'.out j hlt
        have x0 := (hK.cell (World.block_lt_of_cell? w _ d0) (fun h => h)).trans d0
        have y0 := (hK.cell (World.block_lt_of_cell? w _ d0') (fun h => h)).trans d0'
        have x1 := (hK.cell (World.block_lt_of_cell? w _ d1) (fun h => h)).trans d1
        have y1 := (hK.cell (World.block_lt_of_cell? w _ d1') (fun h => h)).trans d1'
        have x2 := (hK.cell (World.block_lt_of_cell? w _ d2) (fun h => h)).trans d2
        have y2 := (hK.cell (World.block_lt_of_cell? w _ d2') (fun h => h)).trans d2'
        have x3 := (hK.cell (World.block_lt_of_cell? w _ d3) (fun h => h)).trans d3
        have y3 := (hK.cell (World.block_lt_of_cell? w _ d3') (fun h => h)).trans d3'
        have x4 := (hK.cell (World.block_lt_of_cell? w _ d4) (fun h => h)).trans d4
        have y4 := (hK.cell (World.block_lt_of_cell? w _ d4') (fun h => h)).trans d4'
        have q3 := (r3.k hK).ext (w' := wr.drew) (Ext.refl (fun _ => False) wr).drew (fun _ _ h => h)
        have q3' := (r3'.k hK).ext (w' := wr.drew) (Ext.refl (fun _ => False) wr).drew (fun _ _ h => h)
        have q4 := (r4.k hK).ext (w' := wr.drew) (Ext.refl (fun _ => False) wr).drew (fun _ _ h => h)
        have q4' := (r4'.k hK).ext (w' := wr.drew) (Ext.refl (fun _ => False) wr).drew (fun _ _ h => h)
        clear d0 d0' d1 d1' d2 d2' d3 d3' d4 d4' r3 r3' r4 r4'
        go_wp2
        go_still_tail 8, (by kernel_rfl)
        change wpList _ _ _ _ _ wr.drew
        go_wp2_with fail
        refine (eqStep _ _ _ _ _ _ _ _ _ _ _ _ _ _ _ _ _ _ _ _ q3 q3' q4 q4' (eqIntS _) (IHBlock _ (by have := vol_lt (s := 5) (rows := (rowsS xs)) (i := j) (j := 4) (by rw [steps_len]; have := HL.out; omega) (by rw [steps_row xs j (by have := HL.out; omega)]; simp); rw [rAt, steps_row xs j (by have := HL.out; omega)] at this; simp only [dGet, List.getD, List.getElem?_cons_succ, List.getElem?_cons_zero, Option.getD_some] at this; exact this))).mono ?_
        rintro e w1 ⟨rfl, p1⟩
        go_wp2_with fail
        go_roundw
        case rel => exact ⟨j + 1, by omega, by go_num, hK.drew.trans p1⟩
        case measure => simp [intOf]; omega
      · go_wp2
        exact fin_ hQ ⟨rfl, hK⟩
  · intro xs hvol a n c a' n' c' D D' w h h'
    have IHStep : ∀ ys : List StepL, volD (encSteps ys) < volD (encBlocks xs) → EqC 193 (encSteps ys) := fun ys hy => ihS ys (by omega)
    have IHBlock : ∀ ys : List BlockL, volD (encBlocks ys) < volD (encBlocks xs) → EqC 233 (encBlocks ys) := fun ys hy => ihB ys (by omega)
    clear ihS ihB hvol
    refine calls_k fun Q hQ => ?_
    obtain ⟨e1, hnc, hm, hat⟩ := blocks_at h
    obtain ⟨e2, _, _, hat'⟩ := blocks_at h'
    obtain rfl : n = n' := by omega
    have HL := Lib.hid e1
    have HA := Lib.hid hat
    have HA' := Lib.hid hat'
    clear e1 e2 hat hat' h h'
    go_enter Tryz.func233, Tryz.ntmps233
    go_wp2
    go_loopw [5] (fun i wr => ∃ k : Nat, k ≤ n ∧ i = .int .i64 k ∧ Keep w wr) (fun i _ => n - (intOf i).toNat)
    case atStart => exact ⟨0, Nat.zero_le _, rfl, Ext.refl _ _⟩
    case round =>
      obtain ⟨j, hj, rfl, hK⟩ := hrel
      by_cases hlt : j < n
      · obtain ⟨b, o, rfl, hd, a0, n0, c0, d0, d1, r0⟩ := HA.out j hlt
        obtain ⟨b', o', rfl, hd', a0', n0', c0', d0', d1', r0'⟩ := HA'.out j hlt
        have x0 := (hK.cell (World.block_lt_of_cell? w _ d0) (fun h => h)).trans d0
        have y0 := (hK.cell (World.block_lt_of_cell? w _ d0') (fun h => h)).trans d0'
        have x1 := (hK.cell (World.block_lt_of_cell? w _ d1) (fun h => h)).trans d1
        have y1 := (hK.cell (World.block_lt_of_cell? w _ d1') (fun h => h)).trans d1'
        have q0 := (r0.k hK).ext (w' := wr.drew) (Ext.refl (fun _ => False) wr).drew (fun _ _ h => h)
        have q0' := (r0'.k hK).ext (w' := wr.drew) (Ext.refl (fun _ => False) wr).drew (fun _ _ h => h)
        clear d0 d0' d1 d1' r0 r0'
        go_wp2
        go_still_tail 8, (by kernel_rfl)
        change wpList _ _ _ _ _ wr.drew
        go_wp2_with fail
        refine (eqBlock _ _ _ _ _ _ _ _ _ _ _ q0 q0' (IHStep _ (by have := vol_lt (s := 2) (rows := (rowsB xs)) (i := j) (j := 0) (by rw [blocks_len]; have := HL.out; omega) (by rw [blocks_row xs j (by have := HL.out; omega)]; simp); rw [rAt, blocks_row xs j (by have := HL.out; omega)] at this; simp only [dGet, List.getD, List.getElem?_cons_zero, Option.getD_some] at this; exact this))).mono ?_
        rintro e w1 ⟨rfl, p1⟩
        go_wp2_with fail
        go_roundw
        case rel => exact ⟨j + 1, by omega, by go_num, hK.drew.trans p1⟩
        case measure => simp [intOf]; omega
      · go_wp2
        exact fin_ hQ ⟨rfl, hK⟩
theorem eqStepS (xs : List StepL) : EqC 193 (encSteps xs) := (eqSB_n _).1 xs (Nat.lt_succ_self _)
set_option maxHeartbeats 1000000 in
theorem eqRoutine (D D' : Nat → Prop) (w : World) (a0 : Option Addr) (n0 c0 : Nat) (a0' : Option Addr) (n0' c0' : Nat) (d0 : Dat) (a1 : Option Addr) (n1 c1 : Nat) (a1' : Option Addr) (n1' c1' : Nat) (d1 : Dat) (z2 : Int) (a3 : Option Addr) (n3 c3 : Nat) (a3' : Option Addr) (n3' c3' : Nat) (d3 : Dat) (z4 : Int) (r0 : Rd w D d0 (.slice a0 n0 c0)) (r0' : Rd w D' d0 (.slice a0' n0' c0')) (r1 : Rd w D d1 (.slice a1 n1 c1)) (r1' : Rd w D' d1 (.slice a1' n1' c1')) (r3 : Rd w D d3 (.slice a3 n3 c3)) (r3' : Rd w D' d3 (.slice a3' n3' c3')) (k0 : EqC 137 d0) (k1 : EqC 137 d1) (k3 : EqC 193 d3) :
    Calls Tryz.prog 89 #[.agg #[.slice a0 n0 c0, .slice a1 n1 c1, .int .i64 z2, .slice a3 n3 c3, .int .i64 z4], .agg #[.slice a0' n0' c0', .slice a1' n1' c1', .int .i64 z2, .slice a3' n3' c3', .int .i64 z4]] w fun e w' => e = .returned (.bool true) ∧ Keep w w' := by
  refine calls_k fun Q hQ => ?_
  have K : Keep w ((w.alloc (.cells #[.slice a0 n0 c0, .slice a1 n1 c1, .int .i64 z2, .slice a3 n3 c3, .int .i64 z4] 71)).alloc (.cells #[.slice a0' n0' c0', .slice a1' n1' c1', .int .i64 z2, .slice a3' n3' c3', .int .i64 z4] 71)) := (Keep.al _ _).trans (Keep.al _ _)
  have R0 := (rowOf w #[.slice a0 n0 c0, .slice a1 n1 c1, .int .i64 z2, .slice a3 n3 c3, .int .i64 z4] 71).alloc (.cells #[.slice a0' n0' c0', .slice a1' n1' c1', .int .i64 z2, .slice a3' n3' c3', .int .i64 z4] 71)
  have R1 := rowOf (w.alloc (.cells #[.slice a0 n0 c0, .slice a1 n1 c1, .int .i64 z2, .slice a3 n3 c3, .int .i64 z4] 71)) #[.slice a0' n0' c0', .slice a1' n1' c1', .int .i64 z2, .slice a3' n3' c3', .int .i64 z4] 71
  have q0 := r0.k K
  have q0' := r0'.k K
  have q1 := r1.k K
  have q1' := r1'.k K
  have q3 := r3.k K
  have q3' := r3'.k K
  clear r0 r0' r1 r1' r3 r3'
  simp only [World.size_alloc] at R1
  go_enter Tryz.func89, Tryz.ntmps89
  go_wp2_with fail
  refine (k0 _ _ _ _ _ _ _ _ _ q0 q0').mono ?_
  rintro e w1 ⟨rfl, p1⟩
  replace K := K.trans p1
  replace R0 := row_ext R0 p1 (fun h => h)
  replace R1 := row_ext R1 p1 (fun h => h)
  replace q0 := q0.k p1
  replace q0' := q0'.k p1
  replace q1 := q1.k p1
  replace q1' := q1'.k p1
  replace q3 := q3.k p1
  replace q3' := q3'.k p1
  have x0 := R0.cell (i := 0) (by simp)
  have y0 := R1.cell (i := 0) (by simp)
  have x1 := R0.cell (i := 1) (by simp)
  have y1 := R1.cell (i := 1) (by simp)
  have x2 := R0.cell (i := 2) (by simp)
  have y2 := R1.cell (i := 2) (by simp)
  have x3 := R0.cell (i := 3) (by simp)
  have y3 := R1.cell (i := 3) (by simp)
  have x4 := R0.cell (i := 4) (by simp)
  have y4 := R1.cell (i := 4) (by simp)
  simp at x0 y0 x1 y1 x2 y2 x3 y3 x4 y4
  go_wp2_with fail
  clear x0 y0 x1 y1 x2 y2 x3 y3 x4 y4
  refine (k1 _ _ _ _ _ _ _ _ _ q1 q1').mono ?_
  rintro e w2 ⟨rfl, p2⟩
  replace K := K.trans p2
  replace R0 := row_ext R0 p2 (fun h => h)
  replace R1 := row_ext R1 p2 (fun h => h)
  replace q0 := q0.k p2
  replace q0' := q0'.k p2
  replace q1 := q1.k p2
  replace q1' := q1'.k p2
  replace q3 := q3.k p2
  replace q3' := q3'.k p2
  have x0 := R0.cell (i := 0) (by simp)
  have y0 := R1.cell (i := 0) (by simp)
  have x1 := R0.cell (i := 1) (by simp)
  have y1 := R1.cell (i := 1) (by simp)
  have x2 := R0.cell (i := 2) (by simp)
  have y2 := R1.cell (i := 2) (by simp)
  have x3 := R0.cell (i := 3) (by simp)
  have y3 := R1.cell (i := 3) (by simp)
  have x4 := R0.cell (i := 4) (by simp)
  have y4 := R1.cell (i := 4) (by simp)
  simp at x0 y0 x1 y1 x2 y2 x3 y3 x4 y4
  go_wp2_with fail
  clear x0 y0 x1 y1 x2 y2 x3 y3 x4 y4
  refine (eqBlock _ _ _ _ _ _ _ _ _ _ _ q3 q3' k3).mono ?_
  rintro e w3 ⟨rfl, p3⟩
  replace K := K.trans p3
  replace R0 := row_ext R0 p3 (fun h => h)
  replace R1 := row_ext R1 p3 (fun h => h)
  replace q0 := q0.k p3
  replace q0' := q0'.k p3
  replace q1 := q1.k p3
  replace q1' := q1'.k p3
  replace q3 := q3.k p3
  replace q3' := q3'.k p3
  have x0 := R0.cell (i := 0) (by simp)
  have y0 := R1.cell (i := 0) (by simp)
  have x1 := R0.cell (i := 1) (by simp)
  have y1 := R1.cell (i := 1) (by simp)
  have x2 := R0.cell (i := 2) (by simp)
  have y2 := R1.cell (i := 2) (by simp)
  have x3 := R0.cell (i := 3) (by simp)
  have y3 := R1.cell (i := 3) (by simp)
  have x4 := R0.cell (i := 4) (by simp)
  have y4 := R1.cell (i := 4) (by simp)
  simp at x0 y0 x1 y1 x2 y2 x3 y3 x4 y4
  go_wp2_with fail
  exact fin_ hQ ⟨rfl, K⟩

set_option maxRecDepth 100000 in
set_option maxHeartbeats 2000000 in
theorem eqRoutineS (xs : List RoutL) : EqC 43 (encRouts xs) := by
  intro a n c a' n' c' D D' w h h'
  refine calls_k fun Q hQ => ?_
  obtain ⟨e1, hnc, hm, hat⟩ := routs_at h
  obtain ⟨e2, _, _, hat'⟩ := routs_at h'
  obtain rfl : n = n' := by omega
  have HL := Lib.hid e1
  have HA := Lib.hid hat
  have HA' := Lib.hid hat'
  clear e1 e2 hat hat' h h'
  go_enter Tryz.func43, Tryz.ntmps43
  go_wp2
  go_loopw [5] (fun i wr => ∃ k : Nat, k ≤ n ∧ i = .int .i64 k ∧ Keep w wr) (fun i _ => n - (intOf i).toNat)
  case atStart => exact ⟨0, Nat.zero_le _, rfl, Ext.refl _ _⟩
  case round =>
    obtain ⟨j, hj, rfl, hK⟩ := hrel
    by_cases hlt : j < n
    · obtain ⟨b, o, rfl, hd, a0, n0, c0, a1, n1, c1, a3, n3, c3, d0, d1, d2, d3, d4, r0, r1, r3⟩ := HA.out j hlt
      obtain ⟨b', o', rfl, hd', a0', n0', c0', a1', n1', c1', a3', n3', c3', d0', d1', d2', d3', d4', r0', r1', r3'⟩ := HA'.out j hlt
      have x0 := (hK.cell (World.block_lt_of_cell? w _ d0) (fun h => h)).trans d0
      have y0 := (hK.cell (World.block_lt_of_cell? w _ d0') (fun h => h)).trans d0'
      have x1 := (hK.cell (World.block_lt_of_cell? w _ d1) (fun h => h)).trans d1
      have y1 := (hK.cell (World.block_lt_of_cell? w _ d1') (fun h => h)).trans d1'
      have x2 := (hK.cell (World.block_lt_of_cell? w _ d2) (fun h => h)).trans d2
      have y2 := (hK.cell (World.block_lt_of_cell? w _ d2') (fun h => h)).trans d2'
      have x3 := (hK.cell (World.block_lt_of_cell? w _ d3) (fun h => h)).trans d3
      have y3 := (hK.cell (World.block_lt_of_cell? w _ d3') (fun h => h)).trans d3'
      have x4 := (hK.cell (World.block_lt_of_cell? w _ d4) (fun h => h)).trans d4
      have y4 := (hK.cell (World.block_lt_of_cell? w _ d4') (fun h => h)).trans d4'
      have q0 := (r0.k hK).ext (w' := wr.drew) (Ext.refl (fun _ => False) wr).drew (fun _ _ h => h)
      have q0' := (r0'.k hK).ext (w' := wr.drew) (Ext.refl (fun _ => False) wr).drew (fun _ _ h => h)
      have q1 := (r1.k hK).ext (w' := wr.drew) (Ext.refl (fun _ => False) wr).drew (fun _ _ h => h)
      have q1' := (r1'.k hK).ext (w' := wr.drew) (Ext.refl (fun _ => False) wr).drew (fun _ _ h => h)
      have q3 := (r3.k hK).ext (w' := wr.drew) (Ext.refl (fun _ => False) wr).drew (fun _ _ h => h)
      have q3' := (r3'.k hK).ext (w' := wr.drew) (Ext.refl (fun _ => False) wr).drew (fun _ _ h => h)
      clear d0 d0' d1 d1' d2 d2' d3 d3' d4 d4' r0 r0' r1 r1' r3 r3'
      go_wp2
      go_still_tail 8, (by kernel_rfl)
      change wpList _ _ _ _ _ wr.drew
      go_wp2_with fail
      refine (eqRoutine _ _ _ _ _ _ _ _ _ _ _ _ _ _ _ _ _ _ _ _ _ _ _ _ _ _ q0 q0' q1 q1' q3 q3' (eqIntS _) (eqIntS _) (eqStepS _)).mono ?_
      rintro e w1 ⟨rfl, p1⟩
      go_wp2_with fail
      go_roundw
      case rel => exact ⟨j + 1, by omega, by go_num, hK.drew.trans p1⟩
      case measure => simp [intOf]; omega
    · go_wp2
      exact fin_ hQ ⟨rfl, hK⟩

set_option maxHeartbeats 1000000 in
theorem eqNormal (D D' : Nat → Prop) (w : World) (a0 : Option Addr) (n0 c0 : Nat) (a0' : Option Addr) (n0' c0' : Nat) (d0 : Dat) (a1 : Option Addr) (n1 c1 : Nat) (a1' : Option Addr) (n1' c1' : Nat) (d1 : Dat) (r0 : Rd w D d0 (.slice a0 n0 c0)) (r0' : Rd w D' d0 (.slice a0' n0' c0')) (r1 : Rd w D d1 (.slice a1 n1 c1)) (r1' : Rd w D' d1 (.slice a1' n1' c1')) (k0 : EqC 42 d0) (k1 : EqC 43 d1) :
    Calls Tryz.prog 11 #[.agg #[.slice a0 n0 c0, .slice a1 n1 c1], .agg #[.slice a0' n0' c0', .slice a1' n1' c1']] w fun e w' => e = .returned (.bool true) ∧ Keep w w' := by
  refine calls_k fun Q hQ => ?_
  have K : Keep w ((w.alloc (.cells #[.slice a0 n0 c0, .slice a1 n1 c1] 30)).alloc (.cells #[.slice a0' n0' c0', .slice a1' n1' c1'] 30)) := (Keep.al _ _).trans (Keep.al _ _)
  have R0 := (rowOf w #[.slice a0 n0 c0, .slice a1 n1 c1] 30).alloc (.cells #[.slice a0' n0' c0', .slice a1' n1' c1'] 30)
  have R1 := rowOf (w.alloc (.cells #[.slice a0 n0 c0, .slice a1 n1 c1] 30)) #[.slice a0' n0' c0', .slice a1' n1' c1'] 30
  have q0 := r0.k K
  have q0' := r0'.k K
  have q1 := r1.k K
  have q1' := r1'.k K
  clear r0 r0' r1 r1'
  simp only [World.size_alloc] at R1
  go_enter Tryz.func11, Tryz.ntmps11
  go_wp2_with fail
  refine (k0 _ _ _ _ _ _ _ _ _ q0 q0').mono ?_
  rintro e w1 ⟨rfl, p1⟩
  replace K := K.trans p1
  replace R0 := row_ext R0 p1 (fun h => h)
  replace R1 := row_ext R1 p1 (fun h => h)
  replace q0 := q0.k p1
  replace q0' := q0'.k p1
  replace q1 := q1.k p1
  replace q1' := q1'.k p1
  have x0 := R0.cell (i := 0) (by simp)
  have y0 := R1.cell (i := 0) (by simp)
  have x1 := R0.cell (i := 1) (by simp)
  have y1 := R1.cell (i := 1) (by simp)
  simp at x0 y0 x1 y1
  go_wp2_with fail
  clear x0 y0 x1 y1
  refine (k1 _ _ _ _ _ _ _ _ _ q1 q1').mono ?_
  rintro e w2 ⟨rfl, p2⟩
  replace K := K.trans p2
  replace R0 := row_ext R0 p2 (fun h => h)
  replace R1 := row_ext R1 p2 (fun h => h)
  replace q0 := q0.k p2
  replace q0' := q0'.k p2
  replace q1 := q1.k p2
  replace q1' := q1'.k p2
  have x0 := R0.cell (i := 0) (by simp)
  have y0 := R1.cell (i := 0) (by simp)
  have x1 := R0.cell (i := 1) (by simp)
  have y1 := R1.cell (i := 1) (by simp)
  simp at x0 y0 x1 y1
  go_wp2_with fail
  exact fin_ hQ ⟨rfl, K⟩

end Go.Proofs.YtkapldpmjkdmcaaGreat
/- The exact law FnExactPlainOf: the walk. -/
namespace Go.Proofs.YtkapldpmjkdmcaaGreat
open Go.RowKit

set_option linter.unusedVariables false
set_option maxRecDepth 100000 in
set_option maxHeartbeats 8000000 in
theorem fnExactPlainOf_walk (ds : List DeclL) (rs : List RoutL) (a0 : Option Addr) (n0 c0 : Nat) (a1 : Option Addr) (n1 c1 : Nat) (w : World) (r0 : Rd w (fun _ => True) (encDecls ds) (.slice a0 n0 c0)) (r1 : Rd w (fun _ => True) (encRouts rs) (.slice a1 n1 c1)) (hfit : fitRs rs) :
    Calls Tryz.prog 3 #[.agg #[.slice a0 n0 c0, .slice a1 n1 c1]] w fun e w' => e = .returned (.bool true) ∧ Keep w w' := by
  refine calls_k fun Q hQ => ?_
  have HFT := Lib.hid hfit
  clear hfit
  have K := Keep.al w (.cells #[.slice a0 n0 c0, .slice a1 n1 c1] 25)
  by_cases hs : (1048576 : Int) < ((szD (encDecls ds) + szD (encRouts rs) : Nat) : Int)
  · have V : Hid (szo (szD (encDecls ds) + szD (encRouts rs)) 1048576 = -1) := szo_no (by omega)
    have s0 := r0.k K
    have s1 := r1.k K
    go_enter Tryz.func3, Tryz.ntmps3
    go_wp2_with fail
    refine (szNormal _ _ _ _ _ _ _ _ _ _ _ s0 s1 (szDeclS _) (szRoutineS _) (by omega) (by omega)).mono ?_
    rw [V.out]
    rintro e w1 ⟨rfl, p1⟩
    go_wp2_with fail
    exact fin_ hQ ⟨rfl, K.trans p1⟩
  have hz0 : szD (encDecls ds) ≤ 1048576 := by omega
  have hz1 : szD (encRouts rs) ≤ 1048576 := by omega
  have V : Hid (szo (szD (encDecls ds) + szD (encRouts rs)) 1048576 = 1048576 - ((szD (encDecls ds) : Int) + (szD (encRouts rs) : Int))) := by show _ = _; rw [szo_yes (by omega)]; omega
  have t0 : 0 ≤ 1048576 - ((szD (encDecls ds) : Int) + (szD (encRouts rs) : Int)) := by omega
  have HC0 : Hid (cntD (encDecls ds) ≤ 3145728) := by have := cnt_decls ds; show _ ≤ _; omega
  have HC1 : Hid (cntD (encRouts rs) ≤ 3145728) := by have := cnt_routs rs; show _ ≤ _; omega
  clear hs
  have HLdv0 : Hid (cntD (encDecls (ploD ds rs)) ≤ 4000000) := (by have h1 := ploD_cnt ds rs; have h2 := HC0.out; show _ ≤ _; omega)
  have HLdv1 : Hid (cntD (encRouts (ploR ds rs)) ≤ 4000000) := (by have h1 := ploR_cnt ds rs; have h2 := HC1.out; show _ ≤ _; omega)
  generalize hVdv0 : encDecls (ploD ds rs) = dv0 at HLdv0
  generalize hVdv1 : encRouts (ploR ds rs) = dv1 at HLdv1
  generalize hVrb : normOk ds rs = rb
  have HVdv0 := Lib.hid hVdv0
  have HVdv1 := Lib.hid hVdv1
  have HVrb := Lib.hid hVrb
  clear hVdv0 hVdv1 hVrb
  have EQdv0 : EqC 42 dv0 := by rw [← HVdv0.out]; exact eqDeclS _
  have MKdv0 : MkC 44 dv0 := by rw [← HVdv0.out]; exact markDeclS _
  have HDdv0 : HdC 46 dv0 := by rw [← HVdv0.out]; exact heldDeclS _
  have EQdv0 := Lib.hid EQdv0; have MKdv0 := Lib.hid MKdv0; have HDdv0 := Lib.hid HDdv0
  have EQdv1 : EqC 43 dv1 := by rw [← HVdv1.out]; exact eqRoutineS _
  have MKdv1 : MkC 45 dv1 := by rw [← HVdv1.out]; exact markRoutineS _
  have HDdv1 : HdC 47 dv1 := by rw [← HVdv1.out]; exact heldRoutineS _
  have EQdv1 := Lib.hid EQdv1; have MKdv1 := Lib.hid MKdv1; have HDdv1 := Lib.hid HDdv1
  have bk := rowOf w #[.slice a0 n0 c0, .slice a1 n1 c1] 25
  have s0 := ((r0.lt).mono (D' := fun q => q < w.heap.size) (fun _ h => h.2)).k K
  have s1 := ((r1.lt).mono (D' := fun q => q < w.heap.size) (fun _ h => h.2)).k K
  clear r0 r1
  have zb : (w.alloc (.cells #[.slice a0 n0 c0, .slice a1 n1 c1] 25)).heap.size = w.heap.size + 1 := by simp
  go_enter Tryz.func3, Tryz.ntmps3
  go_wp2_with fail
  refine (szNormal _ _ _ _ _ _ _ _ _ _ _ s0 s1 (szDeclS _) (szRoutineS _) (by omega) (by omega)).mono ?_
  rw [V.out]
  rintro e w1 ⟨rfl, p1⟩
  replace K := K.trans p1
  replace bk := row_ext bk p1 (fun h => h)
  replace s0 := s0.k p1
  replace s1 := s1.k p1
  clear V
  have z1 := p1.size
  have x0 := bk.cell (i := 0) (by simp)
  have x1 := bk.cell (i := 1) (by simp)
  simp at x0 x1
  go_wp2_with fail
  refine (toNormal _ _ _ _ _ _ _ _ _ _ s0 hz0 s1 hz1 (toDeclS _) (toRoutineS _)).mono ?_
  rintro e w2 ⟨b0q, b1q, rfl, tsq, pq⟩
  have g0q := (tsq.get 0 _ _ rfl rfl).read
  have g1q := (tsq.get 1 _ _ rfl rfl).read
  have zq := pq.size
  clear tsq
  replace K := K.trans pq
  replace bk := row_ext bk pq (fun h => h)
  replace s0 := s0.k pq
  replace s1 := s1.k pq
  go_wp2_with fail
  refine (specPlainOf _ _ (okRs_of HFT.out hz1) _ _ _ _ _ _ _ _ _ g0q g1q).mono ?_
  rw [HVdv0.out, HVdv1.out, HVrb.out]
  rintro e w3 ⟨a0s, n0s, c0s, a1s, n1s, c1s, rfl, os0, os1, p3⟩
  have z3 := p3.size
  have OS0 := (os0.lt).mono (D' := fun q => w2.heap.size ≤ q ∧ q < w3.heap.size) (fun _ h => h)
  clear os0
  have OS1 := (os1.lt).mono (D' := fun q => w2.heap.size ≤ q ∧ q < w3.heap.size) (fun _ h => h)
  clear os1
  replace K := K.trans p3
  replace bk := row_ext bk p3 (fun h => h)
  replace s0 := s0.k p3
  replace s1 := s1.k p3
  clear g0q g1q
  clear x0 x1
  have kw := Keep.al w3 (.cells #[.slice a0s n0s c0s, .slice a1s n1s c1s] 30)
  have zkw : (w3.alloc (.cells #[.slice a0s n0s c0s, .slice a1s n1s c1s] 30)).heap.size = w3.heap.size + 1 := by simp
  replace K := K.trans kw
  replace bk := row_ext bk kw (fun h => h)
  replace s0 := s0.k kw
  replace s1 := s1.k kw
  replace OS0 := OS0.k kw
  replace OS1 := OS1.k kw
  have bw := rowOf w3 #[.slice a0s n0s c0s, .slice a1s n1s c1s] 30
  have x0 := bk.cell (i := 0) (by simp)
  have x1 := bk.cell (i := 1) (by simp)
  simp at x0 x1
  go_wp2_with fail
  refine (toNormal _ _ _ _ _ _ _ _ _ _ s0 hz0 s1 hz1 (toDeclS _) (toRoutineS _)).mono ?_
  rintro e w4 ⟨b0x, b1x, rfl, tsx, px⟩
  have g0x := (tsx.get 0 _ _ rfl rfl).read
  have g1x := (tsx.get 1 _ _ rfl rfl).read
  have zx := px.size
  rw [zkw] at tsx zx
  replace K := K.trans px
  replace bk := row_ext bk px (fun h => h)
  replace bw := row_ext bw px (fun h => h)
  replace s0 := s0.k px
  replace s1 := s1.k px
  replace OS0 := OS0.k px
  replace OS1 := OS1.k px
  have k4 := Keep.al w4 (.cells #[.slice b0x n0 n0, .slice b1x n1 n1] 30)
  have zk4 : (w4.alloc (.cells #[.slice b0x n0 n0, .slice b1x n1 n1] 30)).heap.size = w4.heap.size + 1 := by simp
  replace K := K.trans k4
  replace bk := row_ext bk k4 (fun h => h)
  replace bw := row_ext bw k4 (fun h => h)
  replace s0 := s0.k k4
  replace s1 := s1.k k4
  replace OS0 := OS0.k k4
  replace OS1 := OS1.k k4
  have bx := rowOf w4 #[.slice b0x n0 n0, .slice b1x n1 n1] 30
  replace g0x := g0x.k k4
  replace g1x := g1x.k k4
  replace tsx := tsx.ext k4 (fun _ _ _ h => h)
  clear x0 x1
  go_wp2_with fail
  refine (implPlainOf _ _ (okRs_of HFT.out hz1) _ _ _ _ _ _ _ _ _ g0x g1x).mono ?_
  rw [HVdv0.out, HVdv1.out, HVrb.out]
  rintro e w5 ⟨a0g, n0g, c0g, a1g, n1g, c1g, rfl, oi, p5⟩
  have z5 := p5.size
  rw [zk4] at z5
  have OI := oi
  rw [zk4] at OI
  clear oi
  replace K := K.trans p5
  replace bk := row_ext bk p5 (fun h => h)
  replace bw := row_ext bw p5 (fun h => h)
  replace bx := row_ext bx p5 (fun h => h)
  replace s0 := s0.k p5
  replace s1 := s1.k p5
  replace OS0 := OS0.k p5
  replace OS1 := OS1.k p5
  replace g0x := g0x.k p5
  replace g1x := g1x.k p5
  replace tsx := tsx.ext p5 (fun _ _ _ h => h)
  have kg := Keep.al w5 (.cells #[.slice a0g n0g c0g, .slice a1g n1g c1g] 30)
  have zkg : (w5.alloc (.cells #[.slice a0g n0g c0g, .slice a1g n1g c1g] 30)).heap.size = w5.heap.size + 1 := by simp
  replace K := K.trans kg
  replace bk := row_ext bk kg (fun h => h)
  replace bw := row_ext bw kg (fun h => h)
  replace bx := row_ext bx kg (fun h => h)
  replace s0 := s0.k kg
  replace s1 := s1.k kg
  replace OS0 := OS0.k kg
  replace OS1 := OS1.k kg
  replace g0x := g0x.k kg
  replace g1x := g1x.k kg
  replace tsx := tsx.ext kg (fun _ _ _ h => h)
  replace OI := OI.ext kg (fun _ _ _ h => h)
  have bg := rowOf w5 #[.slice a0g n0g c0g, .slice a1g n1g c1g] 30
  have u0 := bg.cell (i := 0) (by simp)
  have u1 := bg.cell (i := 1) (by simp)
  simp at u0 u1
  have v0 := bw.cell (i := 0) (by simp)
  have v1 := bw.cell (i := 1) (by simp)
  simp at v0 v1
  go_wp2_with fail
  refine (eqNormal _ _ _ _ _ _ _ _ _ _ _ _ _ _ _ _ _ (OI.get 0 _ _ rfl rfl).read OS0 (OI.get 1 _ _ rfl rfl).read OS1 EQdv0.out EQdv1.out).mono ?_
  rintro e w6 ⟨rfl, p6⟩
  clear u0 u1
  clear v0 v1
  replace K := K.trans p6
  replace bk := row_ext bk p6 (fun h => h)
  replace bw := row_ext bw p6 (fun h => h)
  replace bx := row_ext bx p6 (fun h => h)
  replace bg := row_ext bg p6 (fun h => h)
  replace s0 := s0.k p6
  replace s1 := s1.k p6
  replace OS0 := OS0.k p6
  replace OS1 := OS1.k p6
  replace g0x := g0x.k p6
  replace g1x := g1x.k p6
  replace tsx := tsx.ext p6 (fun _ _ _ h => h)
  replace OI := OI.ext p6 (fun _ _ _ h => h)
  have x0 := bk.cell (i := 0) (by simp)
  have x1 := bk.cell (i := 1) (by simp)
  simp at x0 x1
  have y0 := bx.cell (i := 0) (by simp)
  have y1 := bx.cell (i := 1) (by simp)
  simp at y0 y1
  have s0d := s0.k (w' := w6.drew) (Ext.refl (fun _ => False) w6).drew
  have g0d := g0x.k (w' := w6.drew) (Ext.refl (fun _ => False) w6).drew
  have s1d := s1.k (w' := w6.drew) (Ext.refl (fun _ => False) w6).drew
  have g1d := g1x.k (w' := w6.drew) (Ext.refl (fun _ => False) w6).drew
  go_wp2_with fail
  go_region_held3 (fun w' => w'.cell? ⟨w.heap.size, 0, none⟩ = some (.slice a0 n0 c0) ∧ w'.cell? ⟨w.heap.size, 1, none⟩ = some (.slice a1 n1 c1) ∧ w'.cell? ⟨w4.heap.size, 0, none⟩ = some (.slice b0x n0 n0) ∧ w'.cell? ⟨w4.heap.size, 1, none⟩ = some (.slice b1x n1 n1))
    (first | exact ⟨Keep.at (pa.trans pb) x0, Keep.at (pa.trans pb) x1, Keep.at (pa.trans pb) y0, Keep.at (pa.trans pb) y1⟩ | exact ⟨Keep.at pa x0, Keep.at pa x1, Keep.at pa y0, Keep.at pa y1⟩ | go_keep)
    (first
      | (go_at_call 9; refine (toNormal _ _ _ _ _ _ _ _ _ _ s0d hz0 s1d hz1 (toDeclS _) (toRoutineS _)).mono ?_; rintro e wa ⟨b0a, b1a, rfl, tsa, pa⟩)
      | (go_at_call 11; refine (eqNormal _ _ _ _ _ _ _ _ _ _ _ _ _ _ _ _ _ (g0d.k pa) ((tsa.get 0 _ _ rfl rfl).read) (g1d.k pa) ((tsa.get 1 _ _ rfl rfl).read) (eqDeclS _) (eqRoutineS _)).mono ?_; rintro e wb ⟨rfl, pb⟩))
  have pab : Keep w6 wb := (((Ext.refl _ w6).drew).trans pa).trans pb
  clear x0 x1 y0 y1 s0d s1d g0d g1d tsa
  clear g0x g1x
  replace K := K.trans pab
  replace bk := row_ext bk pab (fun h => h)
  replace bw := row_ext bw pab (fun h => h)
  replace bx := row_ext bx pab (fun h => h)
  replace bg := row_ext bg pab (fun h => h)
  replace s0 := s0.k pab
  replace s1 := s1.k pab
  replace OS0 := OS0.k pab
  replace OS1 := OS1.k pab
  replace tsx := tsx.ext pab (fun _ _ _ h => h)
  replace OI := OI.ext pab (fun _ _ _ h => h)
  clear pa pb
  have y0 := bx.cell (i := 0) (by simp)
  have y1 := bx.cell (i := 1) (by simp)
  simp at y0 y1
  go_wp2_with fail
  have zbx := bx.lt
  refine (markNormal _ _ _ _ _ _ _ _ _ _ _ _ tsx (by omega) (markDeclS _) (markRoutineS _) (by omega) (by have := HC0.out; have := HC1.out; omega)).mono ?_
  rintro e w7 ⟨k7, rfl, hk7, _, x7⟩
  have t7 : 0 ≤ k7 := by omega
  clear hk7
  clear y0 y1
  clear tsx bx
  replace K := K.then_ x7 (fun i hi h => by omega)
  replace bk := row_ext bk x7 (fun h => by omega)
  replace bw := row_ext bw x7 (fun h => by omega)
  replace bg := row_ext bg x7 (fun h => by omega)
  replace s0 := s0.ext x7 (fun i hi h => by omega)
  replace s1 := s1.ext x7 (fun i hi h => by omega)
  replace OS0 := OS0.ext x7 (fun i hi h => by omega)
  replace OS1 := OS1.ext x7 (fun i hi h => by omega)
  replace OI := OI.ext x7 (fun i h1 h2 h => by omega)
  clear x7
  have u0 := bg.cell (i := 0) (by simp)
  have u1 := bg.cell (i := 1) (by simp)
  simp at u0 u1
  have v0 := bw.cell (i := 0) (by simp)
  have v1 := bw.cell (i := 1) (by simp)
  simp at v0 v1
  go_wp2_with fail
  refine (eqNormal _ _ _ _ _ _ _ _ _ _ _ _ _ _ _ _ _ (OI.get 0 _ _ rfl rfl).read OS0 (OI.get 1 _ _ rfl rfl).read OS1 EQdv0.out EQdv1.out).mono ?_
  rintro e w8 ⟨rfl, p8⟩
  clear u0 u1
  clear v0 v1
  replace K := K.trans p8
  replace bk := row_ext bk p8 (fun h => h)
  replace bw := row_ext bw p8 (fun h => h)
  replace bg := row_ext bg p8 (fun h => h)
  replace s0 := s0.k p8
  replace s1 := s1.k p8
  replace OS0 := OS0.k p8
  replace OS1 := OS1.k p8
  replace OI := OI.ext p8 (fun _ _ _ h => h)
  have u0 := bg.cell (i := 0) (by simp)
  have u1 := bg.cell (i := 1) (by simp)
  simp at u0 u1
  go_wp2_with fail
  have zbg := bg.lt
  refine (markNormal _ _ _ _ _ _ _ _ _ _ _ _ OI (by omega) MKdv0.out MKdv1.out (by omega) (by have := HLdv0.out; have := HLdv1.out; omega)).mono ?_
  rintro e w9 ⟨_, rfl, rfl, OM, x9⟩
  clear u0 u1
  clear OI
  replace K := K.then_ x9 (fun i hi h => by omega)
  replace bk := row_ext bk x9 (fun h => by omega)
  replace bw := row_ext bw x9 (fun h => by omega)
  replace bg := row_ext bg x9 (fun h => by omega)
  replace s0 := s0.ext x9 (fun i hi h => by omega)
  replace s1 := s1.ext x9 (fun i hi h => by omega)
  replace OS0 := OS0.ext x9 (fun i hi h => by omega)
  replace OS1 := OS1.ext x9 (fun i hi h => by omega)
  clear x9
  have tc : 0 ≤ 1 + (cntD dv0 : Int) + (cntD dv1 : Int) := by omega
  have u0 := bg.cell (i := 0) (by simp)
  have u1 := bg.cell (i := 1) (by simp)
  simp at u0 u1
  go_wp2_with fail
  refine (heldNormal _ _ _ _ _ _ _ _ _ _ _ _ OM HDdv0.out HDdv1.out (by omega) (by have := HLdv0.out; have := HLdv1.out; omega)).mono ?_
  rintro e w10 ⟨rfl, p10⟩
  clear u0 u1
  replace K := K.trans p10
  replace bk := row_ext bk p10 (fun h => h)
  replace bw := row_ext bw p10 (fun h => h)
  replace bg := row_ext bg p10 (fun h => h)
  replace s0 := s0.k p10
  replace s1 := s1.k p10
  replace OS0 := OS0.k p10
  replace OS1 := OS1.k p10
  replace OM := OM.ext p10 (fun _ _ _ h => h)
  have x0 := bk.cell (i := 0) (by simp)
  have x1 := bk.cell (i := 1) (by simp)
  simp at x0 x1
  go_wp2_with fail
  refine (toNormal _ _ _ _ _ _ _ _ _ _ s0 hz0 s1 hz1 (toDeclS _) (toRoutineS _)).mono ?_
  rintro e w11 ⟨b0h, b1h, rfl, tsh, ph⟩
  have g0h := (tsh.get 0 _ _ rfl rfl).read
  have g1h := (tsh.get 1 _ _ rfl rfl).read
  have zh := ph.size
  replace K := K.trans ph
  replace bk := row_ext bk ph (fun h => h)
  replace bw := row_ext bw ph (fun h => h)
  replace bg := row_ext bg ph (fun h => h)
  replace s0 := s0.k ph
  replace s1 := s1.k ph
  replace OS0 := OS0.k ph
  replace OS1 := OS1.k ph
  replace OM := OM.ext ph (fun _ _ _ h => h)
  clear tsh
  clear x0 x1
  go_wp2_with fail
  refine (implPlainOf _ _ (okRs_of HFT.out hz1) _ _ _ _ _ _ _ _ _ g0h g1h).mono ?_
  rw [HVdv0.out, HVdv1.out, HVrb.out]
  rintro e w12 ⟨a0h, n0h, c0h, a1h, n1h, c1h, rfl, oh, p12⟩
  replace K := K.trans p12
  replace bk := row_ext bk p12 (fun h => h)
  replace bw := row_ext bw p12 (fun h => h)
  replace bg := row_ext bg p12 (fun h => h)
  replace s0 := s0.k p12
  replace s1 := s1.k p12
  replace OS0 := OS0.k p12
  replace OS1 := OS1.k p12
  replace OM := OM.ext p12 (fun _ _ _ h => h)
  have OH0 := (oh.get 0 _ _ rfl rfl).read
  have OH1 := (oh.get 1 _ _ rfl rfl).read
  clear oh
  have kh := Keep.al w12 (.cells #[.slice a0h n0h c0h, .slice a1h n1h c1h] 30)
  have zkh : (w12.alloc (.cells #[.slice a0h n0h c0h, .slice a1h n1h c1h] 30)).heap.size = w12.heap.size + 1 := by simp
  replace K := K.trans kh
  replace bk := row_ext bk kh (fun h => h)
  replace bw := row_ext bw kh (fun h => h)
  replace bg := row_ext bg kh (fun h => h)
  replace s0 := s0.k kh
  replace s1 := s1.k kh
  replace OS0 := OS0.k kh
  replace OS1 := OS1.k kh
  replace OH0 := OH0.k kh
  replace OH1 := OH1.k kh
  replace OM := OM.ext kh (fun _ _ _ h => h)
  have bh := rowOf w12 #[.slice a0h n0h c0h, .slice a1h n1h c1h] 30
  have u0 := bh.cell (i := 0) (by simp)
  have u1 := bh.cell (i := 1) (by simp)
  simp at u0 u1
  have v0 := bw.cell (i := 0) (by simp)
  have v1 := bw.cell (i := 1) (by simp)
  simp at v0 v1
  go_wp2_with fail
  refine (eqNormal _ _ _ _ _ _ _ _ _ _ _ _ _ _ _ _ _ OH0 OS0 OH1 OS1 EQdv0.out EQdv1.out).mono ?_
  rintro e w13 ⟨rfl, p13⟩
  clear u0 u1
  clear v0 v1
  replace K := K.trans p13
  replace bk := row_ext bk p13 (fun h => h)
  replace bw := row_ext bw p13 (fun h => h)
  replace bg := row_ext bg p13 (fun h => h)
  replace bh := row_ext bh p13 (fun h => h)
  replace s0 := s0.k p13
  replace s1 := s1.k p13
  replace OS0 := OS0.k p13
  replace OS1 := OS1.k p13
  replace OH0 := OH0.k p13
  replace OH1 := OH1.k p13
  replace OM := OM.ext p13 (fun _ _ _ h => h)
  have u0 := bg.cell (i := 0) (by simp)
  have u1 := bg.cell (i := 1) (by simp)
  simp at u0 u1
  go_wp2_with fail
  refine (heldNormal _ _ _ _ _ _ _ _ _ _ _ _ OM HDdv0.out HDdv1.out (by omega) (by have := HLdv0.out; have := HLdv1.out; omega)).mono ?_
  rintro e w14 ⟨rfl, p14⟩
  clear u0 u1
  replace K := K.trans p14
  replace bk := row_ext bk p14 (fun h => h)
  replace bw := row_ext bw p14 (fun h => h)
  replace bg := row_ext bg p14 (fun h => h)
  replace bh := row_ext bh p14 (fun h => h)
  replace s0 := s0.k p14
  replace s1 := s1.k p14
  replace OS0 := OS0.k p14
  replace OS1 := OS1.k p14
  replace OH0 := OH0.k p14
  replace OH1 := OH1.k p14
  replace OM := OM.ext p14 (fun _ _ _ h => h)
  go_wp2_with fail
  exact fin_ hQ ⟨rfl, K⟩
end Go.Proofs.YtkapldpmjkdmcaaGreat
