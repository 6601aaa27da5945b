/- The laws' own helpers: comparisons of equal data. -/
import Derived.Test.YtmekdccgjgfiaaaQAF
import Derived.StillTailTactics
import Derived.IntWalk
import Derived.Test.YtmekdccgjgfiaaaQBF
import Derived.Test.YtmekdccgjgfiaaaQBG
import Derived.Test.YtmekdccgjgfiaaaQBH
import Derived.Test.YtmekdccgjgfiaaaQBJ
import Derived.Deep.RegionHeld3
import Derived.Test.YtmekdccgjgfiaaaQAC
namespace Go.Proofs.Ytmekdccgjgfiaaa
open Go.RowKit


def EqC (f : FuncId) (d : Dat) : Prop := ∀ (a : Option Addr) (n c : Nat) (a' : Option Addr) (n' c' : Nat) (D D' : Nat → Prop) (w : World), Rd w D d (.slice a n c) → Rd w D' d (.slice a' n' c') →
  Calls Try.prog f #[.slice a n c, .slice a' n' c'] w fun e w' => e = .returned (.bool true) ∧ Keep w w'


set_option maxHeartbeats 400000 in
theorem eqIntS (xs : List Int) : EqC 13 (encInts xs) := by
  intro a n c a' n' c' D D' w h h'
  refine calls_k fun Q hQ => ?_
  obtain ⟨e1, hnc, hm, hat⟩ := ints_at h
  obtain ⟨e2, _, _, hat'⟩ := ints_at h'
  obtain rfl : n = n' := by omega
  have HA := Lib.hid hat
  have HA' := Lib.hid hat'
  clear e1 e2 hat hat'
  go_enter Try.func13, Try.ntmps13
  go_wp2
  go_loopw [5] (fun i wr => ∃ k : Nat, k ≤ n ∧ i = .int .i64 k ∧ Keep w wr) (fun i _ => n - (intOf i).toNat)
  case atStart => exact ⟨0, Nat.zero_le _, rfl, Ext.refl _ _⟩
  case round =>
    obtain ⟨k, hk, rfl, hK⟩ := hrel
    by_cases hlt : k < n
    · obtain ⟨b, o, rfl, hd, c0⟩ := HA.out k hlt
      obtain ⟨b', o', rfl, hd', c1⟩ := HA'.out k hlt
      have g0 := (hK.cell (World.block_lt_of_cell? w _ c0) (fun h => h)).trans c0
      have g1 := (hK.cell (World.block_lt_of_cell? w _ c1) (fun h => h)).trans c1
      clear c0 c1
      go_wp2
      go_quiet (fail)
      go_wp2
      go_roundw
      case rel => exact ⟨k + 1, by omega, by go_num, hK.drewN nq⟩
      case measure => simp [intOf]; omega
    · go_wp2
      exact fin_ hQ ⟨rfl, hK⟩

set_option maxHeartbeats 1000000 in
theorem eqCon (D D' : Nat → Prop) (w : World) (a0 : Option Addr) (n0 c0 : Nat) (a0' : Option Addr) (n0' c0' : Nat) (d0 : Dat) (r0 : Rd w D d0 (.slice a0 n0 c0)) (r0' : Rd w D' d0 (.slice a0' n0' c0')) (k0 : EqC 13 d0) :
    Calls Try.prog 93 #[.agg #[.slice a0 n0 c0], .agg #[.slice a0' n0' c0']] w fun e w' => e = .returned (.bool true) ∧ Keep w w' := by
  refine calls_k fun Q hQ => ?_
  have K : Keep w ((w.alloc (.cells #[.slice a0 n0 c0] 134)).alloc (.cells #[.slice a0' n0' c0'] 134)) := (Keep.al _ _).trans (Keep.al _ _)
  have R0 := (rowOf w #[.slice a0 n0 c0] 134).alloc (.cells #[.slice a0' n0' c0'] 134)
  have R1 := rowOf (w.alloc (.cells #[.slice a0 n0 c0] 134)) #[.slice a0' n0' c0'] 134
  have q0 := r0.k K
  have q0' := r0'.k K
  clear r0 r0'
  simp only [World.size_alloc] at R1
  go_enter Try.func93, Try.ntmps93
  go_wp2_with fail
  refine (k0 _ _ _ _ _ _ _ _ _ q0 q0').mono ?_
  rintro e w1 ⟨rfl, p1⟩
  replace K := K.trans p1
  replace R0 := row_ext R0 p1 (fun h => h)
  replace R1 := row_ext R1 p1 (fun h => h)
  replace q0 := q0.k p1
  replace q0' := q0'.k p1
  have x0 := R0.cell (i := 0) (by simp)
  have y0 := R1.cell (i := 0) (by simp)
  simp at x0 y0
  go_wp2_with fail
  exact fin_ hQ ⟨rfl, K⟩

set_option maxRecDepth 100000 in
set_option maxHeartbeats 2000000 in
theorem eqConS (xs : List (List Int)) : EqC 78 (encCons xs) := by
  intro a n c a' n' c' D D' w h h'
  refine calls_k fun Q hQ => ?_
  obtain ⟨e1, hnc, hm, hat⟩ := cons_at h
  obtain ⟨e2, _, _, hat'⟩ := cons_at h'
  obtain rfl : n = n' := by omega
  have HL := Lib.hid e1
  have HA := Lib.hid hat
  have HA' := Lib.hid hat'
  clear e1 e2 hat hat' h h'
  go_enter Try.func78, Try.ntmps78
  go_wp2
  go_loopw [5] (fun i wr => ∃ k : Nat, k ≤ n ∧ i = .int .i64 k ∧ Keep w wr) (fun i _ => n - (intOf i).toNat)
  case atStart => exact ⟨0, Nat.zero_le _, rfl, Ext.refl _ _⟩
  case round =>
    obtain ⟨j, hj, rfl, hK⟩ := hrel
    by_cases hlt : j < n
    · obtain ⟨b, o, rfl, hd, a0, n0, c0, d0, r0⟩ := HA.out j hlt
      obtain ⟨b', o', rfl, hd', a0', n0', c0', d0', r0'⟩ := HA'.out j hlt
      have x0 := (hK.cell (World.block_lt_of_cell? w _ d0) (fun h => h)).trans d0
      have y0 := (hK.cell (World.block_lt_of_cell? w _ d0') (fun h => h)).trans d0'
      have q0 := (r0.k hK).ext (w' := wr.drew) (Ext.refl (fun _ => False) wr).drew (fun _ _ h => h)
      have q0' := (r0'.k hK).ext (w' := wr.drew) (Ext.refl (fun _ => False) wr).drew (fun _ _ h => h)
      clear d0 d0' r0 r0'
      go_wp2
      go_still_tail 8, (by kernel_rfl)
      change wpList _ _ _ _ _ wr.drew
      go_wp2_with fail
      refine (eqCon _ _ _ _ _ _ _ _ _ _ q0 q0' (eqIntS _)).mono ?_
      rintro e w1 ⟨rfl, p1⟩
      go_wp2_with fail
      go_roundw
      case rel => exact ⟨j + 1, by omega, by go_num, hK.drew.trans p1⟩
      case measure => simp [intOf]; omega
    · go_wp2
      exact fin_ hQ ⟨rfl, hK⟩

set_option maxHeartbeats 1000000 in
theorem eqDecl (D D' : Nat → Prop) (w : World) (z0 : Int) (z1 : Int) (a2 : Option Addr) (n2 c2 : Nat) (a2' : Option Addr) (n2' c2' : Nat) (d2 : Dat) (r2 : Rd w D d2 (.slice a2 n2 c2)) (r2' : Rd w D' d2 (.slice a2' n2' c2')) (k2 : EqC 78 d2) :
    Calls Try.prog 55 #[.agg #[.int .i64 z0, .int .i64 z1, .slice a2 n2 c2], .agg #[.int .i64 z0, .int .i64 z1, .slice a2' n2' c2']] w fun e w' => e = .returned (.bool true) ∧ Keep w w' := by
  refine calls_k fun Q hQ => ?_
  have K : Keep w ((w.alloc (.cells #[.int .i64 z0, .int .i64 z1, .slice a2 n2 c2] 93)).alloc (.cells #[.int .i64 z0, .int .i64 z1, .slice a2' n2' c2'] 93)) := (Keep.al _ _).trans (Keep.al _ _)
  have R0 := (rowOf w #[.int .i64 z0, .int .i64 z1, .slice a2 n2 c2] 93).alloc (.cells #[.int .i64 z0, .int .i64 z1, .slice a2' n2' c2'] 93)
  have R1 := rowOf (w.alloc (.cells #[.int .i64 z0, .int .i64 z1, .slice a2 n2 c2] 93)) #[.int .i64 z0, .int .i64 z1, .slice a2' n2' c2'] 93
  have q2 := r2.k K
  have q2' := r2'.k K
  clear r2 r2'
  simp only [World.size_alloc] at R1
  go_enter Try.func55, Try.ntmps55
  go_wp2_with fail
  refine (k2 _ _ _ _ _ _ _ _ _ q2 q2').mono ?_
  rintro e w1 ⟨rfl, p1⟩
  replace K := K.trans p1
  replace R0 := row_ext R0 p1 (fun h => h)
  replace R1 := row_ext R1 p1 (fun h => h)
  replace q2 := q2.k p1
  replace q2' := q2'.k p1
  have x0 := R0.cell (i := 0) (by simp)
  have y0 := R1.cell (i := 0) (by simp)
  have x1 := R0.cell (i := 1) (by simp)
  have y1 := R1.cell (i := 1) (by simp)
  have x2 := R0.cell (i := 2) (by simp)
  have y2 := R1.cell (i := 2) (by simp)
  simp at x0 y0 x1 y1 x2 y2
  go_wp2_with fail
  exact fin_ hQ ⟨rfl, K⟩

set_option maxRecDepth 100000 in
set_option maxHeartbeats 2000000 in
theorem eqDeclS (xs : List DeclL) : EqC 31 (encDecls xs) := by
  intro a n c a' n' c' D D' w h h'
  refine calls_k fun Q hQ => ?_
  obtain ⟨e1, hnc, hm, hat⟩ := decls_at h
  obtain ⟨e2, _, _, hat'⟩ := decls_at h'
  obtain rfl : n = n' := by omega
  have HL := Lib.hid e1
  have HA := Lib.hid hat
  have HA' := Lib.hid hat'
  clear e1 e2 hat hat' h h'
  go_enter Try.func31, Try.ntmps31
  go_wp2
  go_loopw [5] (fun i wr => ∃ k : Nat, k ≤ n ∧ i = .int .i64 k ∧ Keep w wr) (fun i _ => n - (intOf i).toNat)
  case atStart => exact ⟨0, Nat.zero_le _, rfl, Ext.refl _ _⟩
  case round =>
    obtain ⟨j, hj, rfl, hK⟩ := hrel
    by_cases hlt : j < n
    · obtain ⟨b, o, rfl, hd, a2, n2, c2, d0, d1, d2, r2⟩ := HA.out j hlt
      obtain ⟨b', o', rfl, hd', a2', n2', c2', d0', d1', d2', r2'⟩ := HA'.out j hlt
      have x0 := (hK.cell (World.block_lt_of_cell? w _ d0) (fun h => h)).trans d0
      have y0 := (hK.cell (World.block_lt_of_cell? w _ d0') (fun h => h)).trans d0'
      have x1 := (hK.cell (World.block_lt_of_cell? w _ d1) (fun h => h)).trans d1
      have y1 := (hK.cell (World.block_lt_of_cell? w _ d1') (fun h => h)).trans d1'
      have x2 := (hK.cell (World.block_lt_of_cell? w _ d2) (fun h => h)).trans d2
      have y2 := (hK.cell (World.block_lt_of_cell? w _ d2') (fun h => h)).trans d2'
      have q2 := (r2.k hK).ext (w' := wr.drew) (Ext.refl (fun _ => False) wr).drew (fun _ _ h => h)
      have q2' := (r2'.k hK).ext (w' := wr.drew) (Ext.refl (fun _ => False) wr).drew (fun _ _ h => h)
      clear d0 d0' d1 d1' d2 d2' r2 r2'
      go_wp2
      go_still_tail 8, (by kernel_rfl)
      change wpList _ _ _ _ _ wr.drew
      go_wp2_with fail
      refine (eqDecl _ _ _ _ _ _ _ _ _ _ _ _ q2 q2' (eqConS _)).mono ?_
      rintro e w1 ⟨rfl, p1⟩
      go_wp2_with fail
      go_roundw
      case rel => exact ⟨j + 1, by omega, by go_num, hK.drew.trans p1⟩
      case measure => simp [intOf]; omega
    · go_wp2
      exact fin_ hQ ⟨rfl, hK⟩






set_option maxHeartbeats 1000000 in
theorem eqStep (D D' : Nat → Prop) (w : World) (z0 : Int) (z1 : Int) (z2 : Int) (a3 : Option Addr) (n3 c3 : Nat) (a3' : Option Addr) (n3' c3' : Nat) (d3 : Dat) (a4 : Option Addr) (n4 c4 : Nat) (a4' : Option Addr) (n4' c4' : Nat) (d4 : Dat) (r3 : Rd w D d3 (.slice a3 n3 c3)) (r3' : Rd w D' d3 (.slice a3' n3' c3')) (r4 : Rd w D d4 (.slice a4 n4 c4)) (r4' : Rd w D' d4 (.slice a4' n4' c4')) (k3 : EqC 13 d3) (k4 : EqC 79 d4) :
    Calls Try.prog 57 #[.agg #[.int .i64 z0, .int .i64 z1, .int .i64 z2, .slice a3 n3 c3, .slice a4 n4 c4], .agg #[.int .i64 z0, .int .i64 z1, .int .i64 z2, .slice a3' n3' c3', .slice a4' n4' c4']] w fun e w' => e = .returned (.bool true) ∧ Keep w w' := by
  refine calls_k fun Q hQ => ?_
  have K : Keep w ((w.alloc (.cells #[.int .i64 z0, .int .i64 z1, .int .i64 z2, .slice a3 n3 c3, .slice a4 n4 c4] 89)).alloc (.cells #[.int .i64 z0, .int .i64 z1, .int .i64 z2, .slice a3' n3' c3', .slice a4' n4' c4'] 89)) := (Keep.al _ _).trans (Keep.al _ _)
  have R0 := (rowOf w #[.int .i64 z0, .int .i64 z1, .int .i64 z2, .slice a3 n3 c3, .slice a4 n4 c4] 89).alloc (.cells #[.int .i64 z0, .int .i64 z1, .int .i64 z2, .slice a3' n3' c3', .slice a4' n4' c4'] 89)
  have R1 := rowOf (w.alloc (.cells #[.int .i64 z0, .int .i64 z1, .int .i64 z2, .slice a3 n3 c3, .slice a4 n4 c4] 89)) #[.int .i64 z0, .int .i64 z1, .int .i64 z2, .slice a3' n3' c3', .slice a4' n4' c4'] 89
  have q3 := r3.k K
  have q3' := r3'.k K
  have q4 := r4.k K
  have q4' := r4'.k K
  clear r3 r3' r4 r4'
  simp only [World.size_alloc] at R1
  go_enter Try.func57, Try.ntmps57
  go_wp2_with fail
  refine (k3 _ _ _ _ _ _ _ _ _ q3 q3').mono ?_
  rintro e w1 ⟨rfl, p1⟩
  replace K := K.trans p1
  replace R0 := row_ext R0 p1 (fun h => h)
  replace R1 := row_ext R1 p1 (fun h => h)
  replace q3 := q3.k p1
  replace q3' := q3'.k p1
  replace q4 := q4.k p1
  replace q4' := q4'.k p1
  have x0 := R0.cell (i := 0) (by simp)
  have y0 := R1.cell (i := 0) (by simp)
  have x1 := R0.cell (i := 1) (by simp)
  have y1 := R1.cell (i := 1) (by simp)
  have x2 := R0.cell (i := 2) (by simp)
  have y2 := R1.cell (i := 2) (by simp)
  have x3 := R0.cell (i := 3) (by simp)
  have y3 := R1.cell (i := 3) (by simp)
  have x4 := R0.cell (i := 4) (by simp)
  have y4 := R1.cell (i := 4) (by simp)
  simp at x0 y0 x1 y1 x2 y2 x3 y3 x4 y4
  go_wp2_with fail
  clear x0 y0 x1 y1 x2 y2 x3 y3 x4 y4
  refine (k4 _ _ _ _ _ _ _ _ _ q4 q4').mono ?_
  rintro e w2 ⟨rfl, p2⟩
  replace K := K.trans p2
  replace R0 := row_ext R0 p2 (fun h => h)
  replace R1 := row_ext R1 p2 (fun h => h)
  replace q3 := q3.k p2
  replace q3' := q3'.k p2
  replace q4 := q4.k p2
  replace q4' := q4'.k p2
  have x0 := R0.cell (i := 0) (by simp)
  have y0 := R1.cell (i := 0) (by simp)
  have x1 := R0.cell (i := 1) (by simp)
  have y1 := R1.cell (i := 1) (by simp)
  have x2 := R0.cell (i := 2) (by simp)
  have y2 := R1.cell (i := 2) (by simp)
  have x3 := R0.cell (i := 3) (by simp)
  have y3 := R1.cell (i := 3) (by simp)
  have x4 := R0.cell (i := 4) (by simp)
  have y4 := R1.cell (i := 4) (by simp)
  simp at x0 y0 x1 y1 x2 y2 x3 y3 x4 y4
  go_wp2_with fail
  exact fin_ hQ ⟨rfl, K⟩

set_option maxHeartbeats 1000000 in
theorem eqBlock (D D' : Nat → Prop) (w : World) (a0 : Option Addr) (n0 c0 : Nat) (a0' : Option Addr) (n0' c0' : Nat) (d0 : Dat) (z1 : Int) (r0 : Rd w D d0 (.slice a0 n0 c0)) (r0' : Rd w D' d0 (.slice a0' n0' c0')) (k0 : EqC 33 d0) :
    Calls Try.prog 14 #[.agg #[.slice a0 n0 c0, .int .i64 z1], .agg #[.slice a0' n0' c0', .int .i64 z1]] w fun e w' => e = .returned (.bool true) ∧ Keep w w' := by
  refine calls_k fun Q hQ => ?_
  have K : Keep w ((w.alloc (.cells #[.slice a0 n0 c0, .int .i64 z1] 41)).alloc (.cells #[.slice a0' n0' c0', .int .i64 z1] 41)) := (Keep.al _ _).trans (Keep.al _ _)
  have R0 := (rowOf w #[.slice a0 n0 c0, .int .i64 z1] 41).alloc (.cells #[.slice a0' n0' c0', .int .i64 z1] 41)
  have R1 := rowOf (w.alloc (.cells #[.slice a0 n0 c0, .int .i64 z1] 41)) #[.slice a0' n0' c0', .int .i64 z1] 41
  have q0 := r0.k K
  have q0' := r0'.k K
  clear r0 r0'
  simp only [World.size_alloc] at R1
  go_enter Try.func14, Try.ntmps14
  go_wp2_with fail
  refine (k0 _ _ _ _ _ _ _ _ _ q0 q0').mono ?_
  rintro e w1 ⟨rfl, p1⟩
  replace K := K.trans p1
  replace R0 := row_ext R0 p1 (fun h => h)
  replace R1 := row_ext R1 p1 (fun h => h)
  replace q0 := q0.k p1
  replace q0' := q0'.k p1
  have x0 := R0.cell (i := 0) (by simp)
  have y0 := R1.cell (i := 0) (by simp)
  have x1 := R0.cell (i := 1) (by simp)
  have y1 := R1.cell (i := 1) (by simp)
  simp at x0 y0 x1 y1
  go_wp2_with fail
  exact fin_ hQ ⟨rfl, K⟩

set_option maxRecDepth 100000 in
set_option maxHeartbeats 4000000 in
theorem eqSB_n (N : Nat) : (∀ xs : List StepL, volD (encSteps xs) < N → EqC 33 (encSteps xs)) ∧ (∀ xs : List BlockL, volD (encBlocks xs) < N → EqC 79 (encBlocks xs)) := by
  induction N with
  | zero => exact ⟨fun xs h => by omega, fun xs h => by omega⟩
  | succ N ihN =>
  obtain ⟨ihS, ihB⟩ := ihN
  refine ⟨?_, ?_⟩
  · intro xs hvol a n c a' n' c' D D' w h h'
    have IHStep : ∀ ys : List StepL, volD (encSteps ys) < volD (encSteps xs) → EqC 33 (encSteps ys) := fun ys hy => ihS ys (by omega)
    have IHBlock : ∀ ys : List BlockL, volD (encBlocks ys) < volD (encSteps xs) → EqC 79 (encBlocks ys) := fun ys hy => ihB ys (by omega)
    clear ihS ihB hvol
    refine calls_k fun Q hQ => ?_
    obtain ⟨e1, hnc, hm, hat⟩ := steps_at h
    obtain ⟨e2, _, _, hat'⟩ := steps_at h'
    obtain rfl : n = n' := by omega
    have HL := Lib.hid e1
    have HA := Lib.hid hat
    have HA' := Lib.hid hat'
    clear e1 e2 hat hat' h h'
    go_enter Try.func33, Try.ntmps33
    go_wp2
    go_loopw [5] (fun i wr => ∃ k : Nat, k ≤ n ∧ i = .int .i64 k ∧ Keep w wr) (fun i _ => n - (intOf i).toNat)
    case atStart => exact ⟨0, Nat.zero_le _, rfl, Ext.refl _ _⟩
    case round =>
      obtain ⟨j, hj, rfl, hK⟩ := hrel
      by_cases hlt : j < n
      · obtain ⟨b, o, rfl, hd, a3, n3, c3, a4, n4, c4, d0, d1, d2, d3, d4, r3, r4⟩ := HA.out j hlt
        obtain ⟨b', o', rfl, hd', a3', n3', c3', a4', n4', c4', d0', d1', d2', d3', d4', r3', r4'⟩ := HA'.out j hlt
        have x0 := (hK.cell (World.block_lt_of_cell? w _ d0) (fun h => h)).trans d0
        have y0 := (hK.cell (World.block_lt_of_cell? w _ d0') (fun h => h)).trans d0'
        have x1 := (hK.cell (World.block_lt_of_cell? w _ d1) (fun h => h)).trans d1
        have y1 := (hK.cell (World.block_lt_of_cell? w _ d1') (fun h => h)).trans d1'
        have x2 := (hK.cell (World.block_lt_of_cell? w _ d2) (fun h => h)).trans d2
        have y2 := (hK.cell (World.block_lt_of_cell? w _ d2') (fun h => h)).trans d2'
        have x3 := (hK.cell (World.block_lt_of_cell? w _ d3) (fun h => h)).trans d3
        have y3 := (hK.cell (World.block_lt_of_cell? w _ d3') (fun h => h)).trans d3'
        have x4 := (hK.cell (World.block_lt_of_cell? w _ d4) (fun h => h)).trans d4
        have y4 := (hK.cell (World.block_lt_of_cell? w _ d4') (fun h => h)).trans d4'
        have q3 := (r3.k hK).ext (w' := wr.drew) (Ext.refl (fun _ => False) wr).drew (fun _ _ h => h)
        have q3' := (r3'.k hK).ext (w' := wr.drew) (Ext.refl (fun _ => False) wr).drew (fun _ _ h => h)
        have q4 := (r4.k hK).ext (w' := wr.drew) (Ext.refl (fun _ => False) wr).drew (fun _ _ h => h)
        have q4' := (r4'.k hK).ext (w' := wr.drew) (Ext.refl (fun _ => False) wr).drew (fun _ _ h => h)
        clear d0 d0' d1 d1' d2 d2' d3 d3' d4 d4' r3 r3' r4 r4'
        go_wp2
        go_still_tail 8, (by kernel_rfl)
        change wpList _ _ _ _ _ wr.drew
        go_wp2_with fail
        refine (eqStep _ _ _ _ _ _ _ _ _ _ _ _ _ _ _ _ _ _ _ _ q3 q3' q4 q4' (eqIntS _) (IHBlock _ (by have := vol_lt (s := 5) (rows := (rowsS xs)) (i := j) (j := 4) (by rw [steps_len]; have := HL.out; omega) (by rw [steps_row xs j (by have := HL.out; omega)]; simp); rw [rAt, steps_row xs j (by have := HL.out; omega)] at this; simp only [dGet, List.getD, List.getElem?_cons_succ, List.getElem?_cons_zero, Option.getD_some] at this; exact this))).mono ?_
        rintro e w1 ⟨rfl, p1⟩
        go_wp2_with fail
        go_roundw
        case rel => exact ⟨j + 1, by omega, by go_num, hK.drew.trans p1⟩
        case measure => simp [intOf]; omega
      · go_wp2
        exact fin_ hQ ⟨rfl, hK⟩
  · intro xs hvol a n c a' n' c' D D' w h h'
    have IHStep : ∀ ys : List StepL, volD (encSteps ys) < volD (encBlocks xs) → EqC 33 (encSteps ys) := fun ys hy => ihS ys (by omega)
    have IHBlock : ∀ ys : List BlockL, volD (encBlocks ys) < volD (encBlocks xs) → EqC 79 (encBlocks ys) := fun ys hy => ihB ys (by omega)
    clear ihS ihB hvol
    refine calls_k fun Q hQ => ?_
    obtain ⟨e1, hnc, hm, hat⟩ := blocks_at h
    obtain ⟨e2, _, _, hat'⟩ := blocks_at h'
    obtain rfl : n = n' := by omega
    have HL := Lib.hid e1
    have HA := Lib.hid hat
    have HA' := Lib.hid hat'
    clear e1 e2 hat hat' h h'
    go_enter Try.func79, Try.ntmps79
    go_wp2
    go_loopw [5] (fun i wr => ∃ k : Nat, k ≤ n ∧ i = .int .i64 k ∧ Keep w wr) (fun i _ => n - (intOf i).toNat)
    case atStart => exact ⟨0, Nat.zero_le _, rfl, Ext.refl _ _⟩
    case round =>
      obtain ⟨j, hj, rfl, hK⟩ := hrel
      by_cases hlt : j < n
      · obtain ⟨b, o, rfl, hd, a0, n0, c0, d0, d1, r0⟩ := HA.out j hlt
        obtain ⟨b', o', rfl, hd', a0', n0', c0', d0', d1', r0'⟩ := HA'.out j hlt
        have x0 := (hK.cell (World.block_lt_of_cell? w _ d0) (fun h => h)).trans d0
        have y0 := (hK.cell (World.block_lt_of_cell? w _ d0') (fun h => h)).trans d0'
        have x1 := (hK.cell (World.block_lt_of_cell? w _ d1) (fun h => h)).trans d1
        have y1 := (hK.cell (World.block_lt_of_cell? w _ d1') (fun h => h)).trans d1'
        have q0 := (r0.k hK).ext (w' := wr.drew) (Ext.refl (fun _ => False) wr).drew (fun _ _ h => h)
        have q0' := (r0'.k hK).ext (w' := wr.drew) (Ext.refl (fun _ => False) wr).drew (fun _ _ h => h)
        clear d0 d0' d1 d1' r0 r0'
        go_wp2
        go_still_tail 8, (by kernel_rfl)
        change wpList _ _ _ _ _ wr.drew
        go_wp2_with fail
        refine (eqBlock _ _ _ _ _ _ _ _ _ _ _ q0 q0' (IHStep _ (by have := vol_lt (s := 2) (rows := (rowsB xs)) (i := j) (j := 0) (by rw [blocks_len]; have := HL.out; omega) (by rw [blocks_row xs j (by have := HL.out; omega)]; simp); rw [rAt, blocks_row xs j (by have := HL.out; omega)] at this; simp only [dGet, List.getD, List.getElem?_cons_zero, Option.getD_some] at this; exact this))).mono ?_
        rintro e w1 ⟨rfl, p1⟩
        go_wp2_with fail
        go_roundw
        case rel => exact ⟨j + 1, by omega, by go_num, hK.drew.trans p1⟩
        case measure => simp [intOf]; omega
      · go_wp2
        exact fin_ hQ ⟨rfl, hK⟩
theorem eqStepS (xs : List StepL) : EqC 33 (encSteps xs) := (eqSB_n _).1 xs (Nat.lt_succ_self _)
theorem eqBlockS (xs : List BlockL) : EqC 79 (encBlocks xs) := (eqSB_n _).2 xs (Nat.lt_succ_self _)

set_option maxHeartbeats 1000000 in
theorem eqRoutine (D D' : Nat → Prop) (w : World) (a0 : Option Addr) (n0 c0 : Nat) (a0' : Option Addr) (n0' c0' : Nat) (d0 : Dat) (a1 : Option Addr) (n1 c1 : Nat) (a1' : Option Addr) (n1' c1' : Nat) (d1 : Dat) (z2 : Int) (a3 : Option Addr) (n3 c3 : Nat) (a3' : Option Addr) (n3' c3' : Nat) (d3 : Dat) (z4 : Int) (r0 : Rd w D d0 (.slice a0 n0 c0)) (r0' : Rd w D' d0 (.slice a0' n0' c0')) (r1 : Rd w D d1 (.slice a1 n1 c1)) (r1' : Rd w D' d1 (.slice a1' n1' c1')) (r3 : Rd w D d3 (.slice a3 n3 c3)) (r3' : Rd w D' d3 (.slice a3' n3' c3')) (k0 : EqC 13 d0) (k1 : EqC 13 d1) (k3 : EqC 33 d3) :
    Calls Try.prog 56 #[.agg #[.slice a0 n0 c0, .slice a1 n1 c1, .int .i64 z2, .slice a3 n3 c3, .int .i64 z4], .agg #[.slice a0' n0' c0', .slice a1' n1' c1', .int .i64 z2, .slice a3' n3' c3', .int .i64 z4]] w fun e w' => e = .returned (.bool true) ∧ Keep w w' := by
  refine calls_k fun Q hQ => ?_
  have K : Keep w ((w.alloc (.cells #[.slice a0 n0 c0, .slice a1 n1 c1, .int .i64 z2, .slice a3 n3 c3, .int .i64 z4] 67)).alloc (.cells #[.slice a0' n0' c0', .slice a1' n1' c1', .int .i64 z2, .slice a3' n3' c3', .int .i64 z4] 67)) := (Keep.al _ _).trans (Keep.al _ _)
  have R0 := (rowOf w #[.slice a0 n0 c0, .slice a1 n1 c1, .int .i64 z2, .slice a3 n3 c3, .int .i64 z4] 67).alloc (.cells #[.slice a0' n0' c0', .slice a1' n1' c1', .int .i64 z2, .slice a3' n3' c3', .int .i64 z4] 67)
  have R1 := rowOf (w.alloc (.cells #[.slice a0 n0 c0, .slice a1 n1 c1, .int .i64 z2, .slice a3 n3 c3, .int .i64 z4] 67)) #[.slice a0' n0' c0', .slice a1' n1' c1', .int .i64 z2, .slice a3' n3' c3', .int .i64 z4] 67
  have q0 := r0.k K
  have q0' := r0'.k K
  have q1 := r1.k K
  have q1' := r1'.k K
  have q3 := r3.k K
  have q3' := r3'.k K
  clear r0 r0' r1 r1' r3 r3'
  simp only [World.size_alloc] at R1
  go_enter Try.func56, Try.ntmps56
  go_wp2_with fail
  refine (k0 _ _ _ _ _ _ _ _ _ q0 q0').mono ?_
  rintro e w1 ⟨rfl, p1⟩
  replace K := K.trans p1
  replace R0 := row_ext R0 p1 (fun h => h)
  replace R1 := row_ext R1 p1 (fun h => h)
  replace q0 := q0.k p1
  replace q0' := q0'.k p1
  replace q1 := q1.k p1
  replace q1' := q1'.k p1
  replace q3 := q3.k p1
  replace q3' := q3'.k p1
  have x0 := R0.cell (i := 0) (by simp)
  have y0 := R1.cell (i := 0) (by simp)
  have x1 := R0.cell (i := 1) (by simp)
  have y1 := R1.cell (i := 1) (by simp)
  have x2 := R0.cell (i := 2) (by simp)
  have y2 := R1.cell (i := 2) (by simp)
  have x3 := R0.cell (i := 3) (by simp)
  have y3 := R1.cell (i := 3) (by simp)
  have x4 := R0.cell (i := 4) (by simp)
  have y4 := R1.cell (i := 4) (by simp)
  simp at x0 y0 x1 y1 x2 y2 x3 y3 x4 y4
  go_wp2_with fail
  clear x0 y0 x1 y1 x2 y2 x3 y3 x4 y4
  refine (k1 _ _ _ _ _ _ _ _ _ q1 q1').mono ?_
  rintro e w2 ⟨rfl, p2⟩
  replace K := K.trans p2
  replace R0 := row_ext R0 p2 (fun h => h)
  replace R1 := row_ext R1 p2 (fun h => h)
  replace q0 := q0.k p2
  replace q0' := q0'.k p2
  replace q1 := q1.k p2
  replace q1' := q1'.k p2
  replace q3 := q3.k p2
  replace q3' := q3'.k p2
  have x0 := R0.cell (i := 0) (by simp)
  have y0 := R1.cell (i := 0) (by simp)
  have x1 := R0.cell (i := 1) (by simp)
  have y1 := R1.cell (i := 1) (by simp)
  have x2 := R0.cell (i := 2) (by simp)
  have y2 := R1.cell (i := 2) (by simp)
  have x3 := R0.cell (i := 3) (by simp)
  have y3 := R1.cell (i := 3) (by simp)
  have x4 := R0.cell (i := 4) (by simp)
  have y4 := R1.cell (i := 4) (by simp)
  simp at x0 y0 x1 y1 x2 y2 x3 y3 x4 y4
  go_wp2_with fail
  clear x0 y0 x1 y1 x2 y2 x3 y3 x4 y4
  refine (eqBlock _ _ _ _ _ _ _ _ _ _ _ q3 q3' k3).mono ?_
  rintro e w3 ⟨rfl, p3⟩
  replace K := K.trans p3
  replace R0 := row_ext R0 p3 (fun h => h)
  replace R1 := row_ext R1 p3 (fun h => h)
  replace q0 := q0.k p3
  replace q0' := q0'.k p3
  replace q1 := q1.k p3
  replace q1' := q1'.k p3
  replace q3 := q3.k p3
  replace q3' := q3'.k p3
  have x0 := R0.cell (i := 0) (by simp)
  have y0 := R1.cell (i := 0) (by simp)
  have x1 := R0.cell (i := 1) (by simp)
  have y1 := R1.cell (i := 1) (by simp)
  have x2 := R0.cell (i := 2) (by simp)
  have y2 := R1.cell (i := 2) (by simp)
  have x3 := R0.cell (i := 3) (by simp)
  have y3 := R1.cell (i := 3) (by simp)
  have x4 := R0.cell (i := 4) (by simp)
  have y4 := R1.cell (i := 4) (by simp)
  simp at x0 y0 x1 y1 x2 y2 x3 y3 x4 y4
  go_wp2_with fail
  exact fin_ hQ ⟨rfl, K⟩

set_option maxRecDepth 100000 in
set_option maxHeartbeats 2000000 in
theorem eqRoutineS (xs : List RoutL) : EqC 32 (encRouts xs) := by
  intro a n c a' n' c' D D' w h h'
  refine calls_k fun Q hQ => ?_
  obtain ⟨e1, hnc, hm, hat⟩ := routs_at h
  obtain ⟨e2, _, _, hat'⟩ := routs_at h'
  obtain rfl : n = n' := by omega
  have HL := Lib.hid e1
  have HA := Lib.hid hat
  have HA' := Lib.hid hat'
  clear e1 e2 hat hat' h h'
  go_enter Try.func32, Try.ntmps32
  go_wp2
  go_loopw [5] (fun i wr => ∃ k : Nat, k ≤ n ∧ i = .int .i64 k ∧ Keep w wr) (fun i _ => n - (intOf i).toNat)
  case atStart => exact ⟨0, Nat.zero_le _, rfl, Ext.refl _ _⟩
  case round =>
    obtain ⟨j, hj, rfl, hK⟩ := hrel
    by_cases hlt : j < n
    · obtain ⟨b, o, rfl, hd, a0, n0, c0, a1, n1, c1, a3, n3, c3, d0, d1, d2, d3, d4, r0, r1, r3⟩ := HA.out j hlt
      obtain ⟨b', o', rfl, hd', a0', n0', c0', a1', n1', c1', a3', n3', c3', d0', d1', d2', d3', d4', r0', r1', r3'⟩ := HA'.out j hlt
      have x0 := (hK.cell (World.block_lt_of_cell? w _ d0) (fun h => h)).trans d0
      have y0 := (hK.cell (World.block_lt_of_cell? w _ d0') (fun h => h)).trans d0'
      have x1 := (hK.cell (World.block_lt_of_cell? w _ d1) (fun h => h)).trans d1
      have y1 := (hK.cell (World.block_lt_of_cell? w _ d1') (fun h => h)).trans d1'
      have x2 := (hK.cell (World.block_lt_of_cell? w _ d2) (fun h => h)).trans d2
      have y2 := (hK.cell (World.block_lt_of_cell? w _ d2') (fun h => h)).trans d2'
      have x3 := (hK.cell (World.block_lt_of_cell? w _ d3) (fun h => h)).trans d3
      have y3 := (hK.cell (World.block_lt_of_cell? w _ d3') (fun h => h)).trans d3'
      have x4 := (hK.cell (World.block_lt_of_cell? w _ d4) (fun h => h)).trans d4
      have y4 := (hK.cell (World.block_lt_of_cell? w _ d4') (fun h => h)).trans d4'
      have q0 := (r0.k hK).ext (w' := wr.drew) (Ext.refl (fun _ => False) wr).drew (fun _ _ h => h)
      have q0' := (r0'.k hK).ext (w' := wr.drew) (Ext.refl (fun _ => False) wr).drew (fun _ _ h => h)
      have q1 := (r1.k hK).ext (w' := wr.drew) (Ext.refl (fun _ => False) wr).drew (fun _ _ h => h)
      have q1' := (r1'.k hK).ext (w' := wr.drew) (Ext.refl (fun _ => False) wr).drew (fun _ _ h => h)
      have q3 := (r3.k hK).ext (w' := wr.drew) (Ext.refl (fun _ => False) wr).drew (fun _ _ h => h)
      have q3' := (r3'.k hK).ext (w' := wr.drew) (Ext.refl (fun _ => False) wr).drew (fun _ _ h => h)
      clear d0 d0' d1 d1' d2 d2' d3 d3' d4 d4' r0 r0' r1 r1' r3 r3'
      go_wp2
      go_still_tail 8, (by kernel_rfl)
      change wpList _ _ _ _ _ wr.drew
      go_wp2_with fail
      refine (eqRoutine _ _ _ _ _ _ _ _ _ _ _ _ _ _ _ _ _ _ _ _ _ _ _ _ _ _ q0 q0' q1 q1' q3 q3' (eqIntS _) (eqIntS _) (eqStepS _)).mono ?_
      rintro e w1 ⟨rfl, p1⟩
      go_wp2_with fail
      go_roundw
      case rel => exact ⟨j + 1, by omega, by go_num, hK.drew.trans p1⟩
      case measure => simp [intOf]; omega
    · go_wp2
      exact fin_ hQ ⟨rfl, hK⟩

set_option maxHeartbeats 1000000 in
theorem eqNormal (D D' : Nat → Prop) (w : World) (a0 : Option Addr) (n0 c0 : Nat) (a0' : Option Addr) (n0' c0' : Nat) (d0 : Dat) (a1 : Option Addr) (n1 c1 : Nat) (a1' : Option Addr) (n1' c1' : Nat) (d1 : Dat) (r0 : Rd w D d0 (.slice a0 n0 c0)) (r0' : Rd w D' d0 (.slice a0' n0' c0')) (r1 : Rd w D d1 (.slice a1 n1 c1)) (r1' : Rd w D' d1 (.slice a1' n1' c1')) (k0 : EqC 31 d0) (k1 : EqC 32 d1) :
    Calls Try.prog 12 #[.agg #[.slice a0 n0 c0, .slice a1 n1 c1], .agg #[.slice a0' n0' c0', .slice a1' n1' c1']] w fun e w' => e = .returned (.bool true) ∧ Keep w w' := by
  refine calls_k fun Q hQ => ?_
  have K : Keep w ((w.alloc (.cells #[.slice a0 n0 c0, .slice a1 n1 c1] 36)).alloc (.cells #[.slice a0' n0' c0', .slice a1' n1' c1'] 36)) := (Keep.al _ _).trans (Keep.al _ _)
  have R0 := (rowOf w #[.slice a0 n0 c0, .slice a1 n1 c1] 36).alloc (.cells #[.slice a0' n0' c0', .slice a1' n1' c1'] 36)
  have R1 := rowOf (w.alloc (.cells #[.slice a0 n0 c0, .slice a1 n1 c1] 36)) #[.slice a0' n0' c0', .slice a1' n1' c1'] 36
  have q0 := r0.k K
  have q0' := r0'.k K
  have q1 := r1.k K
  have q1' := r1'.k K
  clear r0 r0' r1 r1'
  simp only [World.size_alloc] at R1
  go_enter Try.func12, Try.ntmps12
  go_wp2_with fail
  refine (k0 _ _ _ _ _ _ _ _ _ q0 q0').mono ?_
  rintro e w1 ⟨rfl, p1⟩
  replace K := K.trans p1
  replace R0 := row_ext R0 p1 (fun h => h)
  replace R1 := row_ext R1 p1 (fun h => h)
  replace q0 := q0.k p1
  replace q0' := q0'.k p1
  replace q1 := q1.k p1
  replace q1' := q1'.k p1
  have x0 := R0.cell (i := 0) (by simp)
  have y0 := R1.cell (i := 0) (by simp)
  have x1 := R0.cell (i := 1) (by simp)
  have y1 := R1.cell (i := 1) (by simp)
  simp at x0 y0 x1 y1
  go_wp2_with fail
  clear x0 y0 x1 y1
  refine (k1 _ _ _ _ _ _ _ _ _ q1 q1').mono ?_
  rintro e w2 ⟨rfl, p2⟩
  replace K := K.trans p2
  replace R0 := row_ext R0 p2 (fun h => h)
  replace R1 := row_ext R1 p2 (fun h => h)
  replace q0 := q0.k p2
  replace q0' := q0'.k p2
  replace q1 := q1.k p2
  replace q1' := q1'.k p2
  have x0 := R0.cell (i := 0) (by simp)
  have y0 := R1.cell (i := 0) (by simp)
  have x1 := R0.cell (i := 1) (by simp)
  have y1 := R1.cell (i := 1) (by simp)
  simp at x0 y0 x1 y1
  go_wp2_with fail
  exact fin_ hQ ⟨rfl, K⟩

end Go.Proofs.Ytmekdccgjgfiaaa
/- The exact law FnExactBlockType: the walk. -/
namespace Go.Proofs.Ytmekdccgjgfiaaa
open Go.RowKit

set_option linter.unusedVariables false
set_option maxRecDepth 100000 in
set_option maxHeartbeats 4000000 in
theorem fnExactBlockType_walk (ds : List DeclL) (rs : List RoutL) (a0 : Option Addr) (n0 c0 : Nat) (a1 : Option Addr) (n1 c1 : Nat) (xs : List Int) (a9 : Option Addr) (n9 c9 : Nat) (ss : List StepL) (res : Int) (a4 : Option Addr) (n4 c4 : Nat) (w : World) (s0 : Rd w (fun _ => True) (encDecls ds) (.slice a0 n0 c0)) (s1 : Rd w (fun _ => True) (encRouts rs) (.slice a1 n1 c1)) (s9 : Rd w (fun _ => True) (encInts xs) (.slice a9 n9 c9)) (s4 : Rd w (fun _ => True) (encSteps ss) (.slice a4 n4 c4)) (hfit : fitSs ss) :
    Calls Try.prog 3 #[.agg #[.slice a0 n0 c0, .slice a1 n1 c1], .slice a9 n9 c9, .agg #[.slice a4 n4 c4, .int .i64 res]] w fun e w' => e = .returned (.bool true) ∧ Keep w w' := by
  refine calls_k fun Q hQ => ?_
  have HFT := Lib.hid hfit
  clear hfit
  have K := (Keep.al w (.cells #[.slice a0 n0 c0, .slice a1 n1 c1] 25)).trans (Keep.al _ (.cells #[.slice a4 n4 c4, .int .i64 res] 29))
  have e9 : xs.length = n9 := (ints_at s9).1
  have X9 : szD (encInts xs) = n9 := by rw [encInts, szD, szRR_ints, List.length_map, Nat.add_zero]; exact e9
  by_cases hl : 1048576 < n9
  · clear e9 X9
    go_enter Try.func3, Try.ntmps3
    go_wp2_with fail
    exact fin_ hQ ⟨rfl, K⟩
  have hz9 : szD (encInts xs) ≤ 1048576 := by omega
  have hn9 : n9 ≤ 1048576 := by omega
  clear e9 X9
  replace s0 := s0.k K
  replace s1 := s1.k K
  replace s9 := s9.k K
  replace s4 := s4.k K
  by_cases hs : (1048576 : Int) < ((szD (encDecls ds) + szD (encRouts rs) : Nat) : Int)
  · have V : Hid (szo (szD (encDecls ds) + szD (encRouts rs)) 1048576 = -1) := szo_no (by omega)
    go_enter Try.func3, Try.ntmps3
    go_wp2_with fail
    refine (szNormal _ _ _ _ _ _ _ _ _ _ _ s0 s1 (szDeclS _) (szRoutineS _) (by omega) (by omega)).mono ?_
    rw [V.out]
    rintro e w1 ⟨rfl, p1⟩
    go_wp2_with fail
    exact fin_ hQ ⟨rfl, K.trans p1⟩
  have hz0 : szD (encDecls ds) ≤ 1048576 := by omega
  have hz1 : szD (encRouts rs) ≤ 1048576 := by omega
  obtain ⟨lf, hlf⟩ : ∃ lf : Int, 1048576 - ((szD (encDecls ds) : Int) + (szD (encRouts rs) : Int)) = lf := ⟨_, rfl⟩
  have V : Hid (szo (szD (encDecls ds) + szD (encRouts rs)) 1048576 = lf) := by show _ = _; rw [szo_yes (by omega)]; omega
  have t0 : 0 ≤ lf := by omega
  have t1 : lf ≤ 1048576 := by omega
  clear hlf hs
  by_cases hs2 : lf < ((szD (encSteps ss) : Nat) : Int)
  · have V2 : Hid (szo (szD (encSteps ss)) lf = -1) := szo_no (by omega)
    have bk1 := (rowOf w #[.slice a0 n0 c0, .slice a1 n1 c1] 25).alloc (.cells #[.slice a4 n4 c4, .int .i64 res] 29)
    have bk2 := rowOf (w.alloc (.cells #[.slice a0 n0 c0, .slice a1 n1 c1] 25)) #[.slice a4 n4 c4, .int .i64 res] 29
    simp only [World.size_alloc] at bk2
    go_enter Try.func3, Try.ntmps3
    go_wp2_with fail
    refine (szNormal _ _ _ _ _ _ _ _ _ _ _ s0 s1 (szDeclS _) (szRoutineS _) (by omega) (by omega)).mono ?_
    rw [V.out]
    rintro e w1 ⟨rfl, p1⟩
    replace K := K.trans p1
    replace bk1 := row_ext bk1 p1 (fun h => h)
    replace bk2 := row_ext bk2 p1 (fun h => h)
    replace s0 := s0.k p1
    replace s1 := s1.k p1
    replace s9 := s9.k p1
    replace s4 := s4.k p1
    have x0 := bk1.cell (i := 0) (by simp)
    have x1 := bk1.cell (i := 1) (by simp)
    simp at x0 x1
    have y0 := bk2.cell (i := 0) (by simp)
    have y1 := bk2.cell (i := 1) (by simp)
    simp at y0 y1
    go_wp2_with fail
    refine (szBlock _ _ _ _ _ _ _ _ s4 (szStepS _) (by omega) (by omega)).mono ?_
    rw [V2.out]
    rintro e w2 ⟨rfl, p2⟩
    clear x0 x1
    clear y0 y1
    replace K := K.trans p2
    replace bk1 := row_ext bk1 p2 (fun h => h)
    replace bk2 := row_ext bk2 p2 (fun h => h)
    replace s0 := s0.k p2
    replace s1 := s1.k p2
    replace s9 := s9.k p2
    replace s4 := s4.k p2
    go_wp2_with fail
    exact fin_ hQ ⟨rfl, K⟩
  have hz4 : szD (encSteps ss) ≤ 1048576 := by omega
  obtain ⟨lf2, hlf2⟩ : ∃ l : Int, lf - ((szD (encSteps ss) : Int)) = l := ⟨_, rfl⟩
  have V2 : Hid (szo (szD (encSteps ss)) lf = lf2) := by show _ = _; rw [szo_yes (by omega)]; omega
  have t2 : 0 ≤ lf2 := by omega
  clear hlf2 hs2
  obtain ⟨z, hz⟩ : ∃ z, blkTop ds rs xs res ss = z := ⟨_, rfl⟩
  have HZ := Lib.hid hz
  clear hz
  have bk1 := (rowOf w #[.slice a0 n0 c0, .slice a1 n1 c1] 25).alloc (.cells #[.slice a4 n4 c4, .int .i64 res] 29)
  have bk2 := rowOf (w.alloc (.cells #[.slice a0 n0 c0, .slice a1 n1 c1] 25)) #[.slice a4 n4 c4, .int .i64 res] 29
  simp only [World.size_alloc] at bk2
  go_enter Try.func3, Try.ntmps3
  go_wp2_with fail
  refine (szNormal _ _ _ _ _ _ _ _ _ _ _ s0 s1 (szDeclS _) (szRoutineS _) (by omega) (by omega)).mono ?_
  rw [V.out]
  rintro e w1 ⟨rfl, p1⟩
  replace K := K.trans p1
  replace bk1 := row_ext bk1 p1 (fun h => h)
  replace bk2 := row_ext bk2 p1 (fun h => h)
  replace s0 := s0.k p1
  replace s1 := s1.k p1
  replace s9 := s9.k p1
  replace s4 := s4.k p1
  have x0 := bk1.cell (i := 0) (by simp)
  have x1 := bk1.cell (i := 1) (by simp)
  simp at x0 x1
  have y0 := bk2.cell (i := 0) (by simp)
  have y1 := bk2.cell (i := 1) (by simp)
  simp at y0 y1
  go_wp2_with fail
  refine (szBlock _ _ _ _ _ _ _ _ s4 (szStepS _) (by omega) (by omega)).mono ?_
  rw [V2.out]
  rintro e w2 ⟨rfl, p2⟩
  clear x0 x1
  clear y0 y1
  replace K := K.trans p2
  replace bk1 := row_ext bk1 p2 (fun h => h)
  replace bk2 := row_ext bk2 p2 (fun h => h)
  replace s0 := s0.k p2
  replace s1 := s1.k p2
  replace s9 := s9.k p2
  replace s4 := s4.k p2
  have x0 := bk1.cell (i := 0) (by simp)
  have x1 := bk1.cell (i := 1) (by simp)
  simp at x0 x1
  have y0 := bk2.cell (i := 0) (by simp)
  have y1 := bk2.cell (i := 1) (by simp)
  simp at y0 y1
  have s0d := s0.k (w' := w2.drew) (Ext.refl (fun _ => False) w2).drew
  have s1d := s1.k (w' := w2.drew) (Ext.refl (fun _ => False) w2).drew
  have s9d := s9.k (w' := w2.drew) (Ext.refl (fun _ => False) w2).drew
  have s4d := s4.k (w' := w2.drew) (Ext.refl (fun _ => False) w2).drew
  have pc := Ext.refl0 w2
  go_wp2_with fail
  go_region_held3 (fun w' => w'.cell? ⟨w.heap.size, 0, none⟩ = some (.slice a0 n0 c0) ∧ w'.cell? ⟨w.heap.size, 1, none⟩ = some (.slice a1 n1 c1) ∧ w'.cell? ⟨w.heap.size + 1, 0, none⟩ = some (.slice a4 n4 c4) ∧ w'.cell? ⟨w.heap.size + 1, 1, none⟩ = some (.int .i64 res))
    (first | exact ⟨Keep.at pc x0, Keep.at pc x1, Keep.at pc y0, Keep.at pc y1⟩ | go_keep)
    (first
      | (go_at_call 8; refine (toNormal _ _ _ _ _ _ _ _ _ _ (s0d.k pc) hz0 (s1d.k pc) hz1 (toDeclS _) (toRoutineS _)).mono ?_; rintro e wa ⟨b0q, b1q, rfl, tsa, pa⟩; replace pc := pc.trans pa; have g0q := (tsa.get 0 _ _ rfl rfl).read; have g1q := (tsa.get 1 _ _ rfl rfl).read; clear tsa)
      | (go_at_call 9; refine (toIntS xs _ _ _ _ _ (s9d.k pc) hz9).mono ?_; rintro e wb ⟨b9q, rfl, owb, pb⟩; replace pc := pc.trans pb; replace g0q := g0q.k pb; replace g1q := g1q.k pb; have g9q := owb.read; clear owb)
      | (go_at_call 10; refine (toBlock _ _ _ _ _ _ _ (s4d.k pc) hz4 (toStepS _)).mono ?_; rintro e wc ⟨b4q, rfl, tsc, pd⟩; replace pc := pc.trans pd; replace g0q := g0q.k pd; replace g1q := g1q.k pd; replace g9q := g9q.k pd; have g4q := (tsc.get 0 _ _ rfl rfl).read; clear tsc)
      | (go_at_call 7; refine (specBlockTop ds rs _ _ _ _ _ _ _ _ _ xs res ss _ _ _ _ _ _ _ _ g0q g1q g9q hn9 g4q).mono ?_; rw [HZ.out]; rintro e w3 ⟨rfl, p3⟩; replace pc := pc.trans p3))
  have q3 := Keep.dt pc
  clear pc x0 x1 y0 y1 s0d s1d s9d s4d
  replace K := K.trans q3
  replace bk1 := row_ext bk1 q3 (fun h => h)
  replace bk2 := row_ext bk2 q3 (fun h => h)
  replace s0 := s0.k q3
  replace s1 := s1.k q3
  replace s9 := s9.k q3
  replace s4 := s4.k q3
  have x0 := bk1.cell (i := 0) (by simp)
  have x1 := bk1.cell (i := 1) (by simp)
  simp at x0 x1
  go_wp2_with fail
  refine (toNormal _ _ _ _ _ _ _ _ _ _ s0 hz0 s1 hz1 (toDeclS _) (toRoutineS _)).mono ?_
  rintro e w4 ⟨b0x, b1x, rfl, tsx, p4⟩
  have g0x := (tsx.get 0 _ _ rfl rfl).read
  have g1x := (tsx.get 1 _ _ rfl rfl).read
  clear tsx
  clear x0 x1
  replace K := K.trans p4
  replace bk1 := row_ext bk1 p4 (fun h => h)
  replace bk2 := row_ext bk2 p4 (fun h => h)
  replace s0 := s0.k p4
  replace s1 := s1.k p4
  replace s9 := s9.k p4
  replace s4 := s4.k p4
  have k4 := Keep.al w4 (.cells #[.slice b0x n0 n0, .slice b1x n1 n1] 36)
  replace K := K.trans k4
  replace bk1 := row_ext bk1 k4 (fun h => h)
  replace bk2 := row_ext bk2 k4 (fun h => h)
  replace s0 := s0.k k4
  replace s1 := s1.k k4
  replace s9 := s9.k k4
  replace s4 := s4.k k4
  replace g0x := g0x.k k4
  replace g1x := g1x.k k4
  have bx1 := rowOf w4 #[.slice b0x n0 n0, .slice b1x n1 n1] 36
  go_wp2_with fail
  refine (toIntS xs _ _ _ _ _ s9 hz9).mono ?_
  rintro e w5 ⟨b9x, rfl, ow5, p5⟩
  have g9x := ow5.read
  clear ow5
  replace K := K.trans p5
  replace bk1 := row_ext bk1 p5 (fun h => h)
  replace bk2 := row_ext bk2 p5 (fun h => h)
  replace bx1 := row_ext bx1 p5 (fun h => h)
  replace s0 := s0.k p5
  replace s1 := s1.k p5
  replace s9 := s9.k p5
  replace s4 := s4.k p5
  replace g0x := g0x.k p5
  replace g1x := g1x.k p5
  have y0 := bk2.cell (i := 0) (by simp)
  have y1 := bk2.cell (i := 1) (by simp)
  simp at y0 y1
  go_wp2_with fail
  refine (toBlock _ _ _ _ _ _ _ s4 hz4 (toStepS _)).mono ?_
  rintro e w6 ⟨b4x, rfl, tsy, p6⟩
  have g4x := (tsy.get 0 _ _ rfl rfl).read
  clear tsy
  clear y0 y1
  replace K := K.trans p6
  replace bk1 := row_ext bk1 p6 (fun h => h)
  replace bk2 := row_ext bk2 p6 (fun h => h)
  replace bx1 := row_ext bx1 p6 (fun h => h)
  replace s0 := s0.k p6
  replace s1 := s1.k p6
  replace s9 := s9.k p6
  replace s4 := s4.k p6
  replace g0x := g0x.k p6
  replace g1x := g1x.k p6
  replace g9x := g9x.k p6
  have k6 := Keep.al w6 (.cells #[.slice b4x n4 n4, .int .i64 res] 41)
  replace K := K.trans k6
  replace bk1 := row_ext bk1 k6 (fun h => h)
  replace bk2 := row_ext bk2 k6 (fun h => h)
  replace bx1 := row_ext bx1 k6 (fun h => h)
  replace s0 := s0.k k6
  replace s1 := s1.k k6
  replace s9 := s9.k k6
  replace s4 := s4.k k6
  replace g0x := g0x.k k6
  replace g1x := g1x.k k6
  replace g9x := g9x.k k6
  replace g4x := g4x.k k6
  have bx2 := rowOf w6 #[.slice b4x n4 n4, .int .i64 res] 41
  have x0 := bx1.cell (i := 0) (by simp)
  have x1 := bx1.cell (i := 1) (by simp)
  simp at x0 x1
  have y0 := bx2.cell (i := 0) (by simp)
  have y1 := bx2.cell (i := 1) (by simp)
  simp at y0 y1
  go_wp2_with fail
  refine (implBlockTop ds rs _ _ _ _ _ _ _ _ _ xs res ss _ _ _ _ _ _ _ _ g0x g1x g9x hn9 g4x (okSs_of HFT.out hz4)).mono ?_
  rw [HZ.out]
  rintro e w7 ⟨rfl, p7⟩
  clear x0 x1
  clear y0 y1
  replace K := K.trans p7
  replace bk1 := row_ext bk1 p7 (fun h => h)
  replace bk2 := row_ext bk2 p7 (fun h => h)
  replace bx1 := row_ext bx1 p7 (fun h => h)
  replace bx2 := row_ext bx2 p7 (fun h => h)
  replace s0 := s0.k p7
  replace s1 := s1.k p7
  replace s9 := s9.k p7
  replace s4 := s4.k p7
  replace g0x := g0x.k p7
  replace g1x := g1x.k p7
  replace g9x := g9x.k p7
  replace g4x := g4x.k p7
  have hzz : (z != z) = false := by simp
  have x0 := bk1.cell (i := 0) (by simp)
  have x1 := bk1.cell (i := 1) (by simp)
  simp at x0 x1
  have y0 := bx1.cell (i := 0) (by simp)
  have y1 := bx1.cell (i := 1) (by simp)
  simp at y0 y1
  have s0d := s0.k (w' := w7.drew) (Ext.refl (fun _ => False) w7).drew
  have g0d := g0x.k (w' := w7.drew) (Ext.refl (fun _ => False) w7).drew
  have s1d := s1.k (w' := w7.drew) (Ext.refl (fun _ => False) w7).drew
  have g1d := g1x.k (w' := w7.drew) (Ext.refl (fun _ => False) w7).drew
  have pc := Ext.refl0 w7
  go_wp2_with fail
  go_region_held3 (fun w' => w'.cell? ⟨w.heap.size, 0, none⟩ = some (.slice a0 n0 c0) ∧ w'.cell? ⟨w.heap.size, 1, none⟩ = some (.slice a1 n1 c1) ∧ w'.cell? ⟨w4.heap.size, 0, none⟩ = some (.slice b0x n0 n0) ∧ w'.cell? ⟨w4.heap.size, 1, none⟩ = some (.slice b1x n1 n1))
    (first | exact ⟨Keep.at pc x0, Keep.at pc x1, Keep.at pc y0, Keep.at pc y1⟩ | go_keep)
    (first
      | (go_at_call 8; refine (toNormal _ _ _ _ _ _ _ _ _ _ (s0d.k pc) hz0 (s1d.k pc) hz1 (toDeclS _) (toRoutineS _)).mono ?_; rintro e wa8 ⟨b0a, b1a, rfl, tsa, pa8⟩; replace pc := pc.trans pa8)
      | (go_at_call 12; refine (eqNormal _ _ _ _ _ _ _ _ _ _ _ _ _ _ _ _ _ (g0d.k pa8) ((tsa.get 0 _ _ rfl rfl).read) (g1d.k pa8) ((tsa.get 1 _ _ rfl rfl).read) (eqDeclS _) (eqRoutineS _)).mono ?_; rintro e wb8 ⟨rfl, pb8⟩; replace pc := pc.trans pb8))
  have q8 := Keep.dt pc
  clear pc tsa x0 y0 x1 y1 s0d g0d s1d g1d
  replace K := K.trans q8
  replace bk1 := row_ext bk1 q8 (fun h => h)
  replace bk2 := row_ext bk2 q8 (fun h => h)
  replace bx1 := row_ext bx1 q8 (fun h => h)
  replace bx2 := row_ext bx2 q8 (fun h => h)
  replace s0 := s0.k q8
  replace s1 := s1.k q8
  replace s9 := s9.k q8
  replace s4 := s4.k q8
  replace g0x := g0x.k q8
  replace g1x := g1x.k q8
  replace g9x := g9x.k q8
  replace g4x := g4x.k q8
  go_wp2_with fail
  refine (toIntS xs _ _ _ _ _ s9 hz9).mono ?_
  rintro e w9 ⟨b9a, rfl, ow9, p9⟩
  have g9a := ow9.read
  clear ow9
  replace K := K.trans p9
  replace bk1 := row_ext bk1 p9 (fun h => h)
  replace bk2 := row_ext bk2 p9 (fun h => h)
  replace bx1 := row_ext bx1 p9 (fun h => h)
  replace bx2 := row_ext bx2 p9 (fun h => h)
  replace s0 := s0.k p9
  replace s1 := s1.k p9
  replace s9 := s9.k p9
  replace s4 := s4.k p9
  replace g0x := g0x.k p9
  replace g1x := g1x.k p9
  replace g9x := g9x.k p9
  replace g4x := g4x.k p9
  go_wp2_with fail
  refine (eqIntS xs _ _ _ _ _ _ _ _ _ g9x g9a).mono ?_
  rintro e w10 ⟨rfl, p10⟩
  clear g9a
  replace K := K.trans p10
  replace bk1 := row_ext bk1 p10 (fun h => h)
  replace bk2 := row_ext bk2 p10 (fun h => h)
  replace bx1 := row_ext bx1 p10 (fun h => h)
  replace bx2 := row_ext bx2 p10 (fun h => h)
  replace s0 := s0.k p10
  replace s1 := s1.k p10
  replace s9 := s9.k p10
  replace s4 := s4.k p10
  replace g0x := g0x.k p10
  replace g1x := g1x.k p10
  replace g9x := g9x.k p10
  replace g4x := g4x.k p10
  have x0 := bk2.cell (i := 0) (by simp)
  have x1 := bk2.cell (i := 1) (by simp)
  simp at x0 x1
  have y0 := bx2.cell (i := 0) (by simp)
  have y1 := bx2.cell (i := 1) (by simp)
  simp at y0 y1
  have s4d := s4.k (w' := w10.drew) (Ext.refl (fun _ => False) w10).drew
  have g4d := g4x.k (w' := w10.drew) (Ext.refl (fun _ => False) w10).drew
  have pc := Ext.refl0 w10
  go_wp2_with fail
  go_region_held3 (fun w' => w'.cell? ⟨w.heap.size + 1, 0, none⟩ = some (.slice a4 n4 c4) ∧ w'.cell? ⟨w.heap.size + 1, 1, none⟩ = some (.int .i64 res) ∧ w'.cell? ⟨w6.heap.size, 0, none⟩ = some (.slice b4x n4 n4) ∧ w'.cell? ⟨w6.heap.size, 1, none⟩ = some (.int .i64 res))
    (first | exact ⟨Keep.at pc x0, Keep.at pc x1, Keep.at pc y0, Keep.at pc y1⟩ | go_keep)
    (first
      | (go_at_call 10; refine (toBlock _ _ _ _ _ _ _ (s4d.k pc) hz4 (toStepS _)).mono ?_; rintro e wa11 ⟨b4a, rfl, tsa, pa11⟩; replace pc := pc.trans pa11)
      | (go_at_call 14; refine (eqBlock _ _ _ _ _ _ _ _ _ _ _ (g4d.k pa11) ((tsa.get 0 _ _ rfl rfl).read) (eqStepS _)).mono ?_; rintro e wb11 ⟨rfl, pb11⟩; replace pc := pc.trans pb11))
  have q11 := Keep.dt pc
  clear pc tsa x0 y0 x1 y1 s4d g4d
  replace K := K.trans q11
  replace bk1 := row_ext bk1 q11 (fun h => h)
  replace bk2 := row_ext bk2 q11 (fun h => h)
  replace bx1 := row_ext bx1 q11 (fun h => h)
  replace bx2 := row_ext bx2 q11 (fun h => h)
  replace s0 := s0.k q11
  replace s1 := s1.k q11
  replace s9 := s9.k q11
  replace s4 := s4.k q11
  replace g0x := g0x.k q11
  replace g1x := g1x.k q11
  replace g9x := g9x.k q11
  replace g4x := g4x.k q11
  go_wp2_with fail
  exact fin_ hQ ⟨rfl, K⟩
end Go.Proofs.Ytmekdccgjgfiaaa
/- Ascending lists of integers as sets: insertion, indices of what is true; plain. -/
namespace Go.Proofs.Ytmekdccgjgfiaaa
open Go.RowKit

/-- An ascending list with a number at its place, once. -/
def insL : List Int → Int → List Int
  | [], n => [n]
  | x :: xs, n => if n < x then n :: x :: xs else if n = x then x :: xs else x :: insL xs n
def Asc (xs : List Int) : Prop := xs.Pairwise (· < ·)

theorem insL_len (xs : List Int) (n : Int) : (insL xs n).length ≤ xs.length + 1 := by
  induction xs with
  | nil => simp [insL]
  | cons x xs ih =>
    simp only [insL]
    split
    · simp
    · split
      · simp
      · simp only [List.length_cons]; omega
theorem insL_mem (xs : List Int) (n x : Int) : x ∈ insL xs n ↔ x = n ∨ x ∈ xs := by
  induction xs with
  | nil => simp [insL]
  | cons y ys ih =>
    simp only [insL]
    split
    · simp
    · split
      · next h => subst h; simp
      · simp only [List.mem_cons, ih]
        constructor
        · rintro (h | h | h)
          · exact .inr (.inl h)
          · exact .inl h
          · exact .inr (.inr h)
        · rintro (h | h | h)
          · exact .inr (.inl h)
          · exact .inl h
          · exact .inr (.inr h)
theorem insL_asc {xs : List Int} {n : Int} (h : Asc xs) : Asc (insL xs n) := by
  induction xs with
  | nil => simp [insL, Asc]
  | cons y ys ih =>
    obtain ⟨h1, h2⟩ := List.pairwise_cons.1 h
    simp only [insL]
    split
    · next hn =>
      refine List.pairwise_cons.2 ⟨fun z hz => ?_, h⟩
      rcases List.mem_cons.1 hz with rfl | hz
      · exact hn
      · have := h1 z hz; omega
    · split
      · exact h
      · next hn hne =>
        refine List.pairwise_cons.2 ⟨fun z hz => ?_, ih h2⟩
        rcases (insL_mem ys n z).1 hz with rfl | hz
        · omega
        · exact h1 z hz
theorem asc_ext : ∀ {xs ys : List Int}, Asc xs → Asc ys → (∀ x, x ∈ xs ↔ x ∈ ys) → xs = ys
  | [], [], _, _, _ => rfl
  | [], y :: ys, _, _, h => absurd ((h y).2 (by simp)) (by simp)
  | x :: xs, [], _, _, h => absurd ((h x).1 (by simp)) (by simp)
  | x :: xs, y :: ys, hx, hy, h => by
    obtain ⟨hx1, hx2⟩ := List.pairwise_cons.1 hx
    obtain ⟨hy1, hy2⟩ := List.pairwise_cons.1 hy
    have e : x = y := by
      rcases List.mem_cons.1 ((h x).1 (by simp)) with e | hm
      · exact e
      · rcases List.mem_cons.1 ((h y).2 (by simp)) with e | hm'
        · exact e.symm
        · have := hy1 x hm; have := hx1 y hm'; omega
    subst e
    have e2 : xs = ys := asc_ext hx2 hy2 (fun z => by
      constructor
      · intro hz
        rcases List.mem_cons.1 ((h z).1 (by simp [hz])) with e | hm
        · have := hx1 z hz; omega
        · exact hm
      · intro hz
        rcases List.mem_cons.1 ((h z).2 (by simp [hz])) with e | hm
        · have := hy1 z hz; omega
        · exact hm)
    rw [e2]

/-- What holds in the loop of insert behind j elements. -/
def InsR (xs : List Int) (n : Int) (j : Nat) (out : List Int) (done : Bool) : Prop :=
  if done = true then out ++ xs.drop j = insL xs n else out = xs.take j ∧ insL xs n = xs.take j ++ insL (xs.drop j) n
theorem InsR.start (xs : List Int) (n : Int) : InsR xs n 0 [] false := by simp [InsR]
theorem drop_iAt {xs : List Int} {j : Nat} (h : j < xs.length) : xs.drop j = iAt xs j :: xs.drop (j + 1) := by rw [List.drop_eq_getElem_cons h, iAt_eq h]
theorem take_iAt {xs : List Int} {j : Nat} (h : j < xs.length) : xs.take (j + 1) = xs.take j ++ [iAt xs j] := by rw [List.take_succ_eq_append_getElem h, iAt_eq h]
section
variable {xs : List Int} {n : Int} {j : Nat} {out : List Int}
theorem InsR.low (h : InsR xs n j out false) (hj : j < xs.length) (hx : iAt xs j < n) : InsR xs n (j + 1) (out ++ [iAt xs j]) false := by
  simp only [InsR, Bool.false_eq_true, if_false] at h ⊢
  obtain ⟨h1, h2⟩ := h
  rw [take_iAt hj]
  refine ⟨by rw [h1], ?_⟩
  rw [h2, drop_iAt hj, insL, if_neg (by omega), if_neg (by omega), List.append_assoc]
  rfl
theorem InsR.same (h : InsR xs n j out false) (hj : j < xs.length) (hx : iAt xs j = n) : InsR xs n (j + 1) (out ++ [iAt xs j]) true := by
  simp only [InsR, Bool.false_eq_true, if_false, if_true] at h ⊢
  obtain ⟨h1, h2⟩ := h
  rw [h2, h1, drop_iAt hj, insL, if_neg (by omega), if_pos hx.symm, List.append_assoc]
  rfl
theorem InsR.over (h : InsR xs n j out false) (hj : j < xs.length) (hx : n < iAt xs j) : InsR xs n (j + 1) (out ++ [n] ++ [iAt xs j]) true := by
  simp only [InsR, Bool.false_eq_true, if_false, if_true] at h ⊢
  obtain ⟨h1, h2⟩ := h
  rw [h2, h1, drop_iAt hj, insL, if_pos hx]
  simp
theorem InsR.rest (h : InsR xs n j out true) (hj : j < xs.length) : InsR xs n (j + 1) (out ++ [iAt xs j]) true := by
  simp only [InsR, if_true] at h ⊢
  rw [← h, drop_iAt hj]
  simp
theorem InsR.done (h : InsR xs n j out true) (hj : xs.length ≤ j) : out = insL xs n := by
  simp only [InsR, if_true] at h
  rw [List.drop_of_length_le hj, List.append_nil] at h
  exact h
theorem InsR.last (h : InsR xs n j out false) (hj : xs.length ≤ j) : out ++ [n] = insL xs n := by
  simp only [InsR, Bool.false_eq_true, if_false] at h
  obtain ⟨h1, h2⟩ := h
  rw [h2, h1, List.drop_of_length_le hj]
  rfl
end

def bAtL (bs : List Bool) (i : Nat) : Bool := bs.getD i false
theorem bAtL_eq {bs : List Bool} {i : Nat} (h : i < bs.length) : bAtL bs i = bs[i] := by simp [bAtL, List.getElem?_eq_getElem h]
/-- The indices of what is true, ascending, from k on. -/
def idxFrom : Nat → List Bool → List Int
  | _, [] => []
  | k, b :: bs => if b = true then (k : Int) :: idxFrom (k + 1) bs else idxFrom (k + 1) bs
def idxL (bs : List Bool) : List Int := idxFrom 0 bs
theorem idxFrom_append (k : Nat) (a b : List Bool) : idxFrom k (a ++ b) = idxFrom k a ++ idxFrom (k + a.length) b := by
  induction a generalizing k with
  | nil => simp [idxFrom]
  | cons x xs ih =>
    simp only [List.cons_append, idxFrom, ih, List.length_cons]
    rw [show k + 1 + xs.length = k + (xs.length + 1) by omega]
    split <;> simp
theorem idxL_take {bs : List Bool} {j : Nat} (h : j < bs.length) : idxL (bs.take (j + 1)) = idxL (bs.take j) ++ if bAtL bs j = true then [(j : Int)] else [] := by
  rw [List.take_succ_eq_append_getElem h, idxL, idxFrom_append, ← bAtL_eq h]
  have : (bs.take j).length = j := by simp; omega
  rw [this, Nat.zero_add]
  simp only [idxFrom]
  rfl
theorem idxFrom_len (k : Nat) (bs : List Bool) : (idxFrom k bs).length ≤ bs.length := by
  induction bs generalizing k with
  | nil => simp [idxFrom]
  | cons b bs ih => simp only [idxFrom]; have := ih (k + 1); split <;> simp <;> omega
theorem idxL_len (bs : List Bool) : (idxL bs).length ≤ bs.length := idxFrom_len 0 bs
theorem idxFrom_mem (k : Nat) (bs : List Bool) (x : Int) : x ∈ idxFrom k bs ↔ ∃ i : Nat, i < bs.length ∧ x = ((k + i : Nat) : Int) ∧ bAtL bs i = true := by
  induction bs generalizing k with
  | nil => simp [idxFrom]
  | cons b bs ih =>
    have hs : (∃ i : Nat, i < (b :: bs).length ∧ x = ((k + i : Nat) : Int) ∧ bAtL (b :: bs) i = true) ↔ (x = (k : Int) ∧ b = true) ∨ ∃ i : Nat, i < bs.length ∧ x = ((k + 1 + i : Nat) : Int) ∧ bAtL bs i = true := by
      constructor
      · rintro ⟨i, hi, hx, hb⟩
        rcases i with _ | i
        · exact .inl ⟨by simpa using hx, by simpa [bAtL] using hb⟩
        · exact .inr ⟨i, by simpa using hi, by rw [hx]; congr 1; omega, by simpa [bAtL] using hb⟩
      · rintro (⟨hx, hb⟩ | ⟨i, hi, hx, hb⟩)
        · exact ⟨0, by simp, by simpa using hx, by simpa [bAtL] using hb⟩
        · exact ⟨i + 1, by simpa using hi, by rw [hx]; congr 1; omega, by simpa [bAtL] using hb⟩
    rw [hs, ← ih (k + 1)]
    simp only [idxFrom]
    split
    · next hb => simp [hb]
    · next hb => simp [hb]
theorem idxL_mem (bs : List Bool) (x : Int) : x ∈ idxL bs ↔ ∃ i : Nat, i < bs.length ∧ x = (i : Int) ∧ bAtL bs i = true := by
  rw [idxL, idxFrom_mem]; simp
theorem idxFrom_asc (k : Nat) (bs : List Bool) : Asc (idxFrom k bs) := by
  induction bs generalizing k with
  | nil => simp [idxFrom, Asc]
  | cons b bs ih =>
    simp only [idxFrom]
    split
    · refine List.pairwise_cons.2 ⟨fun z hz => ?_, ih _⟩
      obtain ⟨i, _, rfl, _⟩ := (idxFrom_mem _ _ _).1 hz
      omega
    · exact ih _
theorem idxL_asc (bs : List Bool) : Asc (idxL bs) := idxFrom_asc 0 bs
end Go.Proofs.Ytmekdccgjgfiaaa
