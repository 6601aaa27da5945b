/- The laws' own helpers: marks that are held. -/
import Derived.Test.YtbknmljfnjlieaaOwn3
import Derived.StillTailTactics
import Derived.IntWalk
namespace Go.Proofs.Ytbknmljfnjlieaa
open Go.RowKit


def HdC (f : FuncId) (d : Dat) : Prop := ∀ (a : Option Addr) (n c : Nat) (D : Nat → Prop) (k : Int) (w : World), Rd w D (mkD d k) (.slice a n c) → 0 ≤ k → k + (cntD d : Int) ≤ 4611686018427387904 →
  Calls Try.prog f #[.slice a n c, .int .i64 k] w fun e w' => e = .returned (.int .i64 (k + (cntD d : Int))) ∧ Keep w w'


set_option maxRecDepth 100000 in
set_option maxHeartbeats 4000000 in
theorem heldIntS (xs : List Int) : HdC 26 (encInts xs) := by
  intro a n c D k w h h0 h1
  refine calls_k fun Q hQ => ?_
  have e2 : cntD (encInts xs) = cntRR (xs.map rowI) := by rw [encInts, cntD]
  have e3 : mkD (encInts xs) k = .arr 1 (mkRR (xs.map rowI) k) := by rw [encInts, mkD]
  rw [e2] at hQ h1
  rw [e3] at h
  obtain ⟨e1, hnc, hm, hat⟩ := rows_at h
  rw [mkRR_len] at e1
  have HRL := Lib.hid e1
  have HL : Hid (xs.length = n) := by show _ = _; rw [ints_len] at e1; exact e1
  have HA := Lib.hid hat
  clear e1 e2 e3 hat h
  go_enter Try.func26, Try.ntmps26
  go_wp2
  go_loopw [1, 5] (fun kv iv wr => ∃ (j : Nat) (K : Int), j ≤ n ∧ iv = .int .i64 j ∧ kv = .int .i64 K ∧ Hid (K = k + (cntRR ((xs.map rowI).take j) : Int)) ∧ Keep w wr) (fun _ iv _ => n - (intOf iv).toNat)
  case atStart => exact ⟨0, k, Nat.zero_le _, rfl, rfl, by show _ = _; simp [cntRR], Ext.refl _ _⟩
  case round =>
    obtain ⟨j, K, hj, rfl, rfl, HK, hX⟩ := hrel
    by_cases hlt : j < n
    · have hjl : j < (xs.map rowI).length := by rw [HRL.out]; exact hlt
      have hct := cntRR_take (xs.map rowI) j hjl
      have hcl := cntRR_take_le (xs.map rowI) (j + 1)
      have hrow := ints_row xs j (by have := HL.out; omega)
      have hmg := mkRR_get (xs.map rowI) k j hjl
      rw [hrow] at hct hmg
      rw [← HK.out] at hmg
      have hcr : cntR [.num (iAt xs j)] = 1 := by simp only [cntR, cntD] <;> omega
      rw [hcr] at hct
      have hb0 : 0 ≤ K := by have := HK.out; omega
      have hb1 : K + ((1 : Nat) : Int) ≤ 4611686018427387904 := by have := HK.out; omega
      obtain ⟨b, o, rfl, hd, hcell⟩ := HA.out j hlt
      rw [hmg] at hcell
      have e : mkR [.num (iAt xs j)] K = [.num (K)] := by
        simp only [mkR, mkD]
        first | done | rfl
      rw [e] at hcell
      obtain ⟨u0, d0, r0⟩ := hcell 0 (by omega)
      rw [Nat.mul_one, Nat.add_zero] at d0
      obtain rfl := Rd.num_inv r0
      have g0 := (hX.cell (World.block_lt_of_cell? w _ d0) (fun h => h)).trans d0
      have HCT := Lib.hid hct
      clear hct hcl hrow hmg hcr hcell e d0
      go_wp2_with fail
      go_roundw
      case rel => exact ⟨j + 1, K + 1, by omega, by go_num, rfl, by
        show _ = _
        have h1 := HCT.out; have h2 := HK.out; omega, hX⟩
      case measure => simp [intOf]; omega
    · have HJ : Hid (j = n) := by show _ = _; omega
      go_wp2
      exact fin_ hQ ⟨ret_i (by rw [HK.out, HJ.out, List.take_of_length_le (Nat.le_of_eq HRL.out)]), hX⟩







end Go.Proofs.Ytbknmljfnjlieaa
