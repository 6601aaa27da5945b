/- The drawn law FnConCount: the walk. -/
import Derived.Test.YtcfndpgeanbkjaaLawBase
import Derived.Deep.RegionHeld3
import Derived.StillTailTactics
namespace Go.Proofs.Ytcfndpgeanbkjaa
open Go.RowKit

set_option maxHeartbeats 4000000 in
theorem fnConCount_walk (a : Option Addr) (len cap : Nat) (z : Nat → Int) (w : World) (h : Byt w a len z) (hlc : len ≤ cap) :
    Calls Try.prog 6 #[.slice a len cap] w fun e w' => e = .returned (.bool true) ∧ Keep w w' := by
  refine calls_k fun Q hQ => ?_
  by_cases hl : len ≤ 1048576
  · go_enter Try.func6, Try.ntmps6
    go_wp2_with fail
    refine (DrawConCount_any a len cap z w h hlc hl).mono ?_
    rintro e w1 ⟨v, rfl, a2, n, c, ds, rfl, hnc, hn6, hR, k1⟩
    have hD := hR.toDecls
    have HL := Lib.hid hD.1
    have hn : n ≤ 1048576 := by omega
    clear h
    cases hv : typesOk ds
    · have V := Lib.hid hv
      clear hv
      go_wp2_with fail
      refine (implConCount _ _ _ _ _ _ hD hnc).mono ?_
      rw [ifOk_no V.out]
      rintro e w2 ⟨rfl, q0⟩
      have h0 := hD.ext q0 (fun _ _ h => h)
      have p0 := k1.trans q0
      go_wp2_with fail
      refine (specConCount _ _ _ _ _ _ h0 (by omega)).mono ?_
      rw [ifOk_no V.out]
      rintro e w3 ⟨rfl, q1⟩
      have h1 := h0.ext q1 (fun _ _ h => h)
      have p1 := p0.trans q1
      go_wp2_with fail
      refine (specConCount _ _ _ _ _ _ h1 (by omega)).mono ?_
      rw [ifOk_no V.out]
      rintro e w4 ⟨rfl, q2⟩
      have h2 := h1.ext q2 (fun _ _ h => h)
      have p2 := p1.trans q2
      go_wp2_with fail
      exact fin_ hQ ⟨rfl, p2⟩
    · have V := Lib.hid hv
      clear hv
      have hf := Few.of_ok V.out
      have hs := sumTo_all ds
      rw [HL.out] at hs
      have HS := Lib.hid hs
      clear hs
      go_wp2_with fail
      refine (implConCount _ _ _ _ _ _ hD hnc).mono ?_
      rw [ifOk_yes V.out]
      rintro e w2 ⟨rfl, q0⟩
      have h0 := hD.ext q0 (fun _ _ h => h)
      have p0 := k1.trans q0
      go_wp2_with fail
      refine (specConCount _ _ _ _ _ _ h0 (by omega)).mono ?_
      rw [ifOk_yes V.out]
      rintro e w3 ⟨rfl, q1⟩
      have h1 := h0.ext q1 (fun _ _ h => h)
      have p1 := p0.trans q1
      go_wp2_with fail
      go_loopw [5, 6] (fun nv tv wr => ∃ k : Nat, k ≤ n + 1 ∧ tv = .int .i64 k ∧ nv = .int .i64 (sumTo ds k : Int) ∧ Keep w1 wr) (fun _ i _ => n + 1 - (intOf i).toNat)
      case atStart => exact ⟨0, Nat.zero_le _, rfl, rfl, q0.trans q1⟩
      case round =>
        obtain ⟨k, hk, rfl, rfl, hK⟩ := hrel
        by_cases hlt : k ≤ n
        · have hx := hD.ext hK (fun _ _ h => h)
          have b1 := sumTo_le hf (k := k) (by have := HL.out; omega)
          have b2 := sumTo_le hf (k := k + 1) (by have := HL.out; omega)
          have e1 : sumTo ds (k + 1) = sumTo ds k + (consL ds (k : Int)).length := rfl
          have E1 := Lib.hid e1
          clear e1
          go_wp2_with fail
          refine (implConsOf _ _ _ _ _ _ _ hx hnc).mono ?_
          rw [if_pos V.out]
          rintro e w4 ⟨a4, m4, c4, rfl, _, o4, q4⟩
          have M := Lib.hid o4.1
          have b3 : m4 ≤ 15 := by have := E1.out; have := M.out; omega
          clear o4
          go_wp2_with fail
          go_roundw
          case rel => exact ⟨k + 1, by omega, by go_num, by congr 1; rw [E1.out, M.out]; omega, hK.trans q4⟩
          case measure => simp [intOf]; omega
        · have HJ : Hid (k = n + 1) := by show _ = _; omega
          have t : ((sumTo ds k : Int) == (conN ds : Int)) = true := by rw [HJ.out, HS.out]; simp
          go_wp2
          exact fin_ hQ ⟨rfl, k1.trans hK⟩
  · go_enter Try.func6, Try.ntmps6
    go_wp2_with fail
    exact fin_ hQ ⟨rfl, Ext.refl _ _⟩
end Go.Proofs.Ytcfndpgeanbkjaa
