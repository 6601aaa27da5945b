/- validTypes and ValidTypes of the reference. -/
import Derived.Test.YthdjijhpdgajbaaTypes2
namespace Go.Proofs.Ythdjijhpdgajbaa
open Go.RowKit

set_option maxHeartbeats 1000000 in
theorem specValidTypes0 (a : Option Addr) (n c : Nat) (ds : List DeclL) (D : Nat → Prop) (w : World) (h : DeclsR w D a n ds) (hn : n ≤ 1099511627776) :
    Calls Try.prog 28 #[.slice a n c] w fun e w' => e = .returned (.bool (typesOk ds)) ∧ Keep w w' := by
  refine calls_k fun Q hQ => ?_
  have hlen := h.1
  by_cases h4 : n ≤ 4
  · have hfin : Hid (typesOk ds = (List.range n).all (declOk ds)) := by
      show _ = _
      simp [typesOk, hlen, h4]
    go_enter Try.func28, Try.ntmps28
    go_wp2
    go_loopw [3] (fun i wr => ∃ j : Nat, j ≤ n ∧ i = .int .i64 j ∧ Keep w wr ∧ Hid (∀ l, l < j → declOk ds l = true)) (fun i _ => n - (intOf i).toNat)
    case atStart => exact ⟨0, Nat.zero_le _, rfl, Ext.refl _ _, fun j hj => absurd hj (by omega)⟩
    case round =>
      obtain ⟨j, hj, rfl, hK, H⟩ := hrel
      by_cases hlt : j < n
      · have h1 := h.ext hK (fun _ _ h => h)
        cases hv : declOk ds j
        · have V := Lib.hid hv
          go_wp2_with (go_at_call 44; refine (specValidDecl _ _ _ _ _ _ _ h1 (by omega) (by omega)).mono ?_; rw [V.out]; rintro e w1 ⟨rfl, hk1⟩)
          exact fin_ hQ ⟨ret_b (by rw [hfin.out, nAll_false hlt V.out]), hK.trans hk1⟩
        · have V := Lib.hid hv
          go_wp2_with (go_at_call 44; refine (specValidDecl _ _ _ _ _ _ _ h1 (by omega) (by omega)).mono ?_; rw [V.out]; rintro e w1 ⟨rfl, hk1⟩)
          go_roundw
          case rel => exact ⟨j + 1, by omega, by go_num, hK.trans hk1, fun l hl => by
            rcases Nat.lt_succ_iff_lt_or_eq.1 hl with h | rfl
            · exact H.out l h
            · exact V.out⟩
          case measure => simp [intOf]; omega
      · go_wp2
        exact fin_ hQ ⟨ret_b (by rw [hfin.out]; exact (nAll.2 (fun l hl => H.out l (by omega))).symm), hK⟩
  · have hfin : Hid (typesOk ds = false) := by
      show _ = _
      simp [typesOk, hlen, h4]
    go_enter Try.func28, Try.ntmps28
    go_wp2
    exact fin_ hQ ⟨ret_b hfin.out.symm, Ext.refl _ _⟩

theorem specValidTypes (a : Option Addr) (n c : Nat) (ds : List DeclL) (D : Nat → Prop) (w : World) (h : DeclsR w D a n ds) (hn : n ≤ 1099511627776) :
    Calls Try.prog 9 #[.slice a n c] w fun e w' => e = .returned (.bool (typesOk ds)) ∧ Keep w w' := by
  refine calls_k fun Q hQ => ?_
  go_enter Try.func9, Try.ntmps9
  go_wp2_with (go_at_call 28; refine (specValidTypes0 _ _ _ _ _ _ h hn).mono ?_; rintro e w1 ⟨rfl, hk1⟩)
  exact fin_ hQ ⟨rfl, hk1⟩
end Go.Proofs.Ythdjijhpdgajbaa
