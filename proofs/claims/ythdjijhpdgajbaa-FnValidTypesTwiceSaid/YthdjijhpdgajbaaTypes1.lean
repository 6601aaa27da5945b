/- isType, inRange and allTypes, of the program and of the reference. -/
import Derived.Test.YthdjijhpdgajbaaTypesPlain
namespace Go.Proofs.Ythdjijhpdgajbaa
open Go.RowKit

theorem specInRange (n lo hi : Int) (w : World) :
    Calls Try.prog 52 #[.int .i64 n, .int .i64 lo, .int .i64 hi] w fun e w' => e = .returned (.bool (decide (lo ≤ n ∧ n ≤ hi))) ∧ w = w' := by
  by_cases h1 : lo ≤ n
  all_goals by_cases h2 : n ≤ hi
  all_goals
    go_enter Try.func52, Try.ntmps52
    go_wp2
    all_goals (go_ret; exact ⟨by simp [*], rfl⟩)

theorem implIsType (a : Option Addr) (n c : Nat) (t : Int) (w : World) :
    Calls Try.prog 26 #[.slice a n c, .int .i64 t] w fun e w' => e = .returned (.bool (isT n t)) ∧ w = w' := by
  refine calls_k fun Q hQ => ?_
  by_cases h1 : 0 ≤ t
  all_goals by_cases h2 : t ≤ n
  all_goals
    go_enter Try.func26, Try.ntmps26
    go_wp2
    exact fin_ hQ ⟨by simp [isT, *], rfl⟩

/-- One contract for one outcome, so that a walk need not part. -/
theorem implIsType_yes (a : Option Addr) (n c : Nat) (t : Int) (w : World) (h : isT n t = true) :
    Calls Try.prog 26 #[.slice a n c, .int .i64 t] w fun e w' => e = .returned (.bool true) ∧ w = w' := by
  rw [← h]; exact implIsType a n c t w
theorem implIsType_no (a : Option Addr) (n c : Nat) (t : Int) (w : World) (h : isT n t = false) :
    Calls Try.prog 26 #[.slice a n c, .int .i64 t] w fun e w' => e = .returned (.bool false) ∧ w = w' := by
  rw [← h]; exact implIsType a n c t w

theorem implAllTypes (a : Option Addr) (n c : Nat) (a' : Option Addr) (m c' : Nat) (xs : List Int) (D : Nat → Prop) (w : World) (h : IntsL w D a' m xs) (hm : m ≤ 1099511627776) :
    Calls Try.prog 27 #[.slice a n c, .slice a' m c'] w fun e w' => e = .returned (.bool (allT n xs)) ∧ w = w' := by
  refine calls_k fun Q hQ => ?_
  go_enter Try.func27, Try.ntmps27
  go_wp2
  go_loop [9] (fun i => ∃ k : Nat, k ≤ m ∧ i = .int .i64 k ∧ Hid (∀ j, j < k → isT n (iAt xs j) = true)) (fun i => m - (intOf i).toNat)
  case atStart => exact ⟨0, Nat.zero_le _, rfl, fun j hj => absurd hj (by omega)⟩
  case round =>
    obtain ⟨k, hk, rfl, H⟩ := hrel
    obtain ⟨hlen, hcell⟩ := h
    by_cases hlt : k < m
    · obtain ⟨b, o, rfl, hd, hc⟩ := hcell (by omega)
      have h1 := hc k hlt
      clear hc hcell
      cases hv : isT n (iAt xs k)
      · have V := Lib.hid hv
        go_wp2_with (go_at_call 26; refine (implIsType_no _ _ _ _ _ V.out).mono ?_; rintro e w1 ⟨rfl, rfl⟩)
        exact fin_ hQ ⟨ret_b (iAll_false (by omega) V.out).symm, rfl⟩
      · have V := Lib.hid hv
        go_wp2_with (go_at_call 26; refine (implIsType_yes _ _ _ _ _ V.out).mono ?_; rintro e w1 ⟨rfl, rfl⟩)
        go_round
        case rel => exact ⟨k + 1, by omega, by go_num, fun j hj => by rcases Nat.lt_succ_iff_lt_or_eq.1 hj with h | rfl; exact H.out j h; exact V.out⟩
        case measure => simp [intOf]; omega
    · go_wp2
      exact fin_ hQ ⟨ret_b (iAll.2 (fun j hj => H.out j (by omega))).symm, rfl⟩

theorem specAllTypes (a : Option Addr) (n c : Nat) (a' : Option Addr) (m c' : Nat) (xs : List Int) (D : Nat → Prop) (w : World) (h : IntsL w D a' m xs) (hm : m ≤ 1099511627776) :
    Calls Try.prog 51 #[.slice a n c, .slice a' m c'] w fun e w' => e = .returned (.bool (allT n xs)) ∧ w = w' := by
  refine calls_k fun Q hQ => ?_
  go_enter Try.func51, Try.ntmps51
  go_wp2
  go_loop [5] (fun i => ∃ k : Nat, k ≤ m ∧ i = .int .i64 k ∧ Hid (∀ j, j < k → isT n (iAt xs j) = true)) (fun i => m - (intOf i).toNat)
  case atStart => exact ⟨0, Nat.zero_le _, rfl, fun j hj => absurd hj (by omega)⟩
  case round =>
    obtain ⟨k, hk, rfl, H⟩ := hrel
    obtain ⟨hlen, hcell⟩ := h
    by_cases hlt : k < m
    · obtain ⟨b, o, rfl, hd, hc⟩ := hcell (by omega)
      have h1 := hc k hlt
      clear hc hcell
      cases hv : isT n (iAt xs k)
      · have hv' : decide (0 ≤ iAt xs k ∧ iAt xs k ≤ (n : Int)) = false := hv
        have V := Lib.hid hv
        clear hv
        go_wp2_with (go_at_call 52; refine (specInRange _ _ _ _).mono ?_; rintro e w1 ⟨rfl, rfl⟩)
        exact fin_ hQ ⟨ret_b (iAll_false (by omega) V.out).symm, rfl⟩
      · have hv' : decide (0 ≤ iAt xs k ∧ iAt xs k ≤ (n : Int)) = true := hv
        have V := Lib.hid hv
        clear hv
        go_wp2_with (go_at_call 52; refine (specInRange _ _ _ _).mono ?_; rintro e w1 ⟨rfl, rfl⟩)
        go_round
        case rel => exact ⟨k + 1, by omega, by go_num, fun j hj => by rcases Nat.lt_succ_iff_lt_or_eq.1 hj with h | rfl; exact H.out j h; exact V.out⟩
        case measure => simp [intOf]; omega
    · go_wp2
      exact fin_ hQ ⟨ret_b (iAll.2 (fun j hj => H.out j (by omega))).symm, rfl⟩
end Go.Proofs.Ythdjijhpdgajbaa
