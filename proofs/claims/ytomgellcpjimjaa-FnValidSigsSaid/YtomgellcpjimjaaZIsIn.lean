/- isIn of the reference. -/
import Derived.Test.YtomgellcpjimjaaGB
import Derived.Test.YtomgellcpjimjaaGA
namespace Go.Proofs.Ytomgellcpjimjaa
open Go.RowKit

theorem mem_iAt {xs : List Int} {y : Int} (h : y ∈ xs) : ∃ i, i < xs.length ∧ iAt xs i = y := by
  obtain ⟨i, hi, rfl⟩ := List.getElem_of_mem h
  exact ⟨i, hi, iAt_get hi⟩
theorem iAt_mem {xs : List Int} {i : Nat} (h : i < xs.length) : iAt xs i ∈ xs := by rw [iAt_get h]; exact List.getElem_mem h

theorem specIsIn (a : Option Addr) (n c : Nat) (xs : List Int) (x : Int) (D : Nat → Prop) (w : World) (h : IntsL w D a n xs) (hn : n ≤ 1048576) :
    Calls Try.prog 120 #[.slice a n c, .int .i64 x] w fun e w' => e = .returned (.bool (decide (x ∈ xs))) ∧ w = w' := by
  refine calls_k fun Q hQ => ?_
  go_enter Try.func120, Try.ntmps120
  go_wp2
  go_loop [5] (fun i => ∃ k : Nat, k ≤ n ∧ i = .int .i64 k ∧ Hid (∀ j, j < k → iAt xs j ≠ x)) (fun i => n - (intOf i).toNat)
  case atStart => exact ⟨0, Nat.zero_le _, rfl, fun j hj => absurd hj (by omega)⟩
  case round =>
    obtain ⟨k, hk, rfl, H⟩ := hrel
    obtain ⟨hlen, hcell⟩ := h
    have HLN := Lib.hid hlen
    clear hlen
    by_cases hlt : k < n
    · obtain ⟨b, o, rfl, hd, hc⟩ := hcell (by omega)
      have h1 := hc k hlt
      clear hc hcell
      obtain ⟨y, hy⟩ : ∃ y, iAt xs k = y := ⟨_, rfl⟩
      rw [hy] at h1
      have HY := Lib.hid hy
      clear hy
      by_cases e : y = x
      · have V : Hid (decide (x ∈ xs) = true) := decide_eq_true (by rw [← e, ← HY.out]; exact iAt_mem (by have := HLN.out; omega))
        have e' : (y == x) = true := by simpa using e
        clear e
        go_wp2
        exact fin_ hQ ⟨ret_b V.out.symm, rfl⟩
      · have e' : (y == x) = false := by simpa using e
        have HN : Hid (iAt xs k ≠ x) := by show _ ≠ _; rw [HY.out]; exact e
        clear e
        go_wp2
        go_round
        case rel => exact ⟨k + 1, by omega, by go_num, fun j hj => by rcases Nat.lt_succ_iff_lt_or_eq.1 hj with h | rfl; exact H.out j h; exact HN.out⟩
        case measure => simp [intOf]; omega
    · have V : Hid (decide (x ∈ xs) = false) := decide_eq_false (fun hm => by
        obtain ⟨i, hi, e⟩ := mem_iAt hm
        exact H.out i (by have := HLN.out; omega) e)
      clear hcell
      go_wp2
      exact fin_ hQ ⟨ret_b V.out.symm, rfl⟩
end Go.Proofs.Ytomgellcpjimjaa
