/- The laws' own helpers: lists of integers compared, searched, contained in one another, ascending. -/
import Derived.Test.YtaeddcnakilnlaaMGA
import Derived.Test.YtaeddcnakilnlaaMY
namespace Go.Proofs.Ytaeddcnakilnlaa
open Go.RowKit

theorem equalInts_same (a : Option Addr) (n c : Nat) (a' : Option Addr) (n' c' : Nat) (xs : List Int) (D D' : Nat → Prop) (w : World) (h : IntsL w D a n xs) (h' : IntsL w D' a' n' xs) (hn : n ≤ 1099511627776) :
    Calls Try.prog 39 #[.slice a n c, .slice a' n' c'] w fun e w' => e = .returned (.bool true) ∧ Keep w w' := by
  refine (equalInts_law a n c a' n' c' xs xs D D' w h h' hn).mono ?_
  rw [decide_eq_true rfl]
  exact fun _ _ h => h
set_option maxHeartbeats 400000 in
theorem isIn_any (a : Option Addr) (n c : Nat) (xs : List Int) (x : Int) (D : Nat → Prop) (w : World) (h : IntsL w D a n xs) (hn : n ≤ 1099511627776) :
    Calls Try.prog 46 #[.slice a n c, .int .i64 x] w fun e w' => e = .returned (.bool (decide (x ∈ xs))) ∧ w = w' := by
  refine calls_k fun Q hQ => ?_
  have HL := Lib.hid h.1
  go_enter Try.func46, Try.ntmps46
  go_wp2
  go_loop [5] (fun i => ∃ j : Nat, j ≤ n ∧ i = .int .i64 j ∧ Hid (∀ l, l < j → iAt xs l ≠ x)) (fun i => n - (intOf i).toNat)
  case atStart => exact ⟨0, Nat.zero_le _, rfl, fun l hl => absurd hl (by omega)⟩
  case round =>
    obtain ⟨j, hj, rfl, H⟩ := hrel
    by_cases hlt : j < n
    · obtain ⟨b, o, rfl, hd, hc⟩ := h.2 (by omega)
      have d0 := hc j hlt
      clear hc h
      by_cases he : iAt xs j = x
      · have t := beq_iff_eq.2 he
        have HE := Lib.hid he
        clear he
        go_wp2
        exact fin_ hQ ⟨ret_b (by rw [decide_eq_true]; rw [← HE.out, iAt_get (by have := HL.out; omega)]; exact List.getElem_mem _), rfl⟩
      · have t := beq_eq_false_iff_ne.2 he
        have HE := Lib.hid he
        clear he
        go_wp2
        go_round
        case rel => exact ⟨j + 1, by omega, by go_num, fun l hl => by
          rcases Nat.lt_succ_iff_lt_or_eq.1 hl with h | rfl
          · exact H.out l h
          · exact HE.out⟩
        case measure => simp [intOf]; omega
    · go_wp2
      exact fin_ hQ ⟨ret_b (by
        rw [decide_eq_false]
        intro hm
        obtain ⟨i, hi, e⟩ := List.getElem_of_mem hm
        exact H.out i (by have := HL.out; omega) (by rw [iAt_get hi, e])), rfl⟩
theorem isIn_yes (a : Option Addr) (n c : Nat) (xs : List Int) (x : Int) (D : Nat → Prop) (w : World) (h : IntsL w D a n xs) (hn : n ≤ 1099511627776) (hx : x ∈ xs) :
    Calls Try.prog 46 #[.slice a n c, .int .i64 x] w fun e w' => e = .returned (.bool true) ∧ w = w' := by
  refine (isIn_any a n c xs x D w h hn).mono ?_
  rw [decide_eq_true hx]
  exact fun _ _ h => h
theorem isIn_no (a : Option Addr) (n c : Nat) (xs : List Int) (x : Int) (D : Nat → Prop) (w : World) (h : IntsL w D a n xs) (hn : n ≤ 1099511627776) (hx : x ∉ xs) :
    Calls Try.prog 46 #[.slice a n c, .int .i64 x] w fun e w' => e = .returned (.bool false) ∧ w = w' := by
  refine (isIn_any a n c xs x D w h hn).mono ?_
  rw [decide_eq_false hx]
  exact fun _ _ h => h
def withinB (xs ys : List Int) : Bool := decide (∀ x, x ∈ xs → x ∈ ys)
set_option maxHeartbeats 400000 in
theorem within_any (a : Option Addr) (n c : Nat) (a' : Option Addr) (n' c' : Nat) (xs ys : List Int) (D D' : Nat → Prop) (w : World) (h : IntsL w D a n xs) (h' : IntsL w D' a' n' ys) (hn : n ≤ 1099511627776) (hn' : n' ≤ 1099511627776) :
    Calls Try.prog 42 #[.slice a n c, .slice a' n' c'] w fun e w' => e = .returned (.bool (withinB xs ys)) ∧ w = w' := by
  refine calls_k fun Q hQ => ?_
  have HL := Lib.hid h.1
  go_enter Try.func42, Try.ntmps42
  go_wp2
  go_loop [5] (fun i => ∃ j : Nat, j ≤ n ∧ i = .int .i64 j ∧ Hid (∀ l, l < j → iAt xs l ∈ ys)) (fun i => n - (intOf i).toNat)
  case atStart => exact ⟨0, Nat.zero_le _, rfl, fun l hl => absurd hl (by omega)⟩
  case round =>
    obtain ⟨j, hj, rfl, H⟩ := hrel
    by_cases hlt : j < n
    · obtain ⟨b, o, rfl, hd, hc⟩ := h.2 (by omega)
      have d0 := hc j hlt
      clear hc h
      by_cases he : iAt xs j ∈ ys
      · have HE := Lib.hid he
        clear he
        go_wp2_with fail
        refine (isIn_yes _ _ _ _ _ _ _ h' hn' HE.out).mono ?_
        rintro e w1 ⟨rfl, rfl⟩
        go_wp2_with fail
        go_round
        case rel => exact ⟨j + 1, by omega, by go_num, fun l hl => by
          rcases Nat.lt_succ_iff_lt_or_eq.1 hl with h | rfl
          · exact H.out l h
          · exact HE.out⟩
        case measure => simp [intOf]; omega
      · have HE := Lib.hid he
        clear he
        go_wp2_with fail
        refine (isIn_no _ _ _ _ _ _ _ h' hn' HE.out).mono ?_
        rintro e w1 ⟨rfl, rfl⟩
        go_wp2_with fail
        exact fin_ hQ ⟨ret_b (by
          unfold withinB
          rw [decide_eq_false]
          intro hm
          exact HE.out (hm _ (by rw [iAt_get (by have := HL.out; omega)]; exact List.getElem_mem _))), rfl⟩
    · go_wp2
      exact fin_ hQ ⟨ret_b (by
        unfold withinB
        rw [decide_eq_true]
        intro x hm
        obtain ⟨i, hi, e⟩ := List.getElem_of_mem hm
        have := H.out i (by have := HL.out; omega)
        rw [iAt_get hi, e] at this
        exact this), rfl⟩
/-- A strictly ascending list. -/
def AscI (xs : List Int) : Prop := ∀ i, i + 1 < xs.length → iAt xs i < iAt xs (i + 1)
set_option maxHeartbeats 400000 in
theorem ascends_yes (a : Option Addr) (n c : Nat) (xs : List Int) (D : Nat → Prop) (w : World) (h : IntsL w D a n xs) (hn : n ≤ 1099511627776) (hx : AscI xs) :
    Calls Try.prog 41 #[.slice a n c] w fun e w' => e = .returned (.bool true) ∧ Keep w w' := by
  refine calls_k fun Q hQ => ?_
  have HL := Lib.hid h.1
  have HX := Lib.hid hx
  clear hx
  go_enter Try.func41, Try.ntmps41
  go_wp2
  go_loopw [3] (fun i wr => ∃ j : Nat, i = .int .i64 ((j : Int) + 1) ∧ Keep w wr) (fun i _ => n - (intOf i).toNat)
  case atStart => exact ⟨0, rfl, Ext.refl _ _⟩
  case round =>
    obtain ⟨j, rfl, hK⟩ := hrel
    by_cases hlt : j + 1 < n
    · obtain ⟨b, o, rfl, hd, hc⟩ := (h.ext hK (fun _ _ h => h)).2 (by omega)
      have d0 := hc j (by omega)
      have d1 := hc (j + 1) hlt
      have t := HX.out j (by have := HL.out; omega)
      have t2 : decide (iAt xs (j + 1) ≤ iAt xs j) = false := by simp; omega
      clear hc h
      go_wp2
      go_quiet (fail)
      go_wp2
      go_roundw
      case rel => exact ⟨j + 1, by go_num, hK.drewN nq⟩
      case measure => simp [intOf]; omega
    · go_wp2
      exact fin_ hQ ⟨rfl, hK⟩
end Go.Proofs.Ytaeddcnakilnlaa
