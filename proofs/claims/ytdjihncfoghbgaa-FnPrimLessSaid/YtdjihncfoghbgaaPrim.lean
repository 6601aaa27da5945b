/- The contracts of Prim in the program and in the reference: both return the same plain function of integers. -/
import Derived.Test.YtdjihncfoghbgaaBase
namespace Go.Proofs.Ytdjihncfoghbgaa
open Go.RowKit

def clampI (n : Int) : Int := if 999 < n then 999 else if n < -999 then -999 else n
def primI (op a b : Int) : Int :=
  if a < -999 ∨ 999 < a ∨ b < -999 ∨ 999 < b then 0
  else if op = 1 then clampI (a + b) else if op = 2 then clampI (a - b) else if op = 3 then clampI (a * b)
  else if op = 4 then (if a < b then 1 else 0) else 0


theorem mul_lo {a b : Int} (h1 : -999 ≤ a) (h2 : a ≤ 999) (h3 : -999 ≤ b) (h4 : b ≤ 999) : -998001 ≤ a * b ∧ a * b ≤ 998001 := by
  have e1 : 0 ≤ (a + 999) * (b + 999) := Int.mul_nonneg (by omega) (by omega)
  have e2 : 0 ≤ (999 - a) * (999 - b) := Int.mul_nonneg (by omega) (by omega)
  have e3 : 0 ≤ (a + 999) * (999 - b) := Int.mul_nonneg (by omega) (by omega)
  have e4 : 0 ≤ (999 - a) * (b + 999) := Int.mul_nonneg (by omega) (by omega)
  have d1 : (a + 999) * (b + 999) = a * b + 999 * a + 999 * b + 998001 := by grind
  have d2 : (999 - a) * (999 - b) = a * b - 999 * a - 999 * b + 998001 := by grind
  have d3 : (a + 999) * (999 - b) = -(a * b) + 999 * a - 999 * b + 998001 := by grind
  have d4 : (999 - a) * (b + 999) = -(a * b) - 999 * a + 999 * b + 998001 := by grind
  omega

set_option maxHeartbeats 400000 in
theorem implPrim_out (op a b : Int) (w : World) (h : a < -999 ∨ 999 < a ∨ b < -999 ∨ 999 < b) :
    Calls Try.prog 9 #[.int .i64 op, .int .i64 a, .int .i64 b] w fun e w' => e = .returned (.int .i64 0) ∧ w = w' := by
  by_cases h1 : a < -999
  · go_enter Try.func9, Try.ntmps9
    go_wp2
    go_ret
    exact ⟨rfl, rfl⟩
  by_cases h2 : 999 < a
  · go_enter Try.func9, Try.ntmps9
    go_wp2
    go_ret
    exact ⟨rfl, rfl⟩
  by_cases h3 : b < -999
  · go_enter Try.func9, Try.ntmps9
    go_wp2
    go_ret
    exact ⟨rfl, rfl⟩
  have h4 : 999 < b := by omega
  go_enter Try.func9, Try.ntmps9
  go_wp2
  go_ret
  exact ⟨rfl, rfl⟩

set_option maxHeartbeats 800000 in
theorem implPrim_in (op a b : Int) (w : World) (h1 : -999 ≤ a) (h2 : a ≤ 999) (h3 : -999 ≤ b) (h4 : b ≤ 999) :
    Calls Try.prog 9 #[.int .i64 op, .int .i64 a, .int .i64 b] w fun e w' => e = .returned (.int .i64 (primI op a b)) ∧ w = w' := by
  have hm := mul_lo h1 h2 h3 h4
  obtain ⟨m1, m2⟩ := hm
  have fin : ∀ o : Int, primI o a b = if o = 1 then clampI (a + b) else if o = 2 then clampI (a - b) else if o = 3 then clampI (a * b)
      else if o = 4 then (if a < b then 1 else 0) else 0 := fun o => by unfold primI; rw [if_neg (by omega)]
  have F := Lib.hid fin
  clear fin
  by_cases o1 : op = 1
  · subst o1
    go_enter Try.func9, Try.ntmps9
    go_wp2
    all_goals (go_ret; refine ⟨ret_i ?_, rfl⟩; rw [F.out]; simp [clampI]; try omega)
  by_cases o2 : op = 2
  · subst o2
    go_enter Try.func9, Try.ntmps9
    go_wp2
    all_goals (go_ret; refine ⟨ret_i ?_, rfl⟩; rw [F.out]; simp [clampI]; try omega)
  by_cases o3 : op = 3
  · subst o3
    go_enter Try.func9, Try.ntmps9
    go_wp2
    all_goals (go_ret; refine ⟨ret_i ?_, rfl⟩; rw [F.out]; simp [clampI]; try omega)
  by_cases o4 : op = 4
  · subst o4
    by_cases hl : a < b
    all_goals
      go_enter Try.func9, Try.ntmps9
      go_wp2
      all_goals (go_ret; refine ⟨ret_i ?_, rfl⟩; rw [F.out]; simp [*])
  have n1 : (op == 1) = false := by simp [o1]
  have n2 : (op == 2) = false := by simp [o2]
  have n3 : (op == 3) = false := by simp [o3]
  have n4 : (op == 4) = false := by simp [o4]
  go_enter Try.func9, Try.ntmps9
  go_wp2
  all_goals (go_ret; refine ⟨ret_i ?_, rfl⟩; rw [F.out]; simp [*])

theorem implPrim (op a b : Int) (w : World) :
    Calls Try.prog 9 #[.int .i64 op, .int .i64 a, .int .i64 b] w fun e w' => e = .returned (.int .i64 (primI op a b)) ∧ w = w' := by
  by_cases h : a < -999 ∨ 999 < a ∨ b < -999 ∨ 999 < b
  · have := implPrim_out op a b w h
    rw [show primI op a b = 0 from by unfold primI; rw [if_pos h]]
    exact this
  · exact implPrim_in op a b w (by omega) (by omega) (by omega) (by omega)

theorem specClamp (n : Int) (w : World) (h1 : -9223372036854775808 ≤ n) (h2 : n ≤ 9223372036854775807) :
    Calls Try.prog 16 #[.int .i64 n] w fun e w' => e = .returned (.int .i64 (clampI n)) ∧ w = w' := by
  go_enter Try.func16, Try.ntmps16
  go_wp2
  all_goals (go_ret; refine ⟨ret_i ?_, rfl⟩; simp [clampI]; try omega)

theorem specInRange (n lo hi : Int) (w : World) :
    Calls Try.prog 11 #[.int .i64 n, .int .i64 lo, .int .i64 hi] w fun e w' => e = .returned (.bool (decide (lo ≤ n ∧ n ≤ hi))) ∧ w = w' := by
  by_cases h1 : lo ≤ n
  all_goals by_cases h2 : n ≤ hi
  all_goals
    go_enter Try.func11, Try.ntmps11
    go_wp2
    all_goals (go_ret; exact ⟨by simp [*], rfl⟩)

set_option maxHeartbeats 800000 in
theorem specPrim2 (op a b : Int) (w : World) (h1 : -999 ≤ a) (h2 : a ≤ 999) (h3 : -999 ≤ b) (h4 : b ≤ 999) :
    Calls Try.prog 12 #[.int .i64 op, .int .i64 a, .int .i64 b] w fun e w' => e = .returned (.int .i64 (primI op a b)) ∧ w = w' := by
  have hm := mul_lo h1 h2 h3 h4
  obtain ⟨m1, m2⟩ := hm
  have fin : ∀ o : Int, primI o a b = if o = 1 then clampI (a + b) else if o = 2 then clampI (a - b) else if o = 3 then clampI (a * b)
      else if o = 4 then (if a < b then 1 else 0) else 0 := fun o => by unfold primI; rw [if_neg (by omega)]
  have F := Lib.hid fin
  clear fin
  by_cases o1 : op = 1
  · subst o1
    go_enter Try.func12, Try.ntmps12
    go_wp2_with (go_at_call 16; refine (specClamp _ _ (by omega) (by omega)).mono ?_; rintro e w' ⟨rfl, rfl⟩)
    go_ret
    exact ⟨ret_i (by rw [F.out]; simp), rfl⟩
  by_cases o2 : op = 2
  · subst o2
    go_enter Try.func12, Try.ntmps12
    go_wp2_with (go_at_call 16; refine (specClamp _ _ (by omega) (by omega)).mono ?_; rintro e w' ⟨rfl, rfl⟩)
    go_ret
    exact ⟨ret_i (by rw [F.out]; simp), rfl⟩
  by_cases o3 : op = 3
  · subst o3
    go_enter Try.func12, Try.ntmps12
    go_wp2_with (go_at_call 16; refine (specClamp _ _ (by omega) (by omega)).mono ?_; rintro e w' ⟨rfl, rfl⟩)
    go_ret
    exact ⟨ret_i (by rw [F.out]; simp), rfl⟩
  by_cases o4 : op = 4
  · subst o4
    by_cases hl : a < b
    all_goals
      go_enter Try.func12, Try.ntmps12
      go_wp2
      all_goals (go_ret; refine ⟨ret_i ?_, rfl⟩; rw [F.out]; simp [*])
  have n1 : (op == 1) = false := by simp [o1]
  have n2 : (op == 2) = false := by simp [o2]
  have n3 : (op == 3) = false := by simp [o3]
  have n4 : (op == 4) = false := by simp [o4]
  go_enter Try.func12, Try.ntmps12
  go_wp2
  all_goals (go_ret; refine ⟨ret_i ?_, rfl⟩; rw [F.out]; simp [*])

set_option maxHeartbeats 800000 in
theorem specPrim (op a b : Int) (w : World) :
    Calls Try.prog 8 #[.int .i64 op, .int .i64 a, .int .i64 b] w fun e w' => e = .returned (.int .i64 (primI op a b)) ∧ w = w' := by
  by_cases h1 : -999 ≤ a ∧ a ≤ 999
  · have d1 : decide (-999 ≤ a ∧ a ≤ 999) = true := by simpa using h1
    by_cases h2 : -999 ≤ b ∧ b ≤ 999
    · have d2 : decide (-999 ≤ b ∧ b ≤ 999) = true := by simpa using h2
      go_enter Try.func8, Try.ntmps8
      go_wp2_with (first
        | (go_at_call 11; refine (specInRange _ _ _ _).mono ?_; rintro e w' ⟨rfl, rfl⟩)
        | (go_at_call 12; refine (specPrim2 _ _ _ _ (by omega) (by omega) (by omega) (by omega)).mono ?_; rintro e w' ⟨rfl, rfl⟩))
      go_ret
      exact ⟨rfl, rfl⟩
    · have d2 : decide (-999 ≤ b ∧ b ≤ 999) = false := by simpa using h2
      have F : Hid (primI op a b = 0) := by unfold primI; show _ = _; rw [if_pos (by omega)]
      go_enter Try.func8, Try.ntmps8
      go_wp2_with (go_at_call 11; refine (specInRange _ _ _ _).mono ?_; rintro e w' ⟨rfl, rfl⟩)
      go_ret
      exact ⟨ret_i F.out.symm, rfl⟩
  · have d1 : decide (-999 ≤ a ∧ a ≤ 999) = false := by simpa using h1
    have F : Hid (primI op a b = 0) := by unfold primI; show _ = _; rw [if_pos (by omega)]
    go_enter Try.func8, Try.ntmps8
    go_wp2_with (go_at_call 11; refine (specInRange _ _ _ _).mono ?_; rintro e w' ⟨rfl, rfl⟩)
    go_ret
    exact ⟨ret_i F.out.symm, rfl⟩
end Go.Proofs.Ytdjihncfoghbgaa
