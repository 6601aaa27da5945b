/- The three laws of Prim over the drawn arguments: the walks. -/
import Derived.Test.YtdjihncfoghbgaaDrawPrim
import Derived.Test.YtdjihncfoghbgaaBytes
namespace Go.Proofs.Ytdjihncfoghbgaa
open Go.RowKit

theorem primI_bd (op a b : Int) : -999 ≤ primI op a b ∧ primI op a b ≤ 999 := by
  unfold primI clampI
  repeat' split
  all_goals omega
theorem primI_add (a b : Int) : primI 1 a b = primI 1 b a := by
  by_cases h : a < -999 ∨ 999 < a ∨ b < -999 ∨ 999 < b
  · have h' : b < -999 ∨ 999 < b ∨ a < -999 ∨ 999 < a := by omega
    simp [primI, h, h']
  · have h' : ¬ (b < -999 ∨ 999 < b ∨ a < -999 ∨ 999 < a) := by omega
    simp only [primI, if_neg h, if_neg h', if_true, Int.add_comm]
theorem primI_mul (a b : Int) : primI 3 a b = primI 3 b a := by
  by_cases h : a < -999 ∨ 999 < a ∨ b < -999 ∨ 999 < b
  · have h' : b < -999 ∨ 999 < b ∨ a < -999 ∨ 999 < a := by omega
    simp [primI, h, h']
  · have h' : ¬ (b < -999 ∨ 999 < b ∨ a < -999 ∨ 999 < a) := by omega
    simp [primI, if_neg h, if_neg h', Int.mul_comm]
theorem primI_sub (a b : Int) (ha : -999 ≤ a) (ha' : a ≤ 999) (hb : -999 ≤ b) (hb' : b ≤ 999) : primI 2 a b = - primI 2 b a ∧ primI 1 a 0 = a ∧ primI 3 b 1 = b := by
  have h : ¬ (a < -999 ∨ 999 < a ∨ b < -999 ∨ 999 < b) := by omega
  have h' : ¬ (b < -999 ∨ 999 < b ∨ a < -999 ∨ 999 < a) := by omega
  have h0 : ¬ (a < -999 ∨ 999 < a ∨ (0 : Int) < -999 ∨ 999 < (0 : Int)) := by omega
  have h1 : ¬ (b < -999 ∨ 999 < b ∨ (1 : Int) < -999 ∨ 999 < (1 : Int)) := by omega
  simp only [primI, if_neg h, if_neg h', if_neg h0, if_neg h1, clampI]
  simp
  refine ⟨?_, ?_, ?_⟩ <;> (repeat' split) <;> omega
theorem primI_less (a b : Int) (ha : -999 ≤ a) (ha' : a ≤ 999) (hb : -999 ≤ b) (hb' : b ≤ 999) : primI 4 a b = (if a < b then 1 else 0) := by
  have h : ¬ (a < -999 ∨ 999 < a ∨ b < -999 ∨ 999 < b) := by omega
  simp [primI, if_neg h]

set_option maxHeartbeats 800000 in
theorem fnPrim_walk (a : Option Addr) (len cap : Nat) (z : Nat → Int) (w : World) (h : Byt w a len z) (hlc : len ≤ cap) :
    Calls Try.prog 5 #[.slice a len cap] w fun e w' => e = .returned (.bool true) ∧ Keep w w' := by
  refine calls_k fun Q hQ => ?_
  by_cases hl : len ≤ 1048576
  · go_enter Try.func5, Try.ntmps5
    go_wp2_with fail
    refine (drawPrim_any a len cap z w h hlc hl).mono ?_
    rintro e w1 ⟨op, x, y, rfl, hx1, hx2, hy1, hy2, hk⟩
    obtain ⟨b1, b2⟩ := primI_bd op x y
    have e1 : (primI 1 x y == primI 1 y x) = true := by rw [primI_add]; simp
    have e3 : (primI 3 x y == primI 3 y x) = true := by rw [primI_mul]; simp
    have e2 : (primI 1 1 1 == 2) = true := by decide
    go_wp2_with (first
      | (go_at_call 9; refine (implPrim _ _ _ _).mono ?_; rintro e w2 ⟨rfl, rfl⟩)
      | (go_at_call 8; refine (specPrim _ _ _ _).mono ?_; rintro e w2 ⟨rfl, rfl⟩))
    exact fin_ hQ ⟨rfl, hk⟩
  · go_enter Try.func5, Try.ntmps5
    go_wp2_with fail
    exact fin_ hQ ⟨rfl, Ext.refl _ _⟩

theorem rangeOut {x y : Int} (h : ¬ (-999 ≤ x ∧ x ≤ 999 ∧ -999 ≤ y ∧ y ≤ 999)) : x < -999 ∨ (-999 ≤ x ∧ 999 < x) ∨ (-999 ≤ x ∧ x ≤ 999 ∧ y < -999) ∨ (-999 ≤ x ∧ x ≤ 999 ∧ -999 ≤ y ∧ 999 < y) := by omega

set_option maxHeartbeats 800000 in
theorem fnPrimSub_walk (a : Option Addr) (len cap : Nat) (z : Nat → Int) (w : World) (h : Byt w a len z) (hlc : len ≤ cap) :
    Calls Try.prog 7 #[.slice a len cap] w fun e w' => e = .returned (.bool true) ∧ Keep w w' := by
  refine calls_k fun Q hQ => ?_
  by_cases hl : len ≤ 1048576
  · go_enter Try.func7, Try.ntmps7
    go_wp2_with fail
    refine (drawPrim_any a len cap z w h hlc hl).mono ?_
    rintro e w1 ⟨op, x, y, rfl, hx1, hx2, hy1, hy2, hk⟩
    by_cases hr : -999 ≤ x ∧ x ≤ 999 ∧ -999 ≤ y ∧ y ≤ 999
    · obtain ⟨q1, q2, q3, q4⟩ := hr
      obtain ⟨s1, s2, s3⟩ := primI_sub x y q1 q2 q3 q4
      obtain ⟨b1, b2⟩ := primI_bd 2 y x
      have e1 : (primI 2 x y == -primI 2 y x) = true := by rw [s1]; simp
      have e2 : (primI 1 x 0 == x) = true := by rw [s2]; simp
      have e3 : (primI 3 y 1 == y) = true := by rw [s3]; simp
      clear s1 s2 s3
      go_wp2_with (first
        | (go_at_call 9; refine (implPrim _ _ _ _).mono ?_; rintro e w2 ⟨rfl, rfl⟩)
        | (go_at_call 8; refine (specPrim _ _ _ _).mono ?_; rintro e w2 ⟨rfl, rfl⟩))
      exact fin_ hQ ⟨rfl, hk⟩
    · rcases rangeOut hr with q | ⟨q1, q2⟩ | ⟨q1, q2, q3⟩ | ⟨q1, q2, q3, q4⟩
      all_goals
        clear hr
        go_wp2_with (first
          | (go_at_call 9; refine (implPrim _ _ _ _).mono ?_; rintro e w2 ⟨rfl, rfl⟩)
          | (go_at_call 8; refine (specPrim _ _ _ _).mono ?_; rintro e w2 ⟨rfl, rfl⟩))
        exact fin_ hQ ⟨rfl, hk⟩
  · go_enter Try.func7, Try.ntmps7
    go_wp2_with fail
    exact fin_ hQ ⟨rfl, Ext.refl _ _⟩

set_option maxHeartbeats 800000 in
theorem fnPrimLess_walk (a : Option Addr) (len cap : Nat) (z : Nat → Int) (w : World) (h : Byt w a len z) (hlc : len ≤ cap) :
    Calls Try.prog 6 #[.slice a len cap] w fun e w' => e = .returned (.bool true) ∧ Keep w w' := by
  refine calls_k fun Q hQ => ?_
  by_cases hl : len ≤ 1048576
  · go_enter Try.func6, Try.ntmps6
    go_wp2_with fail
    refine (drawPrim_any a len cap z w h hlc hl).mono ?_
    rintro e w1 ⟨op, x, y, rfl, hx1, hx2, hy1, hy2, hk⟩
    by_cases hr : -999 ≤ x ∧ x ≤ 999 ∧ -999 ≤ y ∧ y ≤ 999
    · obtain ⟨q1, q2, q3, q4⟩ := hr
      have s1 := primI_less x y q1 q2 q3 q4
      have s2 := primI_less y x q3 q4 q1 q2
      have s3 := primI_less x x q1 q2 q1 q2
      have e3 : (primI 4 x x == 0) = true := by rw [s3]; simp
      have e4 : (primI 4 0 1 == 1) = true := by decide
      have b1 : 0 ≤ primI 4 x y ∧ primI 4 x y ≤ 1 := by rw [s1]; split <;> omega
      have b2 : 0 ≤ primI 4 y x ∧ primI 4 y x ≤ 1 := by rw [s2]; split <;> omega
      obtain ⟨b11, b12⟩ := b1
      obtain ⟨b21, b22⟩ := b2
      by_cases hxy : x = y
      · subst hxy
        have e5 : (primI 4 x x + primI 4 x x == 0) = true := by rw [s3]; simp
        clear s1 s2 s3
        go_wp2_with (first
          | (go_at_call 9; refine (implPrim _ _ _ _).mono ?_; rintro e w2 ⟨rfl, rfl⟩)
          | (go_at_call 8; refine (specPrim _ _ _ _).mono ?_; rintro e w2 ⟨rfl, rfl⟩))
        exact fin_ hQ ⟨rfl, hk⟩
      · have e1 : (x == y) = false := by simp [hxy]
        have e2 : (x != y) = true := by simp [hxy]
        have e5 : (primI 4 x y + primI 4 y x == 1) = true := by
          rw [s1, s2]; simp; split <;> split <;> omega
        clear s1 s2 s3
        go_wp2_with (first
          | (go_at_call 9; refine (implPrim _ _ _ _).mono ?_; rintro e w2 ⟨rfl, rfl⟩)
          | (go_at_call 8; refine (specPrim _ _ _ _).mono ?_; rintro e w2 ⟨rfl, rfl⟩))
        exact fin_ hQ ⟨rfl, hk⟩
    · rcases rangeOut hr with q | ⟨q1, q2⟩ | ⟨q1, q2, q3⟩ | ⟨q1, q2, q3, q4⟩
      all_goals
        clear hr
        go_wp2_with (first
          | (go_at_call 9; refine (implPrim _ _ _ _).mono ?_; rintro e w2 ⟨rfl, rfl⟩)
          | (go_at_call 8; refine (specPrim _ _ _ _).mono ?_; rintro e w2 ⟨rfl, rfl⟩))
        exact fin_ hQ ⟨rfl, hk⟩
  · go_enter Try.func6, Try.ntmps6
    go_wp2_with fail
    exact fin_ hQ ⟨rfl, Ext.refl _ _⟩
end Go.Proofs.Ytdjihncfoghbgaa
