/- The reference's types of expressions. -/
import Derived.Test.YtmekdccgjgfiaaaQAH
import Derived.Test.YtmekdccgjgfiaaaQAG
namespace Go.Proofs.Ytmekdccgjgfiaaa
open Go.RowKit

section
variable (ds : List DeclL) (sg : List SigL) (vars : List Int)
theorem tyE_12 (num : Int) (ks : List ExprL) : tyE ds sg vars (.mk 12 num ks) = if ks.length = 0 ∧ 0 ≤ num ∧ num < (vars.length : Int) then iAt vars num.toNat else -1 := by rw [tyE, if_pos rfl]
theorem tyE_13 (num : Int) (ks : List ExprL) : tyE ds sg vars (.mk 13 num ks) = if num = 0 ∧ ks.length = 2 then tyLet ds sg vars ks else -1 := by rw [tyE, if_neg (by omega), if_pos rfl]
theorem tyE_7 (num : Int) (ks : List ExprL) : tyE ds sg vars (.mk 7 num ks) = if num = 0 ∧ ks.length = 3 ∧ tyHd ds sg vars ks = 0 then oneT (tyTl ds sg vars ks [[], []]) else -1 := by rw [tyE, if_neg (by omega), if_neg (by omega), if_pos rfl]
theorem tyE_8 (num : Int) (ks : List ExprL) : tyE ds sg vars (.mk 8 num ks) = matchL ds sg vars num ks := by rw [tyE, if_neg (by omega), if_neg (by omega), if_neg (by omega), if_pos rfl]; rfl
theorem tyE_simple {op : Int} (num : Int) (ks : List ExprL) (h : op ≠ 12 ∧ op ≠ 13 ∧ op ≠ 7 ∧ op ≠ 8) : tyE ds sg vars (.mk op num ks) = simpleL ds sg op num (tyEs ds sg vars ks) := by rw [tyE, if_neg h.1, if_neg h.2.1, if_neg h.2.2.1, if_neg h.2.2.2]
theorem simple_0 (num : Int) (tys : List Int) : simpleL ds sg 0 num tys = if tys = [] ∧ -999 ≤ num ∧ num ≤ 999 then 0 else -1 := by rw [simpleL, if_pos rfl]
theorem simple_bin {op : Int} (num : Int) (tys : List Int) (h : op = 1 ∨ op = 2 ∨ op = 3 ∨ op = 4) : simpleL ds sg op num tys = if num = 0 ∧ tys = [0, 0] then 0 else -1 := by rw [simpleL, if_neg (by omega), if_pos h]
theorem simple_5 (num : Int) (tys : List Int) : simpleL ds sg 5 num tys = if num = 0 ∧ tys = [0] then 0 else -1 := by rw [simpleL, if_neg (by omega), if_neg (by omega), if_pos rfl]
theorem simple_11 (num : Int) (tys : List Int) : simpleL ds sg 11 num tys = if num = 0 ∧ tys.length = 2 ∧ isArr ds (iAt tys 0) = true ∧ iAt tys 1 = (dAt ds ((iAt tys 0).toNat - 1)).from_ then (dAt ds ((iAt tys 0).toNat - 1)).to_ else -1 := by rw [simpleL, if_neg (by omega), if_neg (by omega), if_neg (by omega), if_pos rfl]
theorem simple_6 (num : Int) (tys : List Int) : simpleL ds sg 6 num tys = if 0 < conTypeL ds num ∧ tys = conFieldsL ds num then conTypeL ds num else -1 := by rw [simpleL, if_neg (by omega), if_neg (by omega), if_neg (by omega), if_neg (by omega), if_pos rfl]
theorem simple_other {op : Int} (num : Int) (tys : List Int) (h : op < 0 ∨ 13 < op) : simpleL ds sg op num tys = -1 := by
  rw [simpleL, if_neg (by omega), if_neg (by omega), if_neg (by omega), if_neg (by omega), if_neg (by omega), if_neg (by omega), if_neg (by omega)]
end

set_option maxHeartbeats 1000000 in
theorem specIsArrow (a : Option Addr) (n c : Nat) (ds : List DeclL) (D : Nat → Prop) (t : Int) (w : World) (h : DeclsR w D a n ds) (hn : n ≤ 1049576) :
    Calls Try.prog 69 #[.slice a n c, .int .i64 t] w fun e w' => e = .returned (.bool (isArr ds t)) ∧ w = w' := by
  refine calls_k fun Q hQ => ?_
  have HL := Lib.hid h.1
  by_cases ht : 1 ≤ t ∧ t ≤ (n : Int)
  · obtain ⟨k, rfl⟩ : ∃ k : Nat, t = (k : Int) + 1 := ⟨(t - 1).toNat, by omega⟩
    have hd : decide (1 ≤ (k : Int) + 1 ∧ (k : Int) + 1 ≤ (n : Int)) = true := decide_eq_true ht
    have hk : k < n := by omega
    obtain ⟨b, o, rfl, _, hc⟩ := h.2 (by omega)
    obtain ⟨_, _, a', m, c', c2, _, hcons⟩ := hc k hk
    have V0 : Hid (isArr ds ((k : Int) + 1) = decide (m = 0)) := by
      show _ = _
      rw [isArr, decide_eq_true (by have := HL.out; omega), Bool.true_and, show ((k : Int) + 1).toNat - 1 = k by omega, hcons.1]
    clear hc hcons ht
    rcases Nat.eq_zero_or_pos m with h0 | h0
    · subst h0
      go_enter Try.func69, Try.ntmps69
      go_wp2_with fail
      refine (specInRange _ _ _ _).mono ?_
      rw [hd]
      rintro e w1 ⟨rfl, rfl⟩
      go_wp2_with fail
      exact fin_ hQ ⟨ret_b (by rw [V0.out]; rfl), rfl⟩
    · have hz : ((m : Int) == 0) = false := by simp; omega
      go_enter Try.func69, Try.ntmps69
      go_wp2_with fail
      refine (specInRange _ _ _ _).mono ?_
      rw [hd]
      rintro e w1 ⟨rfl, rfl⟩
      go_wp2_with fail
      exact fin_ hQ ⟨ret_b (by rw [V0.out]; exact (decide_eq_false (by omega)).symm), rfl⟩
  · have hd : decide (1 ≤ t ∧ t ≤ (n : Int)) = false := decide_eq_false ht
    have V0 : Hid (isArr ds t = false) := by show _ = _; rw [isArr, decide_eq_false (by rw [HL.out]; exact ht)]; rfl
    clear ht
    go_enter Try.func69, Try.ntmps69
    go_wp2_with fail
    refine (specInRange _ _ _ _).mono ?_
    rw [hd]
    rintro e w1 ⟨rfl, rfl⟩
    go_wp2_with fail
    exact fin_ hQ ⟨ret_b V0.out.symm, rfl⟩

section
variable (ds : List DeclL) (fs : List FuncL) (hok : sigsOk ds (fs.map sigF) = true)
include hok

end
end Go.Proofs.Ytmekdccgjgfiaaa
