/- Plain facts on Shift's condition. -/
import Derived.Test.YtomgellcpjimjaaHP
import Derived.Test.YtomgellcpjimjaaHF
namespace Go.Proofs.Ytomgellcpjimjaa
open Go.RowKit
theorem shOk_parts {k d op num : Int} {es : List ExprL} (h : shOk k d op num es = true) : nEs es + 1 ≤ 30 ∧ (0 ≤ k ∧ k ≤ 99) ∧ (0 ≤ d ∧ d ≤ 99) ∧ vfE (.mk op num es) = true := by
  rw [shOk, Bool.and_eq_true, Bool.and_eq_true, Bool.and_eq_true] at h
  exact ⟨of_decide_eq_true h.1.1.1, of_decide_eq_true h.1.1.2, of_decide_eq_true h.1.2, by rw [vfE]; exact h.2⟩
theorem shOk_of {k d op num : Int} {es : List ExprL} (h1 : nEs es + 1 ≤ 30) (h2 : 0 ≤ k ∧ k ≤ 99) (h3 : 0 ≤ d ∧ d ≤ 99) (h4 : vfE (.mk op num es) = true) : shOk k d op num es = true := by
  rw [shOk, decide_eq_true h1, decide_eq_true h2, decide_eq_true h3]
  rw [vfE] at h4
  simpa using h4
end Go.Proofs.Ytomgellcpjimjaa
