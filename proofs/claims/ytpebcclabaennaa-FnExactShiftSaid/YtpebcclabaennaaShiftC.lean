/- How large a shifted expression is. -/
import Derived.Test.YtpebcclabaennaaShift7
import Derived.Test.YtpebcclabaennaaCnt
import Derived.Test.YtpebcclabaennaaExprPlain
namespace Go.Proofs.Ytpebcclabaennaa
open Go.RowKit

mutual
theorem sz_rowE : ∀ e : ExprL, szR (rowE e) + 1 = nE e
  | .mk op num ks => by
    have := sz_rowsE ks
    have hl : (rowsE ks).length = ks.length := by rw [rowsE_map]; simp
    simp only [rowE, szR, szD, hl, nE]; omega
theorem sz_rowsE : ∀ es : List ExprL, es.length + szRR (rowsE es) = nEs es
  | [] => by simp [rowsE, szRR, nEs]
  | e :: es => by
    have h1 := sz_rowE e
    have h2 := sz_rowsE es
    simp only [rowsE, szRR, List.length_cons, nEs]; omega
end
theorem sz_exprs (es : List ExprL) : szD (encExprs es) = nEs es := by
  have hl : (rowsE es).length = es.length := by rw [rowsE_map]; simp
  rw [encExprs, szD, hl, sz_rowsE]
mutual
theorem nE_shE (k d : Int) : ∀ e : ExprL, nE (shE k d e) = nE e
  | .mk op num ks => by rw [shE, nE, nE, nEs_shEs k d ks]
theorem nEs_shEs (k d : Int) : ∀ es : List ExprL, nEs (shEs k d es) = nEs es
  | [] => by rw [shEs]
  | e :: es => by rw [shEs, nEs, nEs, nE_shE k d e, nEs_shEs k d es]
end
theorem shR_cnt (k d op num : Int) (es : List ExprL) : Hid (cntD (encExprs (shR k d op num es).kids) ≤ 3000000) := by
  show _ ≤ _
  have h1 := cnt_exprs (shR k d op num es).kids
  rw [sz_exprs] at h1
  have h2 : nEs (shR k d op num es).kids ≤ 30 := by
    rw [shR]
    split
    · next h =>
      rw [shE_eq]
      show nEs (shEs k d es) ≤ 30
      rw [nEs_shEs]
      simp only [shOk, Bool.and_eq_true, decide_eq_true_eq] at h
      omega
    · simp [ExprL.kids, nEs]
  omega
end Go.Proofs.Ytpebcclabaennaa
