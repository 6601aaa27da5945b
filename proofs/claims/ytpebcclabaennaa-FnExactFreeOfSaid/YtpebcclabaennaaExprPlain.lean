/- Expressions in plain Lean: nodes, mentions. -/
import Derived.Test.YtpebcclabaennaaTyp
namespace Go.Proofs.Ytpebcclabaennaa

mutual
/-- The number of nodes. -/
def nE : ExprL → Nat
  | .mk _ _ ks => nEs ks + 1
def nEs : List ExprL → Nat
  | [] => 0
  | k :: ks => nE k + nEs ks
end
theorem nE_eq (e : ExprL) : nE e = nEs e.kids + 1 := by cases e; rfl
theorem nE_pos (e : ExprL) : 1 ≤ nE e := by rw [nE_eq]; omega
theorem nEs_append (a b : List ExprL) : nEs (a ++ b) = nEs a + nEs b := by induction a <;> simp_all [nEs, Nat.add_assoc]
theorem take_succ_eAt (es : List ExprL) {j : Nat} (h : j < es.length) : es.take (j + 1) = es.take j ++ [eAt es j] := by rw [List.take_succ_eq_append_getElem h, eAt_get h]
theorem nEs_take (es : List ExprL) {j : Nat} (h : j < es.length) : nEs (es.take (j + 1)) = nEs (es.take j) + nE (eAt es j) := by rw [take_succ_eAt es h, nEs_append]; simp [nEs]
theorem nEs_take_le (es : List ExprL) (j : Nat) : nEs (es.take j) ≤ nEs es := by
  rw [← List.take_append_drop j es, nEs_append]; simp
theorem nE_le (es : List ExprL) {j : Nat} (h : j < es.length) : nE (eAt es j) ≤ nEs es := by
  have h1 := nEs_take es h
  have h2 := nEs_take_le es (j + 1)
  omega
theorem nEs_len (es : List ExprL) : es.length ≤ nEs es := by
  induction es with
  | nil => simp
  | cons e es ih => have := nE_pos e; simp only [List.length_cons, nEs]; omega

mutual
/-- How often a variable is mentioned. -/
def mE (v : Int) : ExprL → Nat
  | .mk op num ks => (if op = 12 ∧ num = v then 1 else 0) + mEs v ks
def mEs (v : Int) : List ExprL → Nat
  | [] => 0
  | k :: ks => mE v k + mEs v ks
end
theorem mE_eq (v : Int) (e : ExprL) : mE v e = (if e.op = 12 ∧ e.num = v then 1 else 0) + mEs v e.kids := by cases e; rfl
theorem mEs_append (v : Int) (a b : List ExprL) : mEs v (a ++ b) = mEs v a + mEs v b := by induction a <;> simp_all [mEs, Nat.add_assoc]
theorem mEs_take (v : Int) (es : List ExprL) {j : Nat} (h : j < es.length) : mEs v (es.take (j + 1)) = mEs v (es.take j) + mE v (eAt es j) := by rw [take_succ_eAt es h, mEs_append]; simp [mEs]
mutual
theorem mE_le (v : Int) : ∀ e : ExprL, mE v e ≤ nE e
  | .mk op num ks => by
    have := mEs_le v ks
    rw [mE, nE]
    split <;> omega
theorem mEs_le (v : Int) : ∀ es : List ExprL, mEs v es ≤ nEs es
  | [] => Nat.le_refl _
  | k :: ks => by
    have := mE_le v k
    have := mEs_le v ks
    rw [mEs, nEs]
    omega
end
theorem mEs_take_le (v : Int) (es : List ExprL) (j : Nat) : mEs v (es.take j) ≤ mEs v es := by
  conv => rhs; rw [← List.take_append_drop j es, mEs_append]
  omega
end Go.Proofs.Ytpebcclabaennaa
