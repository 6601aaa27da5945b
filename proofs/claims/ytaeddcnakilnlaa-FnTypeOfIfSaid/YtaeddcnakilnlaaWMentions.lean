/- Mentions of a variable, counted by the reference and by the program. -/
import Derived.Test.YtaeddcnakilnlaaWNodes
import Derived.Test.YtaeddcnakilnlaaME
namespace Go.Proofs.Ytaeddcnakilnlaa
open Go.RowKit

def one (b : Prop) [Decidable b] : Nat := if b then 1 else 0
theorem mE_mk (v op num : Int) (es : List ExprL) : mE v (.mk op num es) = (if op = 12 ∧ num = v then 1 else 0) + mEs v es := rfl

/-- The number of mentions; -1 if there are too many nodes. -/
def mentL (x op num : Int) (es : List ExprL) : Int := if nEs es + 1 ≤ 30 then (mE x (.mk op num es) : Int) else -1
theorem mentL_yes {x op num : Int} {es : List ExprL} (h : nEs es + 1 ≤ 30) : mentL x op num es = (mE x (.mk op num es) : Int) := if_pos h
theorem mentL_no {x op num : Int} {es : List ExprL} (h : ¬ nEs es + 1 ≤ 30) : mentL x op num es = -1 := if_neg h


def mvis (x : Int) (op num : Int) (s : Nat) : Nat := if op = 12 ∧ num = x then s + 1 else s
theorem mvis_eq (x op num : Int) (s : Nat) : mvis x op num s = s + if op = 12 ∧ num = x then 1 else 0 := by unfold mvis; split <;> rfl
mutual
theorem mvisE (x : Int) : ∀ (e : ExprL) (s : Nat), visE (mvis x) e s = s + mE x e
  | .mk op num ks, s => by rw [visE, mvisEs x ks, mvis_eq, mE]; omega
theorem mvisEs (x : Int) : ∀ (es : List ExprL) (s : Nat), visEs (mvis x) es s = s + mEs x es
  | [], s => rfl
  | k :: ks, s => by rw [visEs, mvisE x k, mvisEs x ks, mEs]; omega
end

/-- What the visits of MentionsOf keep: block p holds the variable, block q the number. -/
def MInv (x : Int) (p q : Nat) (k : Nat) (s : Nat) (w : World) : Prop := w.rowIs p 3 1 (fun _ => .int .i64 x) ∧ w.rowIs q 3 1 (fun _ => .int .i64 (s : Int)) ∧ p ≠ q ∧ s ≤ k

end Go.Proofs.Ytaeddcnakilnlaa
