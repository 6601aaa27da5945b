/- Sizes of data, as the laws count them: in plain Lean. -/
import Derived.Test.YthdjijhpdgajbaaTypesPlain
namespace Go.Proofs.Ythdjijhpdgajbaa

def sumTo (f : Nat → Nat) : Nat → Nat
  | 0 => 0
  | k + 1 => sumTo f k + f k
theorem sumTo_le {f : Nat → Nat} {i j : Nat} (h : i ≤ j) : sumTo f i ≤ sumTo f j := by
  induction h with
  | refl => exact Nat.le_refl _
  | step _ ih => simp only [sumTo]; omega
theorem sumTo_part {f : Nat → Nat} {i n : Nat} (h : i < n) : f i ≤ sumTo f n := by
  have := sumTo_le (f := f) (i := i + 1) (j := n) h
  simp only [sumTo] at this
  omega
def szOut (left : Int) (s : Nat) : Int := if left < (s : Int) then -1 else left - (s : Int)
theorem szOut_neg {left : Int} {s : Nat} (h : left < (s : Int)) : szOut left s = -1 := if_pos h
theorem szOut_pos {left : Int} {s : Nat} (h : (s : Int) ≤ left) : szOut left s = left - (s : Int) := if_neg (by omega)

def szC (cs : List (List Int)) : Nat := cs.length + sumTo (fun i => (cAt cs i).length) cs.length
def szDL (ds : List DeclL) : Nat := ds.length + sumTo (fun i => szC (dAt ds i).cons) ds.length
/-- No list is longer than any can be. -/
def LensC (cs : List (List Int)) : Prop := cs.length ≤ 9223372036854775807 ∧ ∀ i, i < cs.length → (cAt cs i).length ≤ 9223372036854775807
def LensD (ds : List DeclL) : Prop := ds.length ≤ 9223372036854775807 ∧ ∀ i, i < ds.length → LensC (dAt ds i).cons
end Go.Proofs.Ythdjijhpdgajbaa
