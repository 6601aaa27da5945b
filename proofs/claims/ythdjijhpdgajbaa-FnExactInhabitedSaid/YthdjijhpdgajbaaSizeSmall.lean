/- Sizes of declarations that are small. -/
import Derived.Test.YthdjijhpdgajbaaSizeDecl
import Derived.Test.YthdjijhpdgajbaaToDecl2
import Derived.Test.YthdjijhpdgajbaaEqDecl
namespace Go.Proofs.Ythdjijhpdgajbaa
open Go.RowKit

theorem szC_small {cs : List (List Int)} {m : Nat} (h : szC cs ≤ m) : cs.length ≤ m ∧ ∀ j, j < cs.length → (cAt cs j).length ≤ m := by
  unfold szC at h
  refine ⟨by omega, fun j hj => ?_⟩
  have := sumTo_part (f := fun i => (cAt cs i).length) hj
  omega
theorem szD_small {ds : List DeclL} (h : szDL ds ≤ 1048576) : ds.length ≤ 1048576 ∧ ∀ i, i < ds.length → (dAt ds i).cons.length ≤ 1048576 ∧ ∀ j, j < (dAt ds i).cons.length → (cAt (dAt ds i).cons j).length ≤ 1048576 := by
  unfold szDL at h
  refine ⟨by omega, fun i hi => ?_⟩
  have := sumTo_part (f := fun i => szC (dAt ds i).cons) hi
  exact szC_small (by omega)
theorem szD_smallD {ds : List DeclL} (h : szDL ds ≤ 1048576) : SmallD ds := by
  obtain ⟨h1, h2⟩ := szD_small h
  exact ⟨by omega, fun i hi => ⟨by have := (h2 i hi).1; omega, fun j hj => by have := (h2 i hi).2 j hj; omega⟩⟩

end Go.Proofs.Ythdjijhpdgajbaa
