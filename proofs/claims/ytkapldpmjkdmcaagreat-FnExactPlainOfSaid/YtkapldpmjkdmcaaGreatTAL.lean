/- The program's types of expressions: if. -/
import Derived.Test.YtkapldpmjkdmcaaGreatTAK
import Derived.Test.YtkapldpmjkdmcaaGreatTAJ
import Derived.Test.YtkapldpmjkdmcaaGreatTAD
namespace Go.Proofs.YtkapldpmjkdmcaaGreat
open Go.RowKit

section
variable (ds : List DeclL) (sg : List SigL) (hok : sigsOk ds sg = true)
include hok

end
end Go.Proofs.YtkapldpmjkdmcaaGreat
/- The program's types of expressions: match. -/
namespace Go.Proofs.YtkapldpmjkdmcaaGreat
open Go.RowKit

theorem consL_rg {ds : List DeclL} (hf : Few ds) (t : Int) {i : Nat} (h : i < (consL ds t).length) : 0 ≤ iAt (consL ds t) i ∧ iAt (consL ds t) i ≤ 1049576 := by
  rw [iAt_eq h]
  have hm := List.getElem_mem h
  generalize (consL ds t)[i] = z at hm
  unfold consL at hm
  split at hm
  · next hr =>
    obtain ⟨k, hk, rfl⟩ := List.mem_map.1 hm
    have h1 := List.mem_range.1 hk
    have h2 := hf.2 (t.toNat - 1) (by omega)
    have h3 := firstN_le hf (k := t.toNat - 1) (by omega)
    have h4 := hf.1
    omega
  · simp at hm
section
variable (ds : List DeclL) (sg : List SigL) (hok : sigsOk ds sg = true)
include hok

end
end Go.Proofs.YtkapldpmjkdmcaaGreat
