/- ReachedFrom of both packages. -/
import Derived.Test.YtkapldpmjkdmcaaGreatRBE
import Derived.Test.YtkapldpmjkdmcaaGreatRBF
import Derived.Test.YtkapldpmjkdmcaaGreatRBG
import Derived.Test.YtkapldpmjkdmcaaGreatRAJ
import Derived.Deep.LoopGhost
import Derived.Test.YtkapldpmjkdmcaaGreatRAZ
import Derived.Test.YtkapldpmjkdmcaaGreatRAE
namespace Go.Proofs.YtkapldpmjkdmcaaGreat
open Go.RowKit

/-- The functions that the body of a function names. -/
def calF (fs : List FuncL) (i : Nat) : List Int := calL (fAt fs i).body
/-- What both functions ReachedFrom return. -/
def reachedL (ds : List DeclL) (fs : List FuncL) (z : Int) : List Int := if progOk ds fs = true ∧ 0 ≤ z ∧ z < (fs.length : Int) then reachL (calF fs) fs.length z else []
end Go.Proofs.YtkapldpmjkdmcaaGreat
/- Plain facts for the laws on unused parameters, callees and reached functions. -/
namespace Go.Proofs.YtkapldpmjkdmcaaGreat
open Go.RowKit
/-! ### Unused parameters -/
theorem idxFrom_not (k : Nat) (bs : List Bool) : (idxFrom k bs).length + (idxFrom k (bs.map (!·))).length = bs.length := by
  induction bs generalizing k with
  | nil => simp [idxFrom]
  | cons b bs ih =>
    have := ih (k + 1)
    cases b <;> simp [idxFrom] <;> omega
theorem bAtL_not {bs : List Bool} {i : Nat} (h : i < bs.length) : bAtL (bs.map (!·)) i = !bAtL bs i := by
  rw [bAtL_eq (by simpa using h), bAtL_eq h]; simp
theorem unused_mem {ds : List DeclL} {fs : List FuncL} {z : Int} (hp : progOk ds fs = true) (h0 : 0 ≤ z) (h1 : z < (fs.length : Int)) {i : Nat} (hi : i < (fAt fs z.toNat).params.length) :
    ((i : Int) ∈ unusedL ds fs z ↔ mE (i : Int) (fAt fs z.toNat).body = 0) := by
  rw [unusedL, if_pos ⟨hp, h0, h1⟩, idxL_mem]
  constructor
  · rintro ⟨j, hj, e, hb⟩
    rw [unuB_len] at hj
    rw [unuB_at hj] at hb
    have : i = j := by omega
    subst this
    exact of_decide_eq_true hb
  · intro hm
    exact ⟨i, by rw [unuB_len]; exact hi, rfl, by rw [unuB_at hi]; exact decide_eq_true hm⟩
theorem unused_asc (ds : List DeclL) (fs : List FuncL) (z : Int) : Asc (unusedL ds fs z) := by
  unfold unusedL
  split
  · exact idxL_asc _
  · exact List.Pairwise.nil
theorem body_nodes {ds : List DeclL} {fs : List FuncL} (hp : progOk ds fs = true) {i : Nat} (hi : i < fs.length) : nEs (fAt fs i).body.kids + 1 ≤ 30 := (bodyOk_parts (progOk_parts hp).1 hi ((progOk_parts hp).2 i hi)).1
/-- Parameters are free or unused. -/
theorem unused_len {ds : List DeclL} {fs : List FuncL} {z : Int} (hp : progOk ds fs = true) (h0 : 0 ≤ z) (h1 : z < (fs.length : Int)) :
    (unusedL ds fs z).length + (freeL ((fAt fs z.toNat).params.length : Int) (fAt fs z.toNat).body.op (fAt fs z.toNat).body.num (fAt fs z.toNat).body.kids).length = (fAt fs z.toNat).params.length := by
  have hn := body_nodes hp (i := z.toNat) (by omega)
  have e : freeL ((fAt fs z.toNat).params.length : Int) (fAt fs z.toNat).body.op (fAt fs z.toNat).body.num (fAt fs z.toNat).body.kids = idxL ((unuB (fAt fs z.toNat)).map (!·)) := by
    refine asc_ext (freeL_asc _ _ _ _) (idxL_asc _) (fun x => ?_)
    rw [freeL_mem hn, idxL_mem]
    have eta : ExprL.mk (fAt fs z.toNat).body.op (fAt fs z.toNat).body.num (fAt fs z.toNat).body.kids = (fAt fs z.toNat).body := by cases (fAt fs z.toNat).body; rfl
    rw [eta]
    constructor
    · rintro ⟨h3, h4, h5⟩
      obtain ⟨i, rfl⟩ := Int.eq_ofNat_of_zero_le h3
      have hi : i < (fAt fs z.toNat).params.length := by omega
      refine ⟨i, by simp [unuB_len]; exact hi, rfl, ?_⟩
      rw [bAtL_not (by rw [unuB_len]; exact hi), unuB_at hi, decide_eq_false (by omega)]
      rfl
    · rintro ⟨i, hi, rfl, hb⟩
      have hi : i < (fAt fs z.toNat).params.length := by simpa [unuB_len] using hi
      rw [bAtL_not (by rw [unuB_len]; exact hi), unuB_at hi] at hb
      refine ⟨by omega, by omega, ?_⟩
      refine Nat.pos_of_ne_zero fun h => ?_
      rw [decide_eq_true h] at hb
      cases hb
  rw [e, unusedL, if_pos ⟨hp, h0, h1⟩]
  have := idxFrom_not 0 (unuB (fAt fs z.toNat))
  rw [unuB_len] at this
  exact this

/-! ### Callees and reached functions -/
section
variable {ds : List DeclL} {fs : List FuncL} {z : Int}
end
end Go.Proofs.YtkapldpmjkdmcaaGreat
/- Plain facts and cells for the laws on programs. -/
namespace Go.Proofs.YtkapldpmjkdmcaaGreat
open Go.RowKit
end Go.Proofs.YtkapldpmjkdmcaaGreat
