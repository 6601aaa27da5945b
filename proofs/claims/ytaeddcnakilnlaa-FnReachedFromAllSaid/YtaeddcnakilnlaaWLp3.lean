/- Plain facts for the laws on unused parameters, callees and reached functions. -/
import Derived.Test.YtaeddcnakilnlaaMW
import Derived.Test.YtaeddcnakilnlaaMV
import Derived.Test.YtaeddcnakilnlaaWLawHelp
namespace Go.Proofs.Ytaeddcnakilnlaa
open Go.RowKit
/-! ### Unused parameters -/
/-! ### Callees and reached functions -/
section
variable {ds : List DeclL} {fs : List FuncL} {z : Int}
theorem callees_eq (hp : progOk ds fs = true) (h0 : 0 ≤ z) (h1 : z < (fs.length : Int)) : calleesL ds fs z = calF fs z.toNat := by rw [calleesL, if_pos ⟨hp, h0, h1⟩]; rfl
theorem callees_asc (ds : List DeclL) (fs : List FuncL) (z : Int) : Asc (calleesL ds fs z) := by
  unfold calleesL
  split
  · next h => exact calL_asc (progOk_cal h.1 (by omega))
  · exact List.Pairwise.nil
theorem reached_asc (ds : List DeclL) (fs : List FuncL) (z : Int) : Asc (reachedL ds fs z) := by
  unfold reachedL
  split
  · exact reachL_asc
  · exact List.Pairwise.nil
theorem callees_range {x : Int} (h : x ∈ calleesL ds fs z) : 0 ≤ x ∧ x < (fs.length : Int) := by
  unfold calleesL at h
  split at h
  · next h1 => exact progOk_calF h1.1 z.toNat (by omega) x h
  · simp at h
theorem reached_cond (h : 0 < (reachedL ds fs z).length) : progOk ds fs = true ∧ 0 ≤ z ∧ z < (fs.length : Int) := by
  refine Classical.byContradiction fun hn => ?_
  rw [reachedL, if_neg hn] at h
  simp at h
theorem callees_cond (h : 0 < (calleesL ds fs z).length) : progOk ds fs = true ∧ 0 ≤ z ∧ z < (fs.length : Int) := by
  refine Classical.byContradiction fun hn => ?_
  rw [calleesL, if_neg hn] at h
  simp at h
theorem reached_mem (hc : progOk ds fs = true ∧ 0 ≤ z ∧ z < (fs.length : Int)) (x : Int) : x ∈ reachedL ds fs z ↔ Rch (calF fs) z x := by
  rw [reachedL, if_pos hc]
  exact reachL_mem ⟨hc.2.1, hc.2.2⟩ (progOk_calF hc.1) x
theorem reached_range (hc : progOk ds fs = true ∧ 0 ≤ z ∧ z < (fs.length : Int)) {x : Int} (h : x ∈ reachedL ds fs z) : 0 ≤ x ∧ x < (fs.length : Int) :=
  rch_range ⟨hc.2.1, hc.2.2⟩ (progOk_calF hc.1) ((reached_mem hc x).1 h)
theorem reached_self (hc : progOk ds fs = true ∧ 0 ≤ z ∧ z < (fs.length : Int)) : z ∈ reachedL ds fs z := (reached_mem hc z).2 .base
theorem reached_step (hc : progOk ds fs = true ∧ 0 ≤ z ∧ z < (fs.length : Int)) {g x : Int} (hg : g ∈ reachedL ds fs z) (hx : x ∈ calleesL ds fs g) : x ∈ reachedL ds fs z := by
  have hr := reached_range hc hg
  obtain ⟨i, rfl⟩ := Int.eq_ofNat_of_zero_le hr.1
  rw [callees_eq hc.1 hr.1 hr.2] at hx
  exact (reached_mem hc x).2 (.step i x ((reached_mem hc _).1 hg) hx)
theorem callees_reached {x : Int} (hx : x ∈ calleesL ds fs z) : x ∈ reachedL ds fs z := by
  have hc := callees_cond (List.length_pos_of_mem hx)
  exact reached_step hc (reached_self hc) hx
theorem reached_trans (hc : progOk ds fs = true ∧ 0 ≤ z ∧ z < (fs.length : Int)) {g x : Int} (hg : g ∈ reachedL ds fs z) (hx : x ∈ reachedL ds fs g) : x ∈ reachedL ds fs z := by
  have hcg := reached_cond (List.length_pos_of_mem hx)
  rw [reached_mem hcg] at hx
  rw [reached_mem hc] at hg ⊢
  induction hx with
  | base => exact hg
  | step i x _ h2 ih => exact .step i x ih h2
end
end Go.Proofs.Ytaeddcnakilnlaa
