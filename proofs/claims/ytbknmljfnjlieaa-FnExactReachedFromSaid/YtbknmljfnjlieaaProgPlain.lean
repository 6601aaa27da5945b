/- Valid programs, plain. -/
import Derived.Test.YtbknmljfnjlieaaTyI12
import Derived.Test.YtbknmljfnjlieaaCallPlain
namespace Go.Proofs.Ytbknmljfnjlieaa
open Go.RowKit

/-- All numbers in the bodies are in range. -/
def fitP (fs : List FuncL) : Prop := ∀ i, i < fs.length → allE fitN (fAt fs i).body
def bodyOk (ds : List DeclL) (fs : List FuncL) (i : Nat) : Bool := decide (typeTop ds fs (fAt fs i).params (fAt fs i).body = (fAt fs i).result)
/-- A program is valid. -/
def progOk (ds : List DeclL) (fs : List FuncL) : Bool := sigsOk ds (fs.map sigF) && (List.range fs.length).all (bodyOk ds fs)

section
variable {ds : List DeclL} {fs : List FuncL}
theorem progOk_sigs (h : sigsOk ds (fs.map sigF) = false) : progOk ds fs = false := by simp [progOk, h]
theorem progOk_at {i : Nat} (hi : i < fs.length) (h : bodyOk ds fs i = false) : progOk ds fs = false := by
  have e : (List.range fs.length).all (bodyOk ds fs) = false := nAll_false hi h
  simp only [progOk, e, Bool.and_false]
theorem progOk_yes (h1 : sigsOk ds (fs.map sigF) = true) (h : ∀ i, i < fs.length → bodyOk ds fs i = true) : progOk ds fs = true := by
  have e : (List.range fs.length).all (bodyOk ds fs) = true := nAll.2 h
  simp only [progOk, e, h1, Bool.and_self]
theorem progOk_parts (h : progOk ds fs = true) : sigsOk ds (fs.map sigF) = true ∧ ∀ i, i < fs.length → bodyOk ds fs i = true := by
  simp only [progOk, Bool.and_eq_true] at h
  exact ⟨h.1, nAll.1 h.2⟩
theorem sigF_at (h : sigsOk ds (fs.map sigF) = true) {i : Nat} (hi : i < fs.length) : (fAt fs i).params.length ≤ 3 ∧ allT ds.length (fAt fs i).params = true ∧ 0 ≤ (fAt fs i).result := by
  have hs := (sigsOk_parts h).2.2.2 i (by simpa using hi)
  rw [sgAt_sigF fs hi] at hs
  obtain ⟨h1, h2, h3, _⟩ := sigOk_parts hs
  exact ⟨h1, h2, (isT_iff.1 h3).1⟩
theorem progOk_len (h : progOk ds fs = true) : 1 ≤ fs.length ∧ fs.length ≤ 4 := by
  have := sigsOk_parts (progOk_parts h).1
  exact ⟨by simpa using this.2.1, by simpa using this.2.2.1⟩
theorem bodyOk_nodes (h : sigsOk ds (fs.map sigF) = true) {i : Nat} (hi : i < fs.length) (hn : nodesL (fAt fs i).body.kids < 0) : bodyOk ds fs i = false := by
  have := (sigF_at h hi).2.2
  refine decide_eq_false fun e => ?_
  rw [typeTop, if_neg (fun h => h.2.1 hn)] at e
  omega
theorem bodyOk_ty (h : sigsOk ds (fs.map sigF) = true) {i : Nat} (hi : i < fs.length) (hn : ¬ nodesL (fAt fs i).body.kids < 0) : bodyOk ds fs i = decide (tyE ds (fs.map sigF) (fAt fs i).params (fAt fs i).body = (fAt fs i).result) := by
  rw [bodyOk, typeTop, if_pos ⟨h, hn, (sigF_at h hi).2.1⟩]
theorem bodyOk_parts (h : sigsOk ds (fs.map sigF) = true) {i : Nat} (hi : i < fs.length) (hb : bodyOk ds fs i = true) : nEs (fAt fs i).body.kids + 1 ≤ 30 ∧ tyE ds (fs.map sigF) (fAt fs i).params (fAt fs i).body = (fAt fs i).result := by
  by_cases hn : nodesL (fAt fs i).body.kids < 0
  · rw [bodyOk_nodes h hi hn] at hb; cases hb
  · rw [bodyOk_ty h hi hn] at hb
    refine ⟨Decidable.byContradiction fun hc => hn (by rw [nodesL_no hc]; omega), of_decide_eq_true hb⟩
/-- The bodies of a valid program name functions that there are. -/
theorem progOk_cal (h : progOk ds fs = true) {i : Nat} (hi : i < fs.length) : allE (calIn fs.length) (fAt fs i).body := by
  obtain ⟨h1, h2⟩ := progOk_parts h
  have := (bodyOk_parts h1 hi (h2 i hi)).2
  have h3 := (sigF_at h1 hi).2.2
  have := tyE_cal h1 (e := (fAt fs i).body) (vars := (fAt fs i).params) (by omega)
  simpa using this
end
end Go.Proofs.Ytbknmljfnjlieaa
