/- Plain facts for the law on programs whose bodies bind what they do not use. -/
import Derived.Test.YtaeddcnakilnlaaMZ
import Derived.Test.YtaeddcnakilnlaaMX
import Derived.Test.YtaeddcnakilnlaaMM
namespace Go.Proofs.Ytaeddcnakilnlaa
open Go.RowKit

mutual
theorem allE_and2 {P P' : Int → Int → Prop} : ∀ {e : ExprL}, allE P e → allE P' e → allE (fun op num => P op num ∧ P' op num) e
  | .mk _ _ _, h, h' => ⟨⟨h.1, h'.1⟩, allEs_and2 h.2 h'.2⟩
theorem allEs_and2 {P P' : Int → Int → Prop} : ∀ {es : List ExprL}, allEs P es → allEs P' es → allEs (fun op num => P op num ∧ P' op num) es
  | [], _, _ => trivial
  | _ :: _, h, h' => ⟨allE_and2 h.1 h'.1, allEs_and2 h.2 h'.2⟩
end
theorem fAt_setL {fs : List FuncL} {k i : Nat} {f : FuncL} (hk : k < fs.length) : fAt (fs.set k f) i = if i = k then f else fAt fs i := fAt_set hk
theorem map_set_sig {fs : List FuncL} {k : Nat} {x : ExprL} (hk : k < fs.length) : (fs.set k ⟨(fAt fs k).params, (fAt fs k).result, x⟩).map sigF = fs.map sigF := by
  refine List.ext_getElem (by simp) (fun i h1 h2 => ?_)
  have hi : i < fs.length := by simpa using h2
  simp only [List.getElem_map, List.getElem_set]
  split
  · next h =>
    subst h
    rw [fAt_get hk]; rfl
  · rfl
/-- OpLet of an integer around the body. -/
def letB (np : Nat) (b : ExprL) : ExprL := .mk 13 0 [.mk 0 1 [], shE (np : Int) 1 b]
section
variable {ds : List DeclL} {fs : List FuncL} {k : Nat}
theorem bodyOk_top (h : bodyOk ds fs k = true) : typeTop ds fs (fAt fs k).params (fAt fs k).body = (fAt fs k).result := of_decide_eq_true h
theorem body_vf (hp : progOk ds fs = true) (hk : k < fs.length) : vfE (fAt fs k).body = true ∧ nEs (fAt fs k).body.kids + 1 ≤ 30 := by
  obtain ⟨h1, h2⟩ := progOk_parts hp
  obtain ⟨h3, h4, h5⟩ := sigF_at h1 hk
  have h6 := bodyOk_top (h2 k hk)
  exact ⟨top_vars (by rw [h6]; exact h5) (by omega), (typeTop_yes (by rw [h6]; exact h5)).2.1⟩
theorem let_prog (hp : progOk ds fs = true) (hk : k < fs.length) (hn : nE (fAt fs k).body + 2 ≤ 30) : progOk ds (fs.set k ⟨(fAt fs k).params, (fAt fs k).result, letB (fAt fs k).params.length (fAt fs k).body⟩) = true := by
  have hpp := hp
  obtain ⟨h1, h2⟩ := progOk_parts hp
  have hvf := (body_vf hpp hk).1
  simp only [progOk, Bool.and_eq_true]
  refine ⟨by rw [map_set_sig hk]; exact h1, nAll.2 (fun i hi => ?_)⟩
  have hi' : i < fs.length := by simpa using hi
  refine decide_eq_true ?_
  have e : ∀ vars x, typeTop ds (fs.set k ⟨(fAt fs k).params, (fAt fs k).result, letB (fAt fs k).params.length (fAt fs k).body⟩) vars x = typeTop ds fs vars x := fun vars x => by unfold typeTop; rw [map_set_sig hk]
  rw [e, fAt_setL hk]
  split
  · obtain ⟨h3, h4, h5⟩ := sigF_at h1 hk
    have h6 := bodyOk_top (h2 k hk)
    obtain ⟨q1, q2, q3, q4⟩ := typeTop_yes (ds := ds) (fs := fs) (by rw [h6]; exact h5)
    rw [q4] at h6
    have hz : tyE ds (fs.map sigF) (fAt fs k).params (.mk 0 1 []) = 0 := by
      rw [tyE_simple _ _ _ _ _ (by omega), tyEs]
      simp [simpleL]
    have hr := tyE_room (ds := ds) (sg := fs.map sigF) 0 (fAt fs k).params (nE (fAt fs k).body + 1) (fAt fs k).body (by omega) hvf []
    rw [List.append_nil] at hr
    show typeTop ds fs (fAt fs k).params (letB (fAt fs k).params.length (fAt fs k).body) = (fAt fs k).result
    rw [typeTop_of h1 (by show nEs [_, _] + 1 ≤ 30; simp only [nEs, nE, nE_shE]; omega) h4, letB, tyE_13, if_pos ⟨rfl, rfl⟩, tyLet_at _ _ _ rfl]
    have e0 : eAt [ExprL.mk 0 1 [], shE ((fAt fs k).params.length : Int) 1 (fAt fs k).body] 0 = .mk 0 1 [] := rfl
    have e1 : eAt [ExprL.mk 0 1 [], shE ((fAt fs k).params.length : Int) 1 (fAt fs k).body] 1 = shE ((fAt fs k).params.length : Int) 1 (fAt fs k).body := rfl
    rw [e0, e1, hz, if_pos (by omega)]
    exact hr.trans h6
  · exact bodyOk_top (h2 i hi')
theorem letB_fit {b : ExprL} {np : Nat} (h : allE fitN b) (hv : vfE b = true) : allE fitN (letB np b) := by
  refine ⟨⟨by omega, by omega⟩, ⟨⟨by omega, by omega⟩, trivial⟩, ?_, trivial⟩
  refine allE_shE (P := fun op num => fitN op num ∧ (op = 12 → 0 ≤ num ∧ num ≤ 99)) _ _ (fun op num h => ?_) b (allE_and2 h ((vfE_all b).1 hv))
  rw [shN_small h.2 (by omega)]
  split
  · next h12 => have := h.2 h12.1; exact ⟨by omega, by omega⟩
  · exact h.1
theorem fit_set {x : ExprL} (h : fitP fs) (hk : k < fs.length) (hx : allE fitN x) : fitP (fs.set k ⟨(fAt fs k).params, (fAt fs k).result, x⟩) := fun i hi => by
  have hi' : i < fs.length := by simpa using hi
  rw [fAt_setL hk]
  split
  · exact hx
  · exact h i hi'
end
end Go.Proofs.Ytaeddcnakilnlaa
