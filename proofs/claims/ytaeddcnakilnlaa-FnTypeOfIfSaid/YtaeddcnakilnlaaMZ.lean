/- Plain facts on Shift's condition. -/
import Derived.Test.YtaeddcnakilnlaaMP
import Derived.Test.YtaeddcnakilnlaaMF
import Derived.Test.YtaeddcnakilnlaaWLp2
import Derived.Test.YtaeddcnakilnlaaMS
namespace Go.Proofs.Ytaeddcnakilnlaa
open Go.RowKit
theorem shOk_of {k d op num : Int} {es : List ExprL} (h1 : nEs es + 1 ≤ 30) (h2 : 0 ≤ k ∧ k ≤ 99) (h3 : 0 ≤ d ∧ d ≤ 99) (h4 : vfE (.mk op num es) = true) : shOk k d op num es = true := by
  rw [shOk, decide_eq_true h1, decide_eq_true h2, decide_eq_true h3]
  rw [vfE] at h4
  simpa using h4
end Go.Proofs.Ytaeddcnakilnlaa
/- Plain facts for the laws on types: let, if, a variable more. -/
namespace Go.Proofs.Ytaeddcnakilnlaa
open Go.RowKit

section
variable {ds : List DeclL} {fs : List FuncL} {vars : List Int} {e : ExprL} {op num : Int} {ks : List ExprL} {T : Int}
theorem typeTop_yes (h : 0 ≤ typeTop ds fs vars e) : sigsOk ds (fs.map sigF) = true ∧ nEs e.kids + 1 ≤ 30 ∧ allT ds.length vars = true ∧ typeTop ds fs vars e = tyE ds (fs.map sigF) vars e := by
  unfold typeTop at h ⊢
  split at h
  · next h1 =>
    refine ⟨h1.1, ?_, h1.2.2, if_pos h1⟩
    refine Classical.byContradiction fun hn => h1.2.1 ?_
    rw [nodesL_no hn]; omega
  · omega
theorem typeTop_of (h1 : sigsOk ds (fs.map sigF) = true) (h2 : nEs e.kids + 1 ≤ 30) (h3 : allT ds.length vars = true) : typeTop ds fs vars e = tyE ds (fs.map sigF) vars e := by
  unfold typeTop
  rw [if_pos ⟨h1, by rw [nodesL_yes h2]; omega, h3⟩]
theorem typeTop_range (h : 0 ≤ typeTop ds fs vars e) : typeTop ds fs vars e ≤ (ds.length : Int) := by
  obtain ⟨h1, _, h3, h4⟩ := typeTop_yes h
  rw [h4]
  exact (ty_ge h1 e h3).2
theorem nodes_of_top (h : 0 ≤ typeTop ds fs vars e) : nodesL e.kids = (nE e : Int) := by
  rw [nodesL_yes (typeTop_yes h).2.1, ← nE_eq]

/-- What is bound has its type. -/
theorem top_let (h : typeTop ds fs vars e = T) (h0 : 0 ≤ T) (hn : nE e + 2 ≤ 30) : typeTop ds fs vars (.mk 13 0 [e, .mk 12 (vars.length : Int) []]) = T := by
  subst h
  obtain ⟨h1, h2, h3, h4⟩ := typeTop_yes h0
  rw [typeTop_of h1 (by simp only [ExprL.kids, nEs, nE]; omega) h3]
  rw [tyE_13, if_pos ⟨rfl, rfl⟩, tyLet_at _ _ _ rfl]
  have e0 : eAt [e, .mk 12 (vars.length : Int) []] 0 = e := rfl
  have e1 : eAt [e, .mk 12 (vars.length : Int) []] 1 = .mk 12 (vars.length : Int) [] := rfl
  rw [e0, e1, ← h4, if_pos h0, tyE, if_pos rfl, if_pos ⟨rfl, by omega, by simp; omega⟩]
  simp [iAt]
/-- Choices have the type of both sides. -/
theorem top_if (h : typeTop ds fs vars e = T) (h0 : 0 ≤ T) (hn : 2 * nE e + 2 ≤ 30) : typeTop ds fs vars (.mk 7 0 [.mk 0 1 [], e, e]) = T := by
  subst h
  obtain ⟨h1, h2, h3, h4⟩ := typeTop_yes h0
  rw [typeTop_of h1 (by simp only [ExprL.kids, nEs, nE]; omega) h3]
  have e0 : tyE ds (fs.map sigF) vars (.mk 0 1 []) = 0 := by
    rw [tyE_simple _ _ _ _ _ (by omega), tyEs]
    simp [simpleL]
  rw [tyE_7, if_pos ⟨rfl, rfl, by rw [tyHd_at _ _ _ (by simp)]; exact e0⟩]
  rw [h4]
  refine oneT_same (by rw [tyTl_len]; simp) (by omega) (fun i hi => ?_)
  rw [tyTl_len] at hi
  have hi2 : i < 2 := by simpa using hi
  rw [tyTl_at _ _ _ (by simp; omega)]
  rcases (show i = 0 ∨ i = 1 by omega) with rfl | rfl <;> simp [cAt, eAt]
theorem top_if_not (h : typeTop ds fs vars e = T) (h0 : 0 ≤ T) (hT : T ≠ 0) (hn : 3 * nE e + 1 ≤ 30) : typeTop ds fs vars (.mk 7 0 [e, e, e]) = -1 := by
  subst h
  obtain ⟨h1, h2, h3, h4⟩ := typeTop_yes h0
  rw [typeTop_of h1 (by simp only [ExprL.kids, nEs]; omega) h3]
  rw [tyE_7, if_neg (fun h => hT (by rw [h4, ← h.2.2, tyHd_at _ _ _ (by simp)]; rfl))]
/-- Types are kept when variables come after. -/
theorem top_vars (h0 : 0 ≤ typeTop ds fs vars e) (hv : vars.length ≤ 5) : vfE e = true := by
  obtain ⟨h1, h2, h3, h4⟩ := typeTop_yes h0
  rw [h4] at h0
  rw [vfE_all]
  have hne := nE_eq e
  exact allE_mono (fun op num h e => by have := h e; omega) e (tyE_vars h1 100 (nE e + 1) e (by omega) vars (by omega) h0)
theorem top_room (h : typeTop ds fs vars e = T) (h0 : 0 ≤ T) (hv : vars.length ≤ 5) : typeTop ds fs (vars ++ [0]) (shE (vars.length : Int) 1 e) = T := by
  subst h
  have hvf := top_vars h0 hv
  obtain ⟨h1, h2, h3, h4⟩ := typeTop_yes h0
  rw [typeTop_of h1 (by rw [shE_eq]; show nEs (shEs _ _ _) + 1 ≤ 30; rw [nEs_shEs]; exact h2) (allT_append h3 (allT_one (isT_iff.2 ⟨by omega, by omega⟩))), h4]
  have := tyE_room (ds := ds) (sg := fs.map sigF) 0 vars (nE e + 1) e (by omega) hvf []
  rw [List.append_nil] at this
  exact this
theorem gfit_fit {K : Int} (hK : K ≤ 100000) (e : ExprL) (h : allE (gfit K) e) : allE fitN e := allE_mono (fun _ _ h => ⟨by have := h.1; omega, by have := h.2; omega⟩) e h
end
end Go.Proofs.Ytaeddcnakilnlaa
