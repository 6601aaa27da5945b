/- Plain facts for the laws on types: a variable more; variables of what has a type. -/
import Derived.Test.YtaeddcnakilnlaaMF
import Derived.Test.YtaeddcnakilnlaaMH
import Derived.Test.YtaeddcnakilnlaaMX
import Derived.Test.YtaeddcnakilnlaaWTyS1
namespace Go.Proofs.Ytaeddcnakilnlaa
open Go.RowKit

section
variable {ds : List DeclL} {sg : List SigL}

theorem iAt_app1 {xs ys : List Int} {i : Nat} (h : i < xs.length) : iAt (xs ++ ys) i = iAt xs i := by simp [iAt, List.getElem?_append_left h]
theorem iAt_app2 {xs ys : List Int} {i : Nat} (h : xs.length ≤ i) : iAt (xs ++ ys) i = iAt ys (i - xs.length) := by simp [iAt, List.getElem?_append_right h]
theorem iAt_cons {x : Int} {ys : List Int} {i : Nat} : iAt (x :: ys) (i + 1) = iAt ys i := by simp [iAt]

/-- What has a type mentions variables that there are. -/
theorem tyE_vars (hok : sigsOk ds sg = true) (M : Nat) (N : Nat) : ∀ (e : ExprL), nE e < N → ∀ vars : List Int, vars.length + 3 * nE e ≤ M + 3 → 0 ≤ tyE ds sg vars e → allE (fun op num => op = 12 → 0 ≤ num ∧ num < (M : Int)) e := by
  induction N with
  | zero => intro e h; omega
  | succ N ih =>
  intro e hN vars hM h
  obtain ⟨op, num, ks⟩ := e
  rw [nE] at hM hN
  have hk : ∀ j, j < ks.length → nE (eAt ks j) < N := fun j hj => by have := nE_le ks hj; omega
  have hq : ∀ j, j < ks.length → nE (eAt ks j) ≤ nEs ks := fun j hj => nE_le ks hj
  have no : op ≠ 12 → op = 12 → 0 ≤ num ∧ num < (M : Int) := fun h1 h2 => absurd h2 h1
  rw [tyE] at h
  split at h
  · next e =>
    split at h
    · next h1 => exact ⟨fun _ => ⟨h1.2.1, by omega⟩, allEs_mk (fun j hj => by omega)⟩
    · omega
  split at h
  · next h12 e =>
    split at h
    · next h1 =>
      rw [tyLet_at ds sg vars h1.2] at h
      split at h
      · next h0 =>
        refine ⟨no h12, allEs_mk (fun j hj => ?_)⟩
        rcases (show j = 0 ∨ j = 1 by omega) with rfl | rfl
        · exact ih _ (hk 0 hj) _ (by have := hq 0 hj; omega) h0
        · exact ih _ (hk 1 hj) _ (by have := hq 1 hj; simp; omega) h
      · omega
    · omega
  split at h
  · next h12 _ e =>
    split at h
    · next h1 =>
      refine ⟨no h12, allEs_mk (fun j hj => ?_)⟩
      rcases j with _ | j
      · have := h1.2.2
        rw [tyHd_at ds sg vars (by omega)] at this
        exact ih _ (hk 0 hj) vars (by have := hq 0 hj; omega) (by omega)
      · have h5 := oneT_all h (i := j) (by rw [tyTl_len]; omega)
        rw [tyTl_at ds sg vars (by omega)] at h5
        refine ih _ (hk _ hj) _ ?_ h5
        have := hq _ hj
        have h6 : (cAt [[], []] j).length = 0 := by rcases j with _ | _ | j <;> simp [cAt]
        rw [List.length_append, h6]; omega
    · omega
  split at h
  · next h12 _ _ e =>
    split at h
    · next h1 =>
      refine ⟨no h12, allEs_mk (fun j hj => ?_)⟩
      rcases j with _ | j
      · have h2 := h1.2.2
        rw [tyHd_at ds sg vars (by omega)] at h2
        refine ih _ (hk 0 hj) vars (by have := hq 0 hj; omega) ?_
        rw [h2]
        refine Decidable.byContradiction fun hn => ?_
        have := h1.1
        rw [armsL, List.length_map, consL, if_neg (by omega)] at this
        simp at this
      · have h5 := oneT_all h (i := j) (by rw [tyTl_len]; omega)
        rw [tyTl_at ds sg vars (by omega)] at h5
        refine ih _ (hk _ hj) _ ?_ h5
        have := hq _ hj
        have h6 : (cAt (armsL ds num) j).length ≤ 3 := by
          have hj2 : j < (armsL ds num).length := by omega
          rw [cAt_get hj2]
          obtain ⟨c, _, hc⟩ := List.mem_map.1 (List.getElem_mem hj2)
          rw [← hc]
          exact (conFieldsL_ok (sigsOk_parts hok).1 c).1
        rw [List.length_append]; omega
    · omega
  · next h12 _ _ _ =>
    obtain ⟨_, h2⟩ := simple_kids hok h
    refine ⟨no h12, allEs_mk (fun j hj => ?_)⟩
    have h5 := h2 j (by rw [tyEs_len]; exact hj)
    rw [tyEs_at ds sg vars hj] at h5
    exact ih _ (hk j hj) vars (by have := hq j hj; omega) h5

theorem eAt_shEs {k d : Int} {es : List ExprL} {j : Nat} (h : j < es.length) : eAt (shEs k d es) j = shE k d (eAt es j) := by
  rw [eAt_get (by rw [shEs_len]; exact h), eAt_get h]
  simp [shEs_map]

/-- Types are kept with a variable more, to which the others make room. -/
theorem tyE_room (u : Int) (pre : List Int) (N : Nat) : ∀ (e : ExprL), nE e < N → vfE e = true → ∀ post : List Int, tyE ds sg (pre ++ u :: post) (shE (pre.length : Int) 1 e) = tyE ds sg (pre ++ post) e := by
  induction N with
  | zero => intro e h; omega
  | succ N ih =>
  intro e hN hv post
  obtain ⟨op, num, ks⟩ := e
  rw [nE] at hN
  rw [vfE, Bool.and_eq_true] at hv
  have h2 : op = 12 → 0 ≤ num ∧ num ≤ 99 := by have := hv.1; simp only [vfN, Bool.or_eq_true, decide_eq_true_eq, ne_eq] at this; exact fun e => this.resolve_left (fun hn => hn e)
  have hvk : ∀ j, j < ks.length → vfE (eAt ks j) = true := fun j hj => by
    have := hv.2
    rw [vfEs_all, List.all_eq_true] at this
    rw [eAt_get hj]
    exact this _ (List.getElem_mem hj)
  have hk : ∀ j, j < ks.length → ∀ post : List Int, tyE ds sg (pre ++ u :: post) (eAt (shEs (pre.length : Int) 1 ks) j) = tyE ds sg (pre ++ post) (eAt ks j) := fun j hj post => by
    rw [eAt_shEs hj]
    exact ih _ (by have := nE_le ks hj; omega) (hvk j hj) post
  have hl : (shEs (pre.length : Int) 1 ks).length = ks.length := shEs_len _ _ _
  have hap : ∀ more : List Int, pre ++ u :: post ++ more = pre ++ u :: (post ++ more) := by simp
  have hap2 : ∀ more : List Int, pre ++ post ++ more = pre ++ (post ++ more) := by simp
  rw [shE, tyE, tyE, hl]
  by_cases h12 : op = 12
  · rw [if_pos h12, if_pos h12]
    obtain ⟨h0, _⟩ := h2 h12
    rw [shN_small h2 (by omega)]
    by_cases hkk : ks.length = 0
    · by_cases hn : (pre.length : Int) ≤ num
      · rw [if_pos (show op = 12 ∧ (pre.length : Int) ≤ num from ⟨h12, hn⟩)]
        obtain ⟨m, rfl⟩ := Int.eq_ofNat_of_zero_le h0
        by_cases hin : m < pre.length + post.length
        · rw [if_pos ⟨hkk, by omega, by simp; omega⟩, if_pos ⟨hkk, by omega, by simp; omega⟩]
          rw [show ((m : Int) + 1).toNat = m + 1 by omega, Int.toNat_natCast, iAt_app2 (by omega), iAt_app2 (by omega)]
          rw [show m + 1 - pre.length = (m - pre.length) + 1 by omega, iAt_cons]
        · rw [if_neg (fun h => by have := h.2.2; simp at this; omega), if_neg (fun h => by have := h.2.2; simp at this; omega)]
      · rw [if_neg (show ¬ (op = 12 ∧ (pre.length : Int) ≤ num) from fun h => hn h.2)]
        rw [if_pos ⟨hkk, by omega, by simp; omega⟩, if_pos ⟨hkk, by omega, by simp; omega⟩, iAt_app1 (by omega), iAt_app1 (by omega)]
    · rw [if_neg (fun h => hkk h.1), if_neg (fun h => hkk h.1)]
  have hN0 : shN (pre.length : Int) 1 op num = num := by unfold shN; rw [if_neg (fun h => h12 h.1)]
  rw [hN0, if_neg h12, if_neg h12]
  by_cases h13 : op = 13
  · rw [if_pos h13, if_pos h13]
    by_cases hc : num = 0 ∧ ks.length = 2
    · rw [if_pos hc, if_pos hc, tyLet_at _ _ _ (by rw [hl]; exact hc.2), tyLet_at _ _ _ hc.2, hk 0 (by omega)]
      rw [hap, hap2, hk 1 (by omega)]
    · rw [if_neg hc, if_neg hc]
  rw [if_neg h13, if_neg h13]
  have htl : ∀ fs : List (List Int), tyTl ds sg (pre ++ u :: post) (shEs (pre.length : Int) 1 ks) fs = tyTl ds sg (pre ++ post) ks fs := fun fs => by
    refine ints_ext (by rw [tyTl_len, tyTl_len, hl]) (fun i hi => ?_)
    rw [tyTl_len, hl] at hi
    rw [tyTl_at _ _ _ (by rw [hl]; omega), tyTl_at _ _ _ (by omega), hap, hap2, hk _ (by omega)]
  have hhd : tyHd ds sg (pre ++ u :: post) (shEs (pre.length : Int) 1 ks) = tyHd ds sg (pre ++ post) ks := by
    rcases Nat.eq_zero_or_pos ks.length with h0 | h0
    · have : ks = [] := List.eq_nil_of_length_eq_zero h0
      subst this; rfl
    · rw [tyHd_at _ _ _ (by rw [hl]; exact h0), tyHd_at _ _ _ h0, hk 0 h0]
  by_cases h7 : op = 7
  · rw [if_pos h7, if_pos h7, hhd, htl]
  rw [if_neg h7, if_neg h7]
  by_cases h8 : op = 8
  · rw [if_pos h8, if_pos h8, hhd, htl]
  rw [if_neg h8, if_neg h8]
  congr 1
  refine ints_ext (by rw [tyEs_len, tyEs_len, hl]) (fun i hi => ?_)
  rw [tyEs_len, hl] at hi
  rw [tyEs_at _ _ _ (by rw [hl]; omega), tyEs_at _ _ _ hi, hk i hi]
end
end Go.Proofs.Ytaeddcnakilnlaa
