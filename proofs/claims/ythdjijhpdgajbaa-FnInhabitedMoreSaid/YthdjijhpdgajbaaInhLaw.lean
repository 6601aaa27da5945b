/- The plain laws of inhabited types. -/
import Derived.Test.YthdjijhpdgajbaaInhPlain
import Derived.Test.YthdjijhpdgajbaaInhS
import Derived.Test.YthdjijhpdgajbaaTypesPlain3
import Derived.Test.YthdjijhpdgajbaaLawHelp
namespace Go.Proofs.Ythdjijhpdgajbaa
open Go.RowKit

theorem asc_I {xs : List Int} (h : Asc xs) : AscI xs := by
  intro i hi
  rw [iAt_eq (by omega), iAt_eq hi]
  exact List.pairwise_iff_getElem.1 h i (i + 1) (by omega) hi (by omega)
/-- A type is inhabited exactly if it is an arrow type or can be filled. -/
theorem inhL_full {ds : List DeclL} {i : Nat} (hi : i < ds.length) : decide (((i : Int) + 1) ∈ inhL ds) = fullB (dAt ds i) (fun x => decide (x ∈ inhL ds)) := by
  cases hf : fullB (dAt ds i) (fun x => decide (x ∈ inhL ds))
  · refine decide_eq_false fun hm => ?_
    rw [inhL_mem] at hm
    have key : ∀ t, Inh ds t → t = (i : Int) + 1 → fullB (dAt ds i) (fun x => decide (x ∈ inhL ds)) = true := by
      intro t ht e
      cases ht with
      | zero => omega
      | arrow j hj hc =>
        obtain rfl : j = i := by omega
        simp [fullB, hc]
      | con j c hj hc hh =>
        obtain rfl : j = i := by omega
        simp only [fullB, anyC, Bool.or_eq_true, List.any_eq_true, List.all_eq_true, decide_eq_true_eq]
        exact .inl ⟨c, hc, fun x hx => inhL_mem x |>.2 (hh x hx)⟩
    rw [key _ hm rfl] at hf
    cases hf
  · exact decide_eq_true (inhL_closed i hi hf)
theorem inhL_has0 (ds : List DeclL) : (0 : Int) ∈ inhL ds := irnds_zero _
theorem inhL_len5 {ds : List DeclL} (h : typesOk ds = true) : (inhL ds).length ≤ 5 := by
  have hf := (Few.of_ok h).1
  have := irnds_len (ds := ds) ds.length
  rw [inhL]
  omega
theorem inhL_pos (ds : List DeclL) : 0 < (inhL ds).length := List.length_pos_of_mem (inhL_has0 ds)
/-- The declarations with a constructor without fields more. -/
def moreD (ds : List DeclL) (i : Nat) : List DeclL := ds.set i ⟨0, 0, (dAt ds i).cons ++ [[]]⟩
theorem moreD_at {ds : List DeclL} {i j : Nat} (hi : i < ds.length) : dAt (moreD ds i) j = if j = i then ⟨0, 0, (dAt ds i).cons ++ [[]]⟩ else dAt ds j := by
  by_cases e : j = i
  · subst e
    rw [if_pos rfl, moreD, dAt_eq (by rw [List.length_set]; exact hi)]; simp
  · rw [if_neg e, moreD, dAt, List.getD, List.getElem?_set]
    simp [show ¬ i = j from fun h => e h.symm, dAt]
theorem moreD_len {ds : List DeclL} {i : Nat} : (moreD ds i).length = ds.length := by simp [moreD]
theorem moreD_ok {ds : List DeclL} (h : typesOk ds = true) {i : Nat} (hi : i < ds.length) (h0 : 0 < (dAt ds i).cons.length) (h3 : (dAt ds i).cons.length < 3) : typesOk (moreD ds i) = true := by
  have hd : ∀ k, k < ds.length → declOk ds k = true := by
    simp only [typesOk, Bool.and_eq_true] at h
    exact nAll.1 h.2
  have hl : ds.length ≤ 4 := by
    simp only [typesOk, Bool.and_eq_true, decide_eq_true_eq] at h
    exact h.1
  simp only [typesOk, Bool.and_eq_true, decide_eq_true_eq, moreD_len, nAll]
  refine ⟨hl, fun k hk => ?_⟩
  have hk' := hd k hk
  by_cases e : k = i
  · subst e
    unfold declOk at hk' ⊢
    rw [if_pos h0] at hk'
    simp only [moreD_at hk, if_true, moreD_len]
    rw [if_pos (by simp)]
    simp only [Bool.and_eq_true, decide_eq_true_eq] at hk' ⊢
    refine ⟨by simp; omega, ?_⟩
    rw [List.all_append, hk'.2]
    simp [conOk, allT]
  · unfold declOk at hk' ⊢
    simp only [moreD_at hi, if_neg e, moreD_len]
    split
    · next hc =>
      rw [if_pos hc] at hk'
      exact hk'
    · next hc =>
      rw [if_neg hc] at hk'
      simp only [Bool.and_eq_true, nAll] at hk' ⊢
      refine ⟨hk'.1, fun j hj => ?_⟩
      by_cases ej : j = i
      · subst ej
        rw [if_pos rfl]
        simp [sameArrow]
      · rw [if_neg ej]; exact hk'.2 j hj
theorem inh_more {ds : List DeclL} {i : Nat} (hi : i < ds.length) (h0 : 0 < (dAt ds i).cons.length) {t : Int} (h : Inh ds t) : Inh (moreD ds i) t := by
  induction h with
  | zero => exact .zero
  | arrow j hj hc =>
    refine .arrow j (by rw [moreD_len]; exact hj) ?_
    rw [moreD_at hi]
    by_cases e : j = i
    · subst e; omega
    · rw [if_neg e]; exact hc
  | con j c hj hc _ ih =>
    refine .con j c (by rw [moreD_len]; exact hj) ?_ ih
    rw [moreD_at hi]
    by_cases e : j = i
    · subst e
      rw [if_pos rfl]
      exact List.mem_append.2 (.inl hc)
    · rw [if_neg e]; exact hc
theorem inhL_more {ds : List DeclL} {i : Nat} (hi : i < ds.length) (h0 : 0 < (dAt ds i).cons.length) : ((i : Int) + 1) ∈ inhL (moreD ds i) ∧ ∀ t, t ∈ inhL ds → t ∈ inhL (moreD ds i) := by
  refine ⟨(inhL_mem _).2 (.con i [] (by rw [moreD_len]; exact hi) ?_ (fun t ht => by simp at ht)), fun t ht => (inhL_mem _).2 (inh_more hi h0 ((inhL_mem _).1 ht))⟩
  rw [moreD_at hi, if_pos rfl]
  exact List.mem_append.2 (.inr (by simp))
end Go.Proofs.Ythdjijhpdgajbaa
