/- Plain facts for the laws on free variables. -/
import Derived.Test.YtomgellcpjimjaaZFreePlain
import Derived.Test.YtomgellcpjimjaaZLawHelp
namespace Go.Proofs.Ytomgellcpjimjaa
open Go.RowKit

theorem AscI.of {xs : List Int} (h : Asc xs) : AscI xs := by
  intro i hi
  rw [iAt_get (by omega), iAt_get hi]
  exact List.pairwise_iff_getElem.1 h i (i + 1) (by omega) hi (by omega)

theorem fvis_mem (z x op num : Int) (s : List Int) : x ∈ fvis z op num s ↔ x ∈ s ∨ (0 ≤ x ∧ x < z ∧ op = 12 ∧ num = x) := by
  unfold fvis
  by_cases h : isFree z op num = true
  · rw [if_pos h, insL_mem]
    simp only [isFree, Bool.and_eq_true, decide_eq_true_eq] at h
    constructor
    · rintro (rfl | h1)
      · exact .inr ⟨h.1.2, h.2, h.1.1, rfl⟩
      · exact .inl h1
    · rintro (h1 | ⟨_, _, _, rfl⟩)
      · exact .inr h1
      · exact .inl rfl
  · rw [if_neg h]
    constructor
    · exact .inl
    · rintro (h1 | ⟨h1, h2, h3, rfl⟩)
      · exact h1
      · exact absurd (by simp [isFree, h1, h2, h3]) h
mutual
theorem fvisE_mem (z x : Int) : ∀ (e : ExprL) (s : List Int), x ∈ visE (fvis z) e s ↔ x ∈ s ∨ (0 ≤ x ∧ x < z ∧ 0 < mE x e)
  | .mk op num ks, s => by
    rw [visE, fvisEs_mem z x ks, fvis_mem, mE]
    by_cases h : op = 12 ∧ num = x
    · rw [if_pos h]
      constructor
      · rintro ((h1 | ⟨h1, h2, _⟩) | ⟨h1, h2, _⟩)
        · exact .inl h1
        · exact .inr ⟨h1, h2, by omega⟩
        · exact .inr ⟨h1, h2, by omega⟩
      · rintro (h1 | ⟨h1, h2, _⟩)
        · exact .inl (.inl h1)
        · exact .inl (.inr ⟨h1, h2, h⟩)
    · rw [if_neg h]
      constructor
      · rintro ((h1 | ⟨_, _, h3⟩) | ⟨h1, h2, h3⟩)
        · exact .inl h1
        · exact absurd h3 h
        · exact .inr ⟨h1, h2, by omega⟩
      · rintro (h1 | ⟨h1, h2, h3⟩)
        · exact .inl (.inl h1)
        · exact .inr ⟨h1, h2, by omega⟩
theorem fvisEs_mem (z x : Int) : ∀ (es : List ExprL) (s : List Int), x ∈ visEs (fvis z) es s ↔ x ∈ s ∨ (0 ≤ x ∧ x < z ∧ 0 < mEs x es)
  | [], s => by simp [visEs, mEs]
  | e :: es, s => by
    rw [visEs, fvisEs_mem z x es, fvisE_mem z x e, mEs]
    constructor
    · rintro ((h1 | ⟨h1, h2, h3⟩) | ⟨h1, h2, h3⟩)
      · exact .inl h1
      · exact .inr ⟨h1, h2, by omega⟩
      · exact .inr ⟨h1, h2, by omega⟩
    · rintro (h1 | ⟨h1, h2, h3⟩)
      · exact .inl (.inl h1)
      · by_cases h4 : 0 < mE x e
        · exact .inl (.inr ⟨h1, h2, h4⟩)
        · exact .inr ⟨h1, h2, by omega⟩
end
theorem freeL_mem {z op num x : Int} {es : List ExprL} (h : nEs es + 1 ≤ 30) : x ∈ freeL z op num es ↔ 0 ≤ x ∧ x < z ∧ 0 < mE x (.mk op num es) := by
  rw [freeL, if_pos h, fvisE_mem]
  simp
theorem freeL_asc (z op num : Int) (es : List ExprL) : Asc (freeL z op num es) := by
  unfold freeL
  split
  · exact fvisE_asc _ _ _ List.Pairwise.nil
  · exact List.Pairwise.nil

theorem asc_snoc {xs : List Int} {n : Int} (h : Asc xs) (hl : ∀ x, x ∈ xs → x < n) : Asc (xs ++ [n]) := by
  refine List.pairwise_append.2 ⟨h, List.pairwise_singleton _ _, fun a ha b hb => ?_⟩
  rw [List.mem_singleton] at hb
  rw [hb]; exact hl a ha
/-- Fewer variables are the first ones. -/
theorem freeL_less_in {z op num : Int} {es : List ExprL} (h : nEs es + 1 ≤ 30) (hm : z - 1 ∈ freeL z op num es) : freeL z op num es = freeL (z - 1) op num es ++ [z - 1] := by
  refine asc_ext (freeL_asc _ _ _ _) (asc_snoc (freeL_asc _ _ _ _) (fun x hx => ((freeL_mem h).1 hx).2.1)) (fun x => ?_)
  rw [List.mem_append, List.mem_singleton, freeL_mem h, freeL_mem h]
  have h2 := (freeL_mem h).1 hm
  constructor
  · rintro ⟨h3, h4, h5⟩
    by_cases e : x = z - 1
    · exact .inr e
    · exact .inl ⟨h3, by omega, h5⟩
  · rintro (⟨h3, h4, h5⟩ | rfl)
    · exact ⟨h3, by omega, h5⟩
    · exact h2
theorem freeL_less_out {z op num : Int} {es : List ExprL} (h : nEs es + 1 ≤ 30) (hm : z - 1 ∉ freeL z op num es) : freeL z op num es = freeL (z - 1) op num es := by
  refine asc_ext (freeL_asc _ _ _ _) (freeL_asc _ _ _ _) (fun x => ?_)
  rw [freeL_mem h, freeL_mem h]
  constructor
  · rintro ⟨h3, h4, h5⟩
    refine ⟨h3, ?_, h5⟩
    have : x ≠ z - 1 := fun e => hm (e ▸ (freeL_mem h).2 ⟨h3, h4, h5⟩)
    omega
  · rintro ⟨h3, h4, h5⟩
    exact ⟨h3, by omega, h5⟩

end Go.Proofs.Ytomgellcpjimjaa
