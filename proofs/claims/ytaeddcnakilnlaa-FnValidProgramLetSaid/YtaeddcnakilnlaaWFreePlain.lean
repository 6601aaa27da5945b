/- Free variables, plain: by insertion, and by sorting and compacting what is found. -/
import Derived.Test.YtaeddcnakilnlaaWSetPlain
import Derived.Test.YtaeddcnakilnlaaME
import Derived.Lib.SlicesCompact
namespace Go.Proofs.Ytaeddcnakilnlaa
open Go.RowKit

/-- A node is a variable below z. -/
def isFree (z op num : Int) : Bool := decide (op = 12) && decide (0 ≤ num) && decide (num < z)
/-- The reference's visits: insertion. -/
def fvis (z : Int) (op num : Int) (s : List Int) : List Int := if isFree z op num then insL s num else s
/-- The program's visits: what is found goes to the end. -/
def gvis (z : Int) (op num : Int) (s : List Int) : List Int := if isFree z op num then s ++ [num] else s
def freeL (z op num : Int) (es : List ExprL) : List Int := if nEs es + 1 ≤ 30 then visE (fvis z) (.mk op num es) [] else []

theorem fvis_len1 (z op num : Int) (s : List Int) : (fvis z op num s).length ≤ s.length + 1 := by
  unfold fvis; split
  · exact insL_len s num
  · omega

section
variable (z : Int)
mutual
theorem fvisE_len : ∀ (e : ExprL) (s : List Int), (visE (fvis z) e s).length ≤ s.length + nE e
  | .mk op num ks, s => by
    have h := fvisEs_len ks (fvis z op num s)
    have h1 : (fvis z op num s).length ≤ s.length + 1 := by
      unfold fvis; split
      · exact insL_len s num
      · omega
    simp only [visE, nE]; omega
theorem fvisEs_len : ∀ (es : List ExprL) (s : List Int), (visEs (fvis z) es s).length ≤ s.length + nEs es
  | [], s => by simp [visEs]
  | e :: es, s => by
    have h1 := fvisE_len e s
    have h2 := fvisEs_len es (visE (fvis z) e s)
    simp only [visEs, nEs]; omega
end
mutual
theorem gvisE_len : ∀ (e : ExprL) (s : List Int), (visE (gvis z) e s).length ≤ s.length + nE e
  | .mk op num ks, s => by
    have h := gvisEs_len ks (gvis z op num s)
    have h1 : (gvis z op num s).length ≤ s.length + 1 := by
      unfold gvis; split
      · simp
      · omega
    simp only [visE, nE]; omega
theorem gvisEs_len : ∀ (es : List ExprL) (s : List Int), (visEs (gvis z) es s).length ≤ s.length + nEs es
  | [], s => by simp [visEs]
  | e :: es, s => by
    have h1 := gvisE_len e s
    have h2 := gvisEs_len es (visE (gvis z) e s)
    simp only [visEs, nEs]; omega
end
mutual
theorem fvisE_asc : ∀ (e : ExprL) (s : List Int), Asc s → Asc (visE (fvis z) e s)
  | .mk op num ks, s, h => by
    rw [visE]
    refine fvisEs_asc ks _ ?_
    unfold fvis; split
    · exact insL_asc h
    · exact h
theorem fvisEs_asc : ∀ (es : List ExprL) (s : List Int), Asc s → Asc (visEs (fvis z) es s)
  | [], s, h => by rw [visEs]; exact h
  | e :: es, s, h => by rw [visEs]; exact fvisEs_asc es _ (fvisE_asc e s h)
end
theorem fgvis (op num : Int) (s t : List Int) (h : ∀ x, x ∈ s ↔ x ∈ t) : ∀ x, x ∈ fvis z op num s ↔ x ∈ gvis z op num t := by
  intro x
  unfold fvis gvis
  split
  · rw [insL_mem, List.mem_append, List.mem_singleton, h x, or_comm]
  · exact h x
mutual
theorem fgvisE : ∀ (e : ExprL) (s t : List Int), (∀ x, x ∈ s ↔ x ∈ t) → ∀ x, x ∈ visE (fvis z) e s ↔ x ∈ visE (gvis z) e t
  | .mk op num ks, s, t, h => by
    rw [visE, visE]
    exact fgvisEs ks _ _ (fgvis z op num s t h)
theorem fgvisEs : ∀ (es : List ExprL) (s t : List Int), (∀ x, x ∈ s ↔ x ∈ t) → ∀ x, x ∈ visEs (fvis z) es s ↔ x ∈ visEs (gvis z) es t
  | [], s, t, h => by rw [visEs, visEs]; exact h
  | e :: es, s, t, h => by rw [visEs, visEs]; exact fgvisEs es _ _ (fgvisE e s t h)
end
end

theorem compact_mem (zs : List Int) (x : Int) : x ∈ Lib.compact zs ↔ x ∈ zs := by
  unfold Lib.compact Lib.compactUpTo
  constructor
  · intro h
    obtain ⟨j, hj, rfl⟩ := List.mem_map.1 h
    have hj' : j < zs.length := List.mem_range.1 (List.mem_filter.1 hj).1
    simp [hj']
  · intro h
    have hex : ∃ j, j < zs.length ∧ zs.toArray[j]! = x := by
      obtain ⟨j, hj, e⟩ := List.getElem_of_mem h
      exact ⟨j, hj, by simp [hj, e]⟩
    have hmin : ∀ n j, j < n → j < zs.length → zs.toArray[j]! = x → ∃ i, i < zs.length ∧ zs.toArray[i]! = x ∧ (i = 0 ∨ zs.toArray[i - 1]! ≠ x) := by
      intro n
      induction n with
      | zero => intro j hj; omega
      | succ n ih =>
        intro j hj hl hx
        by_cases h0 : j = 0
        · exact ⟨j, hl, hx, .inl h0⟩
        · by_cases he : zs.toArray[j - 1]! = x
          · exact ih (j - 1) (by omega) (by omega) he
          · exact ⟨j, hl, hx, .inr he⟩
    obtain ⟨j, hl, hx⟩ := hex
    obtain ⟨i, hi, he, hk⟩ := hmin (j + 1) j (by omega) hl hx
    refine List.mem_map.2 ⟨i, List.mem_filter.2 ⟨List.mem_range.2 hi, ?_⟩, he⟩
    unfold Lib.keeps
    refine decide_eq_true ?_
    rcases hk with hk | hk
    · exact .inl hk
    · exact .inr (by rw [he]; exact fun h => hk h.symm)
theorem compact_asc {zs : List Int} (h : zs.Pairwise (· ≤ ·)) : Asc (Lib.compact zs) := by
  unfold Lib.compact Lib.compactUpTo Asc
  rw [List.pairwise_map]
  have hle : ∀ i j, i ≤ j → j < zs.length → zs.toArray[i]! ≤ zs.toArray[j]! := by
    intro i j hij hj
    rcases Nat.eq_or_lt_of_le hij with rfl | hlt
    · exact Int.le_refl _
    · have := List.pairwise_iff_getElem.1 h i j (by omega) hj hlt
      simpa [hj, show i < zs.length by omega] using this
  refine List.Pairwise.imp_of_mem (R := (· < ·)) ?_ (List.Pairwise.filter _ (List.pairwise_lt_range))
  intro i j hi hj hlt
  have hj' : j < zs.length := List.mem_range.1 (List.mem_filter.1 hj).1
  have hk := (List.mem_filter.1 hj).2
  unfold Lib.keeps at hk
  have hk' := of_decide_eq_true hk
  rcases hk' with hk' | hk'
  · omega
  · have h1 := hle i (j - 1) (by omega) (by omega)
    have h2 := hle (j - 1) j (by omega) hj'
    omega
/-- What the program makes of what it finds is what the reference has. -/
theorem free_both (z op num : Int) (es : List ExprL) (h : nEs es + 1 ≤ 30) (zs : List Int) (hs : zs.Pairwise (· ≤ ·)) (hm : ∀ x, x ∈ zs ↔ x ∈ visE (gvis z) (.mk op num es) []) : Lib.compact zs = freeL z op num es := by
  rw [freeL, if_pos h]
  refine asc_ext (compact_asc hs) (fvisE_asc z _ _ (by simp [Asc])) (fun x => ?_)
  rw [compact_mem, hm, fgvisE z _ [] [] (fun _ => Iff.rfl)]
end Go.Proofs.Ytaeddcnakilnlaa
