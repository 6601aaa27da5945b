/- Ascending lists of integers as sets: insertion, indices of what is true; plain. -/
import Derived.Test.YtaeddcnakilnlaaMGA
namespace Go.Proofs.Ytaeddcnakilnlaa
open Go.RowKit

/-- An ascending list with a number at its place, once. -/
def insL : List Int → Int → List Int
  | [], n => [n]
  | x :: xs, n => if n < x then n :: x :: xs else if n = x then x :: xs else x :: insL xs n
def Asc (xs : List Int) : Prop := xs.Pairwise (· < ·)

theorem insL_len (xs : List Int) (n : Int) : (insL xs n).length ≤ xs.length + 1 := by
  induction xs with
  | nil => simp [insL]
  | cons x xs ih =>
    simp only [insL]
    split
    · simp
    · split
      · simp
      · simp only [List.length_cons]; omega
theorem insL_mem (xs : List Int) (n x : Int) : x ∈ insL xs n ↔ x = n ∨ x ∈ xs := by
  induction xs with
  | nil => simp [insL]
  | cons y ys ih =>
    simp only [insL]
    split
    · simp
    · split
      · next h => subst h; simp
      · simp only [List.mem_cons, ih]
        constructor
        · rintro (h | h | h)
          · exact .inr (.inl h)
          · exact .inl h
          · exact .inr (.inr h)
        · rintro (h | h | h)
          · exact .inr (.inl h)
          · exact .inl h
          · exact .inr (.inr h)
theorem insL_asc {xs : List Int} {n : Int} (h : Asc xs) : Asc (insL xs n) := by
  induction xs with
  | nil => simp [insL, Asc]
  | cons y ys ih =>
    obtain ⟨h1, h2⟩ := List.pairwise_cons.1 h
    simp only [insL]
    split
    · next hn =>
      refine List.pairwise_cons.2 ⟨fun z hz => ?_, h⟩
      rcases List.mem_cons.1 hz with rfl | hz
      · exact hn
      · have := h1 z hz; omega
    · split
      · exact h
      · next hn hne =>
        refine List.pairwise_cons.2 ⟨fun z hz => ?_, ih h2⟩
        rcases (insL_mem ys n z).1 hz with rfl | hz
        · omega
        · exact h1 z hz
theorem asc_ext : ∀ {xs ys : List Int}, Asc xs → Asc ys → (∀ x, x ∈ xs ↔ x ∈ ys) → xs = ys
  | [], [], _, _, _ => rfl
  | [], y :: ys, _, _, h => absurd ((h y).2 (by simp)) (by simp)
  | x :: xs, [], _, _, h => absurd ((h x).1 (by simp)) (by simp)
  | x :: xs, y :: ys, hx, hy, h => by
    obtain ⟨hx1, hx2⟩ := List.pairwise_cons.1 hx
    obtain ⟨hy1, hy2⟩ := List.pairwise_cons.1 hy
    have e : x = y := by
      rcases List.mem_cons.1 ((h x).1 (by simp)) with e | hm
      · exact e
      · rcases List.mem_cons.1 ((h y).2 (by simp)) with e | hm'
        · exact e.symm
        · have := hy1 x hm; have := hx1 y hm'; omega
    subst e
    have e2 : xs = ys := asc_ext hx2 hy2 (fun z => by
      constructor
      · intro hz
        rcases List.mem_cons.1 ((h z).1 (by simp [hz])) with e | hm
        · have := hx1 z hz; omega
        · exact hm
      · intro hz
        rcases List.mem_cons.1 ((h z).2 (by simp [hz])) with e | hm
        · have := hy1 z hz; omega
        · exact hm)
    rw [e2]

/-- What holds in the loop of insert behind j elements. -/
def InsR (xs : List Int) (n : Int) (j : Nat) (out : List Int) (done : Bool) : Prop :=
  if done = true then out ++ xs.drop j = insL xs n else out = xs.take j ∧ insL xs n = xs.take j ++ insL (xs.drop j) n
theorem InsR.start (xs : List Int) (n : Int) : InsR xs n 0 [] false := by simp [InsR]
theorem drop_iAt {xs : List Int} {j : Nat} (h : j < xs.length) : xs.drop j = iAt xs j :: xs.drop (j + 1) := by rw [List.drop_eq_getElem_cons h, iAt_eq h]
theorem take_iAt {xs : List Int} {j : Nat} (h : j < xs.length) : xs.take (j + 1) = xs.take j ++ [iAt xs j] := by rw [List.take_succ_eq_append_getElem h, iAt_eq h]
section
variable {xs : List Int} {n : Int} {j : Nat} {out : List Int}
theorem InsR.low (h : InsR xs n j out false) (hj : j < xs.length) (hx : iAt xs j < n) : InsR xs n (j + 1) (out ++ [iAt xs j]) false := by
  simp only [InsR, Bool.false_eq_true, if_false] at h ⊢
  obtain ⟨h1, h2⟩ := h
  rw [take_iAt hj]
  refine ⟨by rw [h1], ?_⟩
  rw [h2, drop_iAt hj, insL, if_neg (by omega), if_neg (by omega), List.append_assoc]
  rfl
theorem InsR.same (h : InsR xs n j out false) (hj : j < xs.length) (hx : iAt xs j = n) : InsR xs n (j + 1) (out ++ [iAt xs j]) true := by
  simp only [InsR, Bool.false_eq_true, if_false, if_true] at h ⊢
  obtain ⟨h1, h2⟩ := h
  rw [h2, h1, drop_iAt hj, insL, if_neg (by omega), if_pos hx.symm, List.append_assoc]
  rfl
theorem InsR.over (h : InsR xs n j out false) (hj : j < xs.length) (hx : n < iAt xs j) : InsR xs n (j + 1) (out ++ [n] ++ [iAt xs j]) true := by
  simp only [InsR, Bool.false_eq_true, if_false, if_true] at h ⊢
  obtain ⟨h1, h2⟩ := h
  rw [h2, h1, drop_iAt hj, insL, if_pos hx]
  simp
theorem InsR.rest (h : InsR xs n j out true) (hj : j < xs.length) : InsR xs n (j + 1) (out ++ [iAt xs j]) true := by
  simp only [InsR, if_true] at h ⊢
  rw [← h, drop_iAt hj]
  simp
theorem InsR.done (h : InsR xs n j out true) (hj : xs.length ≤ j) : out = insL xs n := by
  simp only [InsR, if_true] at h
  rw [List.drop_of_length_le hj, List.append_nil] at h
  exact h
theorem InsR.last (h : InsR xs n j out false) (hj : xs.length ≤ j) : out ++ [n] = insL xs n := by
  simp only [InsR, Bool.false_eq_true, if_false] at h
  obtain ⟨h1, h2⟩ := h
  rw [h2, h1, List.drop_of_length_le hj]
  rfl
end

def bAtL (bs : List Bool) (i : Nat) : Bool := bs.getD i false
theorem bAtL_eq {bs : List Bool} {i : Nat} (h : i < bs.length) : bAtL bs i = bs[i] := by simp [bAtL, List.getElem?_eq_getElem h]
/-- The indices of what is true, ascending, from k on. -/
def idxFrom : Nat → List Bool → List Int
  | _, [] => []
  | k, b :: bs => if b = true then (k : Int) :: idxFrom (k + 1) bs else idxFrom (k + 1) bs
def idxL (bs : List Bool) : List Int := idxFrom 0 bs
theorem idxFrom_append (k : Nat) (a b : List Bool) : idxFrom k (a ++ b) = idxFrom k a ++ idxFrom (k + a.length) b := by
  induction a generalizing k with
  | nil => simp [idxFrom]
  | cons x xs ih =>
    simp only [List.cons_append, idxFrom, ih, List.length_cons]
    rw [show k + 1 + xs.length = k + (xs.length + 1) by omega]
    split <;> simp
theorem idxL_take {bs : List Bool} {j : Nat} (h : j < bs.length) : idxL (bs.take (j + 1)) = idxL (bs.take j) ++ if bAtL bs j = true then [(j : Int)] else [] := by
  rw [List.take_succ_eq_append_getElem h, idxL, idxFrom_append, ← bAtL_eq h]
  have : (bs.take j).length = j := by simp; omega
  rw [this, Nat.zero_add]
  simp only [idxFrom]
  rfl
theorem idxFrom_len (k : Nat) (bs : List Bool) : (idxFrom k bs).length ≤ bs.length := by
  induction bs generalizing k with
  | nil => simp [idxFrom]
  | cons b bs ih => simp only [idxFrom]; have := ih (k + 1); split <;> simp <;> omega
theorem idxL_len (bs : List Bool) : (idxL bs).length ≤ bs.length := idxFrom_len 0 bs
theorem idxFrom_mem (k : Nat) (bs : List Bool) (x : Int) : x ∈ idxFrom k bs ↔ ∃ i : Nat, i < bs.length ∧ x = ((k + i : Nat) : Int) ∧ bAtL bs i = true := by
  induction bs generalizing k with
  | nil => simp [idxFrom]
  | cons b bs ih =>
    have hs : (∃ i : Nat, i < (b :: bs).length ∧ x = ((k + i : Nat) : Int) ∧ bAtL (b :: bs) i = true) ↔ (x = (k : Int) ∧ b = true) ∨ ∃ i : Nat, i < bs.length ∧ x = ((k + 1 + i : Nat) : Int) ∧ bAtL bs i = true := by
      constructor
      · rintro ⟨i, hi, hx, hb⟩
        rcases i with _ | i
        · exact .inl ⟨by simpa using hx, by simpa [bAtL] using hb⟩
        · exact .inr ⟨i, by simpa using hi, by rw [hx]; congr 1; omega, by simpa [bAtL] using hb⟩
      · rintro (⟨hx, hb⟩ | ⟨i, hi, hx, hb⟩)
        · exact ⟨0, by simp, by simpa using hx, by simpa [bAtL] using hb⟩
        · exact ⟨i + 1, by simpa using hi, by rw [hx]; congr 1; omega, by simpa [bAtL] using hb⟩
    rw [hs, ← ih (k + 1)]
    simp only [idxFrom]
    split
    · next hb => simp [hb]
    · next hb => simp [hb]
theorem idxL_mem (bs : List Bool) (x : Int) : x ∈ idxL bs ↔ ∃ i : Nat, i < bs.length ∧ x = (i : Int) ∧ bAtL bs i = true := by
  rw [idxL, idxFrom_mem]; simp
theorem idxFrom_asc (k : Nat) (bs : List Bool) : Asc (idxFrom k bs) := by
  induction bs generalizing k with
  | nil => simp [idxFrom, Asc]
  | cons b bs ih =>
    simp only [idxFrom]
    split
    · refine List.pairwise_cons.2 ⟨fun z hz => ?_, ih _⟩
      obtain ⟨i, _, rfl, _⟩ := (idxFrom_mem _ _ _).1 hz
      omega
    · exact ih _
theorem idxL_asc (bs : List Bool) : Asc (idxL bs) := idxFrom_asc 0 bs
end Go.Proofs.Ytaeddcnakilnlaa
