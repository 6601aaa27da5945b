/- Types, in plain Lean: what valid declarations are, and lemmas on lists. No program. -/
import Derived.Test.YthdjijhpdgajbaaData
namespace Go.Proofs.Ythdjijhpdgajbaa

theorem iAt_eq {xs : List Int} {i : Nat} (h : i < xs.length) : iAt xs i = xs[i] := by simp [iAt, List.getElem?_eq_getElem h]
theorem cAt_eq {xs : List (List Int)} {i : Nat} (h : i < xs.length) : cAt xs i = xs[i] := by simp [cAt, List.getElem?_eq_getElem h]
theorem dAt_eq {xs : List DeclL} {i : Nat} (h : i < xs.length) : dAt xs i = xs[i] := by simp [dAt, List.getElem?_eq_getElem h]
theorem iAll {xs : List Int} {p : Int → Bool} : xs.all p = true ↔ ∀ i, i < xs.length → p (iAt xs i) = true := by
  rw [List.all_eq_true]
  constructor
  · intro h i hi; rw [iAt_eq hi]; exact h _ (List.getElem_mem _)
  · intro h x hx
    obtain ⟨i, hi, rfl⟩ := List.getElem_of_mem hx
    rw [← iAt_eq hi]; exact h i hi
theorem cAll {xs : List (List Int)} {p : List Int → Bool} : xs.all p = true ↔ ∀ i, i < xs.length → p (cAt xs i) = true := by
  rw [List.all_eq_true]
  constructor
  · intro h i hi; rw [cAt_eq hi]; exact h _ (List.getElem_mem _)
  · intro h x hx
    obtain ⟨i, hi, rfl⟩ := List.getElem_of_mem hx
    rw [← cAt_eq hi]; exact h i hi
theorem nAll {n : Nat} {p : Nat → Bool} : (List.range n).all p = true ↔ ∀ i, i < n → p i = true := by
  simp [List.all_eq_true]
theorem iAll_false {xs : List Int} {p : Int → Bool} {i : Nat} (hi : i < xs.length) (h : p (iAt xs i) = false) : xs.all p = false := by
  cases hx : xs.all p
  · rfl
  · rw [iAll] at hx; rw [hx i hi] at h; cases h
theorem cAll_false {xs : List (List Int)} {p : List Int → Bool} {i : Nat} (hi : i < xs.length) (h : p (cAt xs i) = false) : xs.all p = false := by
  cases hx : xs.all p
  · rfl
  · rw [cAll] at hx; rw [hx i hi] at h; cases h
theorem nAll_false {n : Nat} {p : Nat → Bool} {i : Nat} (hi : i < n) (h : p i = false) : (List.range n).all p = false := by
  cases hx : (List.range n).all p
  · rfl
  · rw [nAll] at hx; rw [hx i hi] at h; cases h

def isT (n : Nat) (t : Int) : Bool := decide (0 ≤ t ∧ t ≤ (n : Int))
def allT (n : Nat) (xs : List Int) : Bool := xs.all (isT n)
/-- The fields of a constructor are right. -/
def conOk (n : Nat) (c : List Int) : Bool := decide (c.length ≤ 3) && allT n c
def sameArrow (d e : DeclL) : Bool := decide (d.cons.length = 0) && decide (d.from_ = e.from_) && decide (d.to_ = e.to_)
def declOk (ds : List DeclL) (k : Nat) : Bool :=
  if 0 < (dAt ds k).cons.length then decide ((dAt ds k).cons.length ≤ 3 ∧ (dAt ds k).from_ = 0 ∧ (dAt ds k).to_ = 0) && (dAt ds k).cons.all (conOk ds.length)
  else isT ds.length (dAt ds k).from_ && isT ds.length (dAt ds k).to_ && (List.range k).all fun i => !sameArrow (dAt ds i) (dAt ds k)
def typesOk (ds : List DeclL) : Bool := decide (ds.length ≤ 4) && (List.range ds.length).all (declOk ds)
end Go.Proofs.Ythdjijhpdgajbaa
