/- Numbers of constructors, the place of a constructor, the arrow type between two types: in plain Lean. -/
import Derived.Test.YthdjijhpdgajbaaTypesPlain
namespace Go.Proofs.Ythdjijhpdgajbaa

/-- The declarations are few, and so are their constructors. -/
def Few (ds : List DeclL) : Prop := ds.length ≤ 4 ∧ ∀ i, i < ds.length → (dAt ds i).cons.length ≤ 3

def firstN (ds : List DeclL) : Nat → Nat
  | 0 => 0
  | k + 1 => firstN ds k + (dAt ds k).cons.length
def conN (ds : List DeclL) : Nat := firstN ds ds.length

theorem declOk_few {ds : List DeclL} {k : Nat} (h : declOk ds k = true) : (dAt ds k).cons.length ≤ 3 := by
  unfold declOk at h
  split at h
  · simp at h; omega
  · omega
theorem Few.of_ok {ds : List DeclL} (h : typesOk ds = true) : Few ds := by
  simp only [typesOk, Bool.and_eq_true, decide_eq_true_eq] at h
  exact ⟨h.1, fun i hi => declOk_few (nAll.1 h.2 i hi)⟩
theorem firstN_le {ds : List DeclL} (h : Few ds) {k : Nat} (hk : k ≤ ds.length) : firstN ds k ≤ 3 * k := by
  induction k with
  | zero => simp [firstN]
  | succ k ih => have := h.2 k (by omega); have := ih (by omega); simp only [firstN]; omega
theorem firstN_mono {ds : List DeclL} {i j : Nat} (h : i ≤ j) : firstN ds i ≤ firstN ds j := by
  induction h with
  | refl => exact Nat.le_refl _
  | step _ ih => simp only [firstN]; omega

/-- The first of the numbers below n that is right. -/
def firstIx (n : Nat) (p : Nat → Bool) : Option Nat := (List.range n).find? p
theorem firstIx_some {n i : Nat} {p : Nat → Bool} (hi : i < n) (hp : p i = true) (hb : ∀ j, j < i → p j = false) : firstIx n p = some i := by
  unfold firstIx
  rw [List.find?_range_eq_some]
  exact ⟨hp, by simpa using hi, fun j hj => by simp [hb j hj]⟩
theorem firstIx_none {n : Nat} {p : Nat → Bool} (hb : ∀ j, j < n → p j = false) : firstIx n p = none := by
  unfold firstIx
  rw [List.find?_eq_none]
  intro j hj
  simp at hj
  simp [hb j hj]
theorem firstIx_spec {n i : Nat} {p : Nat → Bool} (h : firstIx n p = some i) : i < n ∧ p i = true ∧ ∀ j, j < i → p j = false := by
  unfold firstIx at h
  rw [List.find?_range_eq_some] at h
  exact ⟨by simpa using h.2.1, h.1, fun j hj => by simpa using h.2.2 j hj⟩
theorem firstIx_spec_none {n : Nat} {p : Nat → Bool} (h : firstIx n p = none) : ∀ j, j < n → p j = false := by
  unfold firstIx at h
  rw [List.find?_eq_none] at h
  intro j hj
  simpa using h j (by simpa using hj)

/-- A type plus 1, or -1. -/
def typeOr : Option Nat → Int
  | some i => (i : Int) + 1
  | none => -1
def inDecl (ds : List DeclL) (c : Int) (i : Nat) : Bool := decide ((firstN ds i : Int) ≤ c ∧ c < (firstN ds (i + 1) : Int))
def conIx (ds : List DeclL) (c : Int) : Option Nat := firstIx ds.length (inDecl ds c)
def conTypeL (ds : List DeclL) (c : Int) : Int := typeOr (conIx ds c)
/-- The fields of a constructor; none if there is no such constructor. -/
def conFieldsL (ds : List DeclL) (c : Int) : List Int :=
  match conIx ds c with
  | some i => cAt (dAt ds i).cons (c.toNat - firstN ds i)
  | none => []
def isArrow (ds : List DeclL) (f t : Int) (i : Nat) : Bool := decide ((dAt ds i).cons.length = 0) && ((dAt ds i).from_ == f) && ((dAt ds i).to_ == t)
def arrowL (ds : List DeclL) (f t : Int) : Int := typeOr (firstIx ds.length (isArrow ds f t))
/-- The numbers of the constructors of a type. -/
def consL (ds : List DeclL) (t : Int) : List Int :=
  if 1 ≤ t ∧ t ≤ (ds.length : Int) then (List.range (dAt ds (t.toNat - 1)).cons.length).map fun i => ((firstN ds (t.toNat - 1) + i : Nat) : Int) else []
end Go.Proofs.Ythdjijhpdgajbaa
