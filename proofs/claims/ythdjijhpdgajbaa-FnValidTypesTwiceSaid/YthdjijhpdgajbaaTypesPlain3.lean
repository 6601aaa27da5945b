/- The plain laws of types: what valid declarations give. -/
import Derived.Test.YthdjijhpdgajbaaTypesPlain2
namespace Go.Proofs.Ythdjijhpdgajbaa

theorem dAt_app_left {ds es : List DeclL} {i : Nat} (h : i < ds.length) : dAt (ds ++ es) i = dAt ds i := by simp [dAt, List.getD, List.getElem?_append_left h]
theorem dAt_app_last {ds : List DeclL} {d : DeclL} : dAt (ds ++ [d]) ds.length = d := by simp [dAt, List.getD]
theorem isT_up {n : Nat} {t : Int} (h : isT n t = true) : isT (n + 1) t = true := by simp [isT] at h ⊢; omega
theorem conOk_up {n : Nat} {c : List Int} (h : conOk n c = true) : conOk (n + 1) c = true := by
  simp only [conOk, Bool.and_eq_true, decide_eq_true_eq, allT, List.all_eq_true] at h ⊢
  exact ⟨h.1, fun x hx => isT_up (h.2 x hx)⟩
theorem declOk_up {ds : List DeclL} {d : DeclL} {k : Nat} (hk : k < ds.length) (h : declOk ds k = true) : declOk (ds ++ [d]) k = true := by
  unfold declOk at h ⊢
  rw [dAt_app_left hk, List.length_append, List.length_singleton]
  split
  · rename_i h0
    rw [if_pos h0] at h
    simp only [Bool.and_eq_true, List.all_eq_true] at h ⊢
    exact ⟨h.1, fun c hc => conOk_up (h.2 c hc)⟩
  · rename_i h0
    rw [if_neg h0] at h
    simp only [Bool.and_eq_true, nAll] at h ⊢
    exact ⟨⟨isT_up h.1.1, isT_up h.1.2⟩, fun i hi => by rw [dAt_app_left (by omega)]; exact h.2 i hi⟩
/-- A data type can be added. -/
theorem valid_add {ds : List DeclL} (h : typesOk ds = true) : typesOk (ds ++ [⟨0, 0, [[0]]⟩]) = decide (ds.length < 4) := by
  simp only [typesOk, Bool.and_eq_true, decide_eq_true_eq, nAll] at h
  by_cases h4 : ds.length < 4
  · rw [decide_eq_true h4]
    simp only [typesOk, Bool.and_eq_true, decide_eq_true_eq, nAll, List.length_append, List.length_singleton]
    refine ⟨by omega, fun i hi => ?_⟩
    by_cases e : i < ds.length
    · exact declOk_up e (h.2 i e)
    · obtain rfl : i = ds.length := by omega
      unfold declOk
      rw [dAt_app_last, if_pos (by simp)]
      simp [conOk, allT, isT]
      omega
  · rw [decide_eq_false h4]
    simp [typesOk]
    omega
/-- Arrow types are told apart. -/
theorem valid_twice {ds : List DeclL} {i : Nat} (hi : i < ds.length) (h0 : (dAt ds i).cons.length = 0) : typesOk (ds ++ [dAt ds i]) = false := by
  have h : declOk (ds ++ [dAt ds i]) ds.length = false := by
    unfold declOk
    rw [dAt_app_last, if_neg (by omega)]
    rw [nAll_false (i := i) hi (by rw [dAt_app_left hi]; simp [sameArrow, h0])]
    simp
  unfold typesOk
  rw [nAll_false (i := ds.length) (by simp) h]
  simp
/-- Each arrow type is found. -/
theorem arrow_all {ds : List DeclL} (h : typesOk ds = true) {i : Nat} (hi : i < ds.length) (h0 : (dAt ds i).cons.length = 0) : arrowL ds (dAt ds i).from_ (dAt ds i).to_ = (i : Int) + 1 := by
  simp only [typesOk, Bool.and_eq_true, decide_eq_true_eq, nAll] at h
  have hd := h.2 i hi
  unfold declOk at hd
  rw [if_neg (by omega)] at hd
  simp only [Bool.and_eq_true, nAll] at hd
  unfold arrowL
  rw [firstIx_some (i := i) hi (by simp [isArrow, h0]) (fun j hj => ?_)]
  · rfl
  · have := hd.2 j hj
    simp only [sameArrow, Bool.not_eq_true', Bool.and_eq_false_iff, decide_eq_false_iff_not] at this
    simp only [isArrow, Bool.and_eq_false_iff, decide_eq_false_iff_not, beq_eq_false_iff_ne]
    exact this
theorem consL_few {ds : List DeclL} (h : Few ds) (t : Int) : (consL ds t).length ≤ 3 := by
  unfold consL
  split
  · have := h.2 (t.toNat - 1) (by omega)
    simp; omega
  · simp
theorem consL_len_zero (ds : List DeclL) : (consL ds 0).length = 0 := by simp [consL]
theorem consL_len_succ {ds : List DeclL} {k : Nat} (h : k < ds.length) : (consL ds ((k : Int) + 1)).length = (dAt ds k).cons.length := by
  unfold consL
  rw [if_pos (by omega), show ((k : Int) + 1).toNat - 1 = k by omega]
  simp
/-- The numbers of constructors of the types below t. -/
def sumTo (ds : List DeclL) : Nat → Nat
  | 0 => 0
  | t + 1 => sumTo ds t + (consL ds (t : Int)).length
theorem sumTo_first {ds : List DeclL} {k : Nat} (h : k ≤ ds.length) : sumTo ds (k + 1) = firstN ds k := by
  induction k with
  | zero => simp [sumTo, firstN, consL_len_zero]
  | succ k ih =>
    have e : sumTo ds (k + 1 + 1) = sumTo ds (k + 1) + (consL ds ((k + 1 : Nat) : Int)).length := rfl
    rw [e, ih (by omega), firstN]
    have := consL_len_succ (ds := ds) (k := k) (by omega)
    rw [show ((k + 1 : Nat) : Int) = (k : Int) + 1 by omega, this]
theorem sumTo_all (ds : List DeclL) : sumTo ds (ds.length + 1) = conN ds := sumTo_first (Nat.le_refl _)
theorem sumTo_le {ds : List DeclL} (h : Few ds) {k : Nat} (hk : k ≤ ds.length + 1) : sumTo ds k ≤ 15 := by
  rcases k with _ | k
  · simp [sumTo]
  · have := firstN_le h (k := k) (by omega)
    rw [sumTo_first (by omega)]
    have := h.1
    omega

theorem conType_cases (ds : List DeclL) (c : Int) : (conTypeL ds c = -1 ∧ ∀ i, i < ds.length → inDecl ds c i = false) ∨ ∃ i : Nat, conTypeL ds c = (i : Int) + 1 ∧ i < ds.length ∧ inDecl ds c i = true := by
  cases h : conIx ds c with
  | none => exact .inl ⟨by rw [conTypeL, h]; rfl, firstIx_spec_none h⟩
  | some i =>
    obtain ⟨h1, h2, _⟩ := firstIx_spec h
    exact .inr ⟨i, by rw [conTypeL, h]; rfl, h1, h2⟩
theorem inDecl_eq {ds : List DeclL} {c : Int} {i j : Nat} (hi : inDecl ds c i = true) (hj : inDecl ds c j = true) : i = j := by
  simp only [inDecl, decide_eq_true_eq] at hi hj
  rcases Nat.lt_trichotomy i j with h | h | h
  · have := firstN_mono (ds := ds) (show i + 1 ≤ j from h); omega
  · exact h
  · have := firstN_mono (ds := ds) (show j + 1 ≤ i from h); omega
theorem conType_of {ds : List DeclL} {c : Int} {i : Nat} (hi : i < ds.length) (h : inDecl ds c i = true) : conTypeL ds c = (i : Int) + 1 := by
  rcases conType_cases ds c with ⟨_, h2⟩ | ⟨j, h1, _, h3⟩
  · rw [h2 i hi] at h; cases h
  · rw [h1, inDecl_eq h3 h]
/-- A number below the first of a declaration lies in one before it. -/
theorem inDecl_below {ds : List DeclL} {c : Int} (h0 : 0 ≤ c) {k : Nat} (h : c < (firstN ds k : Int)) : ∃ i, i < k ∧ inDecl ds c i = true := by
  induction k with
  | zero => simp [firstN] at h; omega
  | succ k ih =>
    by_cases h1 : c < (firstN ds k : Int)
    · obtain ⟨i, hi, h2⟩ := ih h1
      exact ⟨i, by omega, h2⟩
    · exact ⟨k, by omega, by simp only [inDecl, decide_eq_true_eq]; omega⟩
/-- Constructors are numbered by types. -/
theorem conType_before {ds : List DeclL} {c : Int} {i : Nat} (hi : i < ds.length) (h : inDecl ds c i = true) (hc : c ≠ 0) : 1 ≤ conTypeL ds (c - 1) ∧ conTypeL ds (c - 1) ≤ (i : Int) + 1 := by
  have h' := h
  simp only [inDecl, decide_eq_true_eq] at h'
  obtain ⟨j, hj, h2⟩ := inDecl_below (ds := ds) (c := c - 1) (by omega) (k := i + 1) (by omega)
  rw [conType_of (by omega) h2]
  omega
theorem conType_end (ds : List DeclL) : conTypeL ds (conN ds : Int) = -1 := by
  rcases conType_cases ds (conN ds : Int) with ⟨h, _⟩ | ⟨i, _, hi, h⟩
  · exact h
  · simp only [inDecl, decide_eq_true_eq] at h
    have := firstN_mono (ds := ds) (show i + 1 ≤ ds.length from hi)
    unfold conN at h
    omega
theorem conType_in {ds : List DeclL} {c : Int} {i : Nat} (hi : i < ds.length) (h : inDecl ds c i = true) : 0 ≤ c ∧ c < (conN ds : Int) := by
  simp only [inDecl, decide_eq_true_eq] at h
  have := firstN_mono (ds := ds) (show i + 1 ≤ ds.length from hi)
  unfold conN
  omega
theorem mem_consL {ds : List DeclL} {c : Int} {k : Nat} (hk : k < ds.length) : c ∈ consL ds ((k : Int) + 1) ↔ inDecl ds c k = true := by
  unfold consL
  rw [if_pos (by omega), show ((k : Int) + 1).toNat - 1 = k by omega]
  have e : inDecl ds c k = true ↔ (firstN ds k : Int) ≤ c ∧ c < ((firstN ds k + (dAt ds k).cons.length : Nat) : Int) := ⟨fun h => of_decide_eq_true h, fun h => decide_eq_true h⟩
  rw [e]
  simp only [List.mem_map, List.mem_range]
  constructor
  · rintro ⟨i, hi, rfl⟩; omega
  · intro h; exact ⟨c.toNat - firstN ds k, by omega, by omega⟩
theorem mem_consL_type {ds : List DeclL} {c : Int} {i t : Nat} (hi : i < ds.length) (h : inDecl ds c i = true) (ht : t ≤ ds.length) : c ∈ consL ds (t : Int) ↔ t = i + 1 := by
  rcases t with _ | t
  · simp [consL]
  · rw [show ((t + 1 : Nat) : Int) = (t : Int) + 1 by omega, mem_consL (by omega)]
    constructor
    · intro h2; rw [inDecl_eq h2 h]
    · intro e; obtain rfl : t = i := by omega
      exact h
theorem conFields_in {ds : List DeclL} {c : Int} {i : Nat} (hi : i < ds.length) (h : inDecl ds c i = true) : conFieldsL ds c = cAt (dAt ds i).cons (c.toNat - firstN ds i) := by
  unfold conFieldsL
  cases hx : conIx ds c with
  | none => rw [firstIx_spec_none hx i hi] at h; cases h
  | some j =>
    obtain ⟨_, h2, _⟩ := firstIx_spec hx
    rw [inDecl_eq h2 h]
theorem arrow_cases (ds : List DeclL) (f t : Int) : arrowL ds f t = -1 ∨ ∃ i : Nat, arrowL ds f t = (i : Int) + 1 ∧ i < ds.length ∧ (dAt ds i).cons.length = 0 ∧ (dAt ds i).from_ = f ∧ (dAt ds i).to_ = t := by
  cases h : firstIx ds.length (isArrow ds f t) with
  | none => exact .inl (by rw [arrowL, h]; rfl)
  | some i =>
    obtain ⟨h1, h2, _⟩ := firstIx_spec h
    simp only [isArrow, Bool.and_eq_true, decide_eq_true_eq, beq_iff_eq] at h2
    exact .inr ⟨i, by rw [arrowL, h]; rfl, h1, h2.1.1, h2.1.2, h2.2⟩
end Go.Proofs.Ythdjijhpdgajbaa
