/- Inhabited types, plain: by rounds of insertion, and by passes over marks. -/
import Derived.Test.YthdjijhpdgajbaaReachPlain
import Derived.Test.YthdjijhpdgajbaaTypesPlain2
namespace Go.Proofs.Ythdjijhpdgajbaa
open Go.RowKit

/-- A type has values. -/
inductive Inh (ds : List DeclL) : Int → Prop
  | zero : Inh ds 0
  | arrow (i : Nat) : i < ds.length → (dAt ds i).cons.length = 0 → Inh ds ((i : Int) + 1)
  | con (i : Nat) (c : List Int) : i < ds.length → c ∈ (dAt ds i).cons → (∀ t, t ∈ c → Inh ds t) → Inh ds ((i : Int) + 1)

/-- One of the constructors has all its fields in a set. -/
def anyC (cs : List (List Int)) (p : Int → Bool) : Bool := cs.any (fun c => c.all p)
/-- A declaration is an arrow type, or can be filled. -/
def fullB (d : DeclL) (p : Int → Bool) : Bool := anyC d.cons p || decide (d.cons.length = 0)
theorem anyC_mono {cs : List (List Int)} {p q : Int → Bool} (h : ∀ c, c ∈ cs → ∀ t, t ∈ c → p t = true → q t = true) (hp : anyC cs p = true) : anyC cs q = true := by
  simp only [anyC, List.any_eq_true, List.all_eq_true] at hp ⊢
  obtain ⟨c, hc, ht⟩ := hp
  exact ⟨c, hc, fun t htc => h c hc t htc (ht t htc)⟩
theorem anyC_inh {ds : List DeclL} {i : Nat} (hi : i < ds.length) {p : Int → Bool} (hp : ∀ t, p t = true → Inh ds t) (h : anyC (dAt ds i).cons p = true) : Inh ds ((i : Int) + 1) := by
  simp only [anyC, List.any_eq_true, List.all_eq_true] at h
  obtain ⟨c, hc, ht⟩ := h
  exact .con i c hi hc (fun t htc => hp t (ht t htc))
theorem fullB_inh {ds : List DeclL} {i : Nat} (hi : i < ds.length) {p : Int → Bool} (hp : ∀ t, p t = true → Inh ds t) (h : fullB (dAt ds i) p = true) : Inh ds ((i : Int) + 1) := by
  simp only [fullB, Bool.or_eq_true, decide_eq_true_eq] at h
  rcases h with h | h
  · exact anyC_inh hi hp h
  · exact .arrow i hi h
theorem inh_range {ds : List DeclL} {t : Int} (h : Inh ds t) : 0 ≤ t ∧ t < ((ds.length + 1 : Nat) : Int) := by
  induction h with
  | zero => omega
  | arrow i hi _ => omega
  | con i c hi _ _ _ => omega
/-- What is closed has all that has values. -/
theorem inh_closed {ds : List DeclL} {p : Int → Bool} (h0 : p 0 = true) (h : ∀ i : Nat, i < ds.length → fullB (dAt ds i) p = true → p ((i : Int) + 1) = true) {t : Int} (ht : Inh ds t) : p t = true := by
  induction ht with
  | zero => exact h0
  | arrow i hi hc => exact h i hi (by simp [fullB, hc])
  | con i c hi hc _ ih =>
    refine h i hi ?_
    simp only [fullB, anyC, Bool.or_eq_true, List.any_eq_true, List.all_eq_true]
    exact .inl ⟨c, hc, ih⟩

/-- What one round of the reference does up to a declaration. -/
def irnAt (ds : List DeclL) (out : List Int) (i : Nat) : List Int := if fullB (dAt ds i) (fun t => decide (t ∈ out)) = true then insL out ((i : Int) + 1) else out
def irnTo (ds : List DeclL) (out : List Int) : Nat → List Int
  | 0 => out
  | i + 1 => irnAt ds (irnTo ds out i) i
def irnds (ds : List DeclL) : Nat → List Int
  | 0 => [0]
  | k + 1 => irnTo ds (irnds ds k) ds.length
def inhL (ds : List DeclL) : List Int := irnds ds ds.length

section
variable {ds : List DeclL}
theorem irnAt_asc {out : List Int} (h : Asc out) (i : Nat) : Asc (irnAt ds out i) := by
  unfold irnAt; split
  · exact insL_asc h
  · exact h
theorem irnTo_asc {out : List Int} (h : Asc out) (i : Nat) : Asc (irnTo ds out i) := by
  induction i with
  | zero => exact h
  | succ i ih => exact irnAt_asc ih i
theorem irnds_asc (k : Nat) : Asc (irnds ds k) := by
  induction k with
  | zero => simp [irnds, Asc]
  | succ k ih => exact irnTo_asc ih _
theorem irnAt_sub {out : List Int} (i : Nat) {x : Int} (h : x ∈ out) : x ∈ irnAt ds out i := by
  unfold irnAt; split
  · exact (insL_mem _ _ _).2 (.inr h)
  · exact h
theorem irnTo_le {out : List Int} {i k : Nat} (hik : i ≤ k) {x : Int} (h : x ∈ irnTo ds out i) : x ∈ irnTo ds out k := by
  induction k with
  | zero => obtain rfl : i = 0 := by omega
            exact h
  | succ k ih =>
    by_cases e : i = k + 1
    · subst e; exact h
    · exact irnAt_sub k (ih (by omega))
theorem irnTo_full {out : List Int} {i : Nat} (hi : i < ds.length) (h : fullB (dAt ds i) (fun t => decide (t ∈ out)) = true) : ((i : Int) + 1) ∈ irnTo ds out ds.length := by
  refine irnTo_le (i := i + 1) (by omega) ?_
  show _ ∈ irnAt ds _ i
  have h2 : fullB (dAt ds i) (fun t => decide (t ∈ irnTo ds out i)) = true := by
    simp only [fullB, Bool.or_eq_true] at h ⊢
    exact h.imp (anyC_mono (fun c _ t _ ht => by simp only [decide_eq_true_eq] at ht ⊢; exact irnTo_le (i := 0) (Nat.zero_le _) ht)) id
  rw [irnAt, if_pos h2]
  exact (insL_mem _ _ _).2 (.inl rfl)
theorem irnTo_inh {out : List Int} (h : ∀ x, x ∈ out → Inh ds x) (i : Nat) (hi : i ≤ ds.length) : ∀ x, x ∈ irnTo ds out i → Inh ds x := by
  induction i with
  | zero => exact h
  | succ i ih =>
    have ih := ih (by omega)
    intro x hx
    change x ∈ irnAt ds _ i at hx
    unfold irnAt at hx
    split at hx
    · next hf =>
      rcases (insL_mem _ _ _).1 hx with rfl | h1
      · exact fullB_inh (by omega) (fun t ht => ih t (by simpa using ht)) hf
      · exact ih x h1
    · exact ih x hx
theorem irnds_inh (k : Nat) : ∀ x, x ∈ irnds ds k → Inh ds x := by
  induction k with
  | zero => intro x hx; rw [irnds, List.mem_singleton] at hx; subst hx; exact .zero
  | succ k ih => exact irnTo_inh ih _ (Nat.le_refl _)
theorem irnds_zero (k : Nat) : (0 : Int) ∈ irnds ds k := by
  induction k with
  | zero => simp [irnds]
  | succ k ih => exact irnTo_le (i := 0) (Nat.zero_le _) ih
def ClosedI (ds : List DeclL) (out : List Int) : Prop := ∀ i : Nat, i < ds.length → fullB (dAt ds i) (fun t => decide (t ∈ out)) = true → ((i : Int) + 1) ∈ out
theorem closedI_same {out : List Int} (hA : Asc out) (h : ClosedI ds out) (i : Nat) (hi : i ≤ ds.length) : irnTo ds out i = out := by
  induction i with
  | zero => rfl
  | succ i ih =>
    rw [irnTo, ih (by omega), irnAt]
    split
    · next hf =>
      refine asc_ext (insL_asc hA) hA (fun x => ?_)
      rw [insL_mem]
      exact ⟨fun hx => hx.elim (fun e => e ▸ h i (by omega) hf) id, .inr⟩
    · rfl
theorem irnds_closed (k : Nat) : ClosedI ds (irnds ds k) ∨ k + 1 ≤ (irnds ds k).length := by
  induction k with
  | zero => right; simp [irnds]
  | succ k ih =>
    rcases ih with ih | ih
    · left
      rw [irnds, closedI_same (irnds_asc k) ih _ (Nat.le_refl _)]; exact ih
    · obtain ⟨h1, h2⟩ := asc_sub (irnds_asc (ds := ds) k) (irnds_asc (k + 1)) (fun x hx => irnTo_le (i := 0) (Nat.zero_le _) hx)
      by_cases hl : (irnds ds (k + 1)).length ≤ (irnds ds k).length
      · left
        have e := h2 hl
        intro i hi hf
        rw [← e] at hf
        exact irnTo_full hi hf
      · right; omega
theorem inhL_asc : Asc (inhL ds) := irnds_asc _
theorem irnds_len (k : Nat) : (irnds ds k).length ≤ ds.length + 1 := asc_len (irnds_asc k) (fun x hx => inh_range (irnds_inh k x hx))
theorem irnTo_len (k i : Nat) (hi : i ≤ ds.length) : (irnTo ds (irnds ds k) i).length ≤ ds.length + 1 := asc_len (irnTo_asc (irnds_asc k) i) (fun x hx => inh_range (irnTo_inh (irnds_inh k) i hi x hx))
theorem inhL_closed : ClosedI ds (inhL ds) := by
  rcases irnds_closed (ds := ds) ds.length with h | h
  · exact h
  · intro i hi _
    have e := (asc_sub (irnds_asc (ds := ds) ds.length) (asc_upto (ds.length + 1)) (fun x hx => by
      obtain ⟨h1, h2⟩ := inh_range (irnds_inh _ x hx)
      exact List.mem_map.2 ⟨x.toNat, List.mem_range.2 (by omega), by simp [Int.toNat_of_nonneg h1]⟩)).2 (by simpa using h)
    rw [inhL, e]
    exact List.mem_map.2 ⟨i + 1, List.mem_range.2 (by omega), by simp⟩
theorem inhL_mem (x : Int) : x ∈ inhL ds ↔ Inh ds x := by
  refine ⟨irnds_inh _ x, fun h => ?_⟩
  have := inh_closed (p := fun t => decide (t ∈ inhL ds)) (decide_eq_true (irnds_zero _)) (fun i hi hf => decide_eq_true (inhL_closed i hi hf)) h
  simpa using this
end

/-- What holds of the program's marks. -/
structure InhI (ds : List DeclL) (bs : List Bool) : Prop where
  len : bs.length = ds.length + 1
  zero : bAtL bs 0 = true
  arrow : ∀ i, i < ds.length → (dAt ds i).cons.length = 0 → bAtL bs (i + 1) = true
  inh : ∀ i, i < ds.length + 1 → bAtL bs i = true → Inh ds (i : Int)
/-- All fields are types. -/
def FieldsIn (ds : List DeclL) : Prop := ∀ i, i < ds.length → ∀ c, c ∈ (dAt ds i).cons → ∀ t, t ∈ c → 0 ≤ t ∧ t < ((ds.length + 1 : Nat) : Int)
/-- What holds in a pass: u: how many were not marked at its beginning. -/
structure PassI (ds : List DeclL) (u k : Nat) (bs : List Bool) (more : Bool) : Prop where
  base : InhI ds bs
  le : unm bs ≤ u
  lt : more = true → unm bs < u
  full : more = false → ∀ i, i < k → fullB (dAt ds i) (fun t => bAtL bs t.toNat) = true → bAtL bs (i + 1) = true
section
variable {ds : List DeclL} {u k : Nat} {bs : List Bool} {more : Bool}
/-- The marks that the program begins with. -/
def startB (ds : List DeclL) (k : Nat) : List Bool := true :: ((List.range ds.length).map fun i => decide (i < k) && decide ((dAt ds i).cons.length = 0))
theorem startB_len : (startB ds k).length = ds.length + 1 := by simp [startB]
theorem startB_succ {i : Nat} (hi : i < ds.length) : bAtL (startB ds k) (i + 1) = (decide (i < k) && decide ((dAt ds i).cons.length = 0)) := by
  rw [bAtL_eq (by rw [startB_len]; omega)]; simp [startB]
theorem startB_zero : bAtL (startB ds k) 0 = true := by simp [bAtL, startB]
theorem startB_set (hk : k < ds.length) : ∀ i, i < ds.length + 1 → bAtL (startB ds (k + 1)) i = if i = k + 1 then decide ((dAt ds k).cons.length = 0) else bAtL (startB ds k) i := by
  intro i hi
  rcases i with _ | i
  · rw [if_neg (by omega), startB_zero, startB_zero]
  · rw [startB_succ (by omega), startB_succ (by omega)]
    by_cases e : i = k
    · subst e; rw [if_pos rfl, decide_eq_true (show i < i + 1 by omega)]; simp
    · rw [if_neg (by omega)]
      congr 1
      by_cases h : i < k
      · rw [decide_eq_true h, decide_eq_true (by omega)]
      · rw [decide_eq_false h, decide_eq_false (by omega)]
theorem InhI.start : InhI ds (startB ds ds.length) := by
  refine ⟨startB_len, startB_zero, fun i hi hc => ?_, fun i hi hb => ?_⟩
  · rw [startB_succ hi, decide_eq_true hi, decide_eq_true hc]; rfl
  · rcases i with _ | i
    · exact .zero
    · rw [startB_succ (by omega)] at hb
      simp only [Bool.and_eq_true, decide_eq_true_eq] at hb
      have := Inh.arrow i hb.1 hb.2
      simpa using this
theorem PassI.start (h : InhI ds bs) : PassI ds (unm bs) 0 bs false := ⟨h, Nat.le_refl _, fun h => (by cases h), fun _ i hi => absurd hi (by omega)⟩
theorem PassI.no (h : PassI ds u k bs more) (hn : bAtL bs (k + 1) = true ∨ anyC (dAt ds k).cons (fun t => bAtL bs t.toNat) = false) (hk : k < ds.length) : PassI ds u (k + 1) bs more := by
  refine ⟨h.base, h.le, h.lt, fun hm i hi hf => ?_⟩
  rcases Nat.lt_succ_iff_lt_or_eq.1 hi with h1 | rfl
  · exact h.full hm i h1 hf
  · rcases hn with hn | hn
    · exact hn
    · simp only [fullB, hn, Bool.false_or, decide_eq_true_eq] at hf
      exact h.base.arrow i hk hf
theorem PassI.yes (h : PassI ds u k bs more) (hn : bAtL bs (k + 1) = false) (hf : anyC (dAt ds k).cons (fun t => bAtL bs t.toNat) = true) (hk : k < ds.length) (hr : FieldsIn ds) : PassI ds u (k + 1) (bs.set (k + 1) true) true := by
  have hl : k + 1 < bs.length := by rw [h.base.len]; omega
  have hu := unm_set hl hn
  have mono : ∀ j, bAtL bs j = true → bAtL (bs.set (k + 1) true) j = true := fun j hj => by rw [bAtL_set hl, hj]; simp
  refine ⟨⟨by rw [List.length_set]; exact h.base.len, mono _ h.base.zero, fun i hi hc => mono _ (h.base.arrow i hi hc), fun i hi hb => ?_⟩, by have := h.le; omega, fun _ => by have := h.le; omega, fun e => by cases e⟩
  rw [bAtL_set hl] at hb
  simp only [Bool.or_eq_true, decide_eq_true_eq] at hb
  rcases hb with e | e
  · subst e
    simp only [anyC, List.any_eq_true, List.all_eq_true] at hf
    obtain ⟨c, hc, ht⟩ := hf
    have := Inh.con k c hk hc (fun t htc => by
      obtain ⟨h1, h2⟩ := hr k hk c hc t htc
      have := h.base.inh t.toNat (by omega) (ht t htc)
      rwa [Int.toNat_of_nonneg h1] at this)
    simpa using this
  · exact h.base.inh i hi e
theorem PassI.done (h : PassI ds u ds.length bs false) : idxL bs = inhL ds := by
  refine asc_ext (idxL_asc _) inhL_asc (fun x => ?_)
  rw [idxL_mem, inhL_mem]
  constructor
  · rintro ⟨i, hi, rfl, hb⟩
    exact h.base.inh i (by rw [← h.base.len]; exact hi) hb
  · intro hx
    have key := inh_closed (p := fun t => bAtL bs t.toNat) h.base.zero (fun i hi hf => by
      have := h.full rfl i hi hf
      rw [show ((i : Int) + 1).toNat = i + 1 by omega]; exact this) hx
    have hxr := inh_range hx
    exact ⟨x.toNat, by rw [h.base.len]; omega, by omega, key⟩
end
end Go.Proofs.Ythdjijhpdgajbaa
