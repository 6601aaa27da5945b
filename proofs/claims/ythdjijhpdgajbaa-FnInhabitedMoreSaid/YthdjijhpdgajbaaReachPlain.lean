/- The functions that are reached from one, plain: by rounds of insertion, and by a list of work. -/
import Derived.Test.YthdjijhpdgajbaaSetPlain
namespace Go.Proofs.Ythdjijhpdgajbaa
open Go.RowKit

/-- Reached from f. -/
inductive Rch (cal : Nat → List Int) (f : Int) : Int → Prop
  | base : Rch cal f f
  | step (i : Nat) (x : Int) : Rch cal f i → x ∈ cal i → Rch cal f x

theorem asc_sub : ∀ {xs ys : List Int}, Asc xs → Asc ys → (∀ x, x ∈ xs → x ∈ ys) → xs.length ≤ ys.length ∧ (ys.length ≤ xs.length → xs = ys)
  | [], ys, _, _, _ => ⟨Nat.zero_le _, fun h => (List.eq_nil_of_length_eq_zero (by simpa using h)).symm⟩
  | x :: xs, [], _, _, h => absurd (h x (by simp)) (by simp)
  | x :: xs, y :: ys, hx, hy, h => by
    obtain ⟨hx1, hx2⟩ := List.pairwise_cons.1 hx
    obtain ⟨hy1, hy2⟩ := List.pairwise_cons.1 hy
    by_cases e : x = y
    · subst e
      obtain ⟨h1, h2⟩ := asc_sub hx2 hy2 (fun z hz => by
        rcases List.mem_cons.1 (h z (by simp [hz])) with rfl | hm
        · have := hx1 z hz; omega
        · exact hm)
      exact ⟨by simpa using h1, fun hl => by rw [h2 (by simpa using hl)]⟩
    · have hxy : x ∈ ys := by
        rcases List.mem_cons.1 (h x (by simp)) with e' | hm
        · exact absurd e' e
        · exact hm
      have hgt := hy1 x hxy
      obtain ⟨h1, _⟩ := asc_sub hx hy2 (fun z hz => by
        rcases List.mem_cons.1 (h z hz) with rfl | hm
        · rcases List.mem_cons.1 hz with rfl | hz
          · omega
          · have := hx1 z hz; omega
        · exact hm)
      simp only [List.length_cons] at h1 ⊢
      exact ⟨by omega, fun hl => by omega⟩
theorem asc_upto (n : Nat) : Asc ((List.range n).map Int.ofNat) := by
  rw [Asc, List.pairwise_map]
  exact List.pairwise_lt_range.imp (fun h => by simpa using h)
theorem asc_len {xs : List Int} {n : Nat} (h : Asc xs) (hr : ∀ x, x ∈ xs → 0 ≤ x ∧ x < (n : Int)) : xs.length ≤ n := by
  have := (asc_sub h (asc_upto n) (fun x hx => by
    obtain ⟨h1, h2⟩ := hr x hx
    exact List.mem_map.2 ⟨x.toNat, List.mem_range.2 (by omega), by simp [Int.toNat_of_nonneg h1]⟩)).1
  simpa using this

def insAll (out : List Int) (xs : List Int) : List Int := xs.foldl insL out
theorem insAll_mem (xs : List Int) : ∀ (out : List Int) (x : Int), x ∈ insAll out xs ↔ x ∈ out ∨ x ∈ xs := by
  induction xs with
  | nil => intro out x; simp [insAll]
  | cons y ys ih =>
    intro out x
    have := ih (insL out y) x
    simp only [insAll, List.foldl_cons] at this ⊢
    rw [this, insL_mem, List.mem_cons]
    constructor
    · rintro ((h | h) | h)
      · exact .inr (.inl h)
      · exact .inl h
      · exact .inr (.inr h)
    · rintro (h | h | h)
      · exact .inl (.inr h)
      · exact .inl (.inl h)
      · exact .inr h
theorem insAll_asc (xs : List Int) : ∀ {out : List Int}, Asc out → Asc (insAll out xs) := by
  induction xs with
  | nil => intro out h; exact h
  | cons y ys ih => intro out h; exact ih (insL_asc h)
theorem insAll_take {xs : List Int} {j : Nat} (h : j < xs.length) (out : List Int) : insAll out (xs.take (j + 1)) = insL (insAll out (xs.take j)) (iAt xs j) := by
  rw [take_iAt h, insAll, List.foldl_append]; rfl

/-- What one round does up to a function. -/
def rndAt (cal : Nat → List Int) (out : List Int) (i : Nat) : List Int := if (i : Int) ∈ out then insAll out (cal i) else out
def rndTo (cal : Nat → List Int) (out : List Int) : Nat → List Int
  | 0 => out
  | i + 1 => rndAt cal (rndTo cal out i) i
/-- What all rounds do. -/
def rnds (cal : Nat → List Int) (n : Nat) (f : Int) : Nat → List Int
  | 0 => [f]
  | k + 1 => rndTo cal (rnds cal n f k) n
def reachL (cal : Nat → List Int) (n : Nat) (f : Int) : List Int := rnds cal n f n

section
variable {cal : Nat → List Int} {n : Nat} {f : Int}
theorem rndAt_asc {out : List Int} (h : Asc out) (i : Nat) : Asc (rndAt cal out i) := by
  unfold rndAt; split
  · exact insAll_asc _ h
  · exact h
theorem rndAt_sub {out : List Int} (i : Nat) {x : Int} (h : x ∈ out) : x ∈ rndAt cal out i := by
  unfold rndAt; split
  · exact (insAll_mem _ _ _).2 (.inl h)
  · exact h
theorem rndTo_asc {out : List Int} (h : Asc out) (i : Nat) : Asc (rndTo cal out i) := by
  induction i with
  | zero => exact h
  | succ i ih => exact rndAt_asc ih i
theorem rndTo_le {out : List Int} {i k : Nat} (hik : i ≤ k) {x : Int} (h : x ∈ rndTo cal out i) : x ∈ rndTo cal out k := by
  induction k with
  | zero => obtain rfl : i = 0 := by omega
            exact h
  | succ k ih =>
    by_cases e : i = k + 1
    · subst e; exact h
    · exact rndAt_sub k (ih (by omega))
theorem rndTo_cal {out : List Int} {i : Nat} (hi : i < n) (hm : (i : Int) ∈ out) {x : Int} (hx : x ∈ cal i) : x ∈ rndTo cal out n := by
  refine rndTo_le (i := i + 1) (by omega) ?_
  have hm2 : (i : Int) ∈ rndTo cal out i := rndTo_le (i := 0) (Nat.zero_le _) hm
  show x ∈ rndAt cal _ i
  rw [rndAt, if_pos hm2]
  exact (insAll_mem _ _ _).2 (.inr hx)
theorem rndTo_rch {out : List Int} (h : ∀ x, x ∈ out → Rch cal f x) (i : Nat) : ∀ x, x ∈ rndTo cal out i → Rch cal f x := by
  induction i with
  | zero => exact h
  | succ i ih =>
    intro x hx
    change x ∈ rndAt cal _ i at hx
    unfold rndAt at hx
    split at hx
    · next hm =>
      rcases (insAll_mem _ _ _).1 hx with h1 | h1
      · exact ih x h1
      · exact .step i x (ih _ hm) h1
    · exact ih x hx
theorem rnds_asc (k : Nat) : Asc (rnds cal n f k) := by
  induction k with
  | zero => simp [rnds, Asc]
  | succ k ih => exact rndTo_asc ih n
theorem rnds_rch (k : Nat) : ∀ x, x ∈ rnds cal n f k → Rch cal f x := by
  induction k with
  | zero => intro x hx; rw [rnds, List.mem_singleton] at hx; subst hx; exact .base
  | succ k ih => exact rndTo_rch ih n
theorem rnds_has (k : Nat) : f ∈ rnds cal n f k := by
  induction k with
  | zero => simp [rnds]
  | succ k ih => exact rndTo_le (i := 0) (Nat.zero_le _) ih
/-- Closed below n. -/
def Closed (cal : Nat → List Int) (n : Nat) (out : List Int) : Prop := ∀ i : Nat, i < n → (i : Int) ∈ out → ∀ x, x ∈ cal i → x ∈ out
theorem closed_same {out : List Int} (hA : Asc out) (h : Closed cal n out) (i : Nat) (hi : i ≤ n) : rndTo cal out i = out := by
  induction i with
  | zero => rfl
  | succ i ih =>
    rw [rndTo, ih (by omega), rndAt]
    split
    · next hm =>
      refine asc_ext (insAll_asc _ hA) hA (fun x => ?_)
      rw [insAll_mem]
      exact ⟨fun hx => hx.elim id (h i (by omega) hm x), .inl⟩
    · rfl
theorem rch_range (hf : 0 ≤ f ∧ f < (n : Int)) (hc : ∀ i, i < n → ∀ x, x ∈ cal i → 0 ≤ x ∧ x < (n : Int)) {x : Int} (h : Rch cal f x) : 0 ≤ x ∧ x < (n : Int) := by
  induction h with
  | base => exact hf
  | step i x _ hx ih => exact hc i (by omega) x hx
theorem rnds_closed (k : Nat) : Closed cal n (rnds cal n f k) ∨ k + 1 ≤ (rnds cal n f k).length := by
  induction k with
  | zero => right; simp [rnds]
  | succ k ih =>
    rcases ih with ih | ih
    · left
      rw [rnds, closed_same (rnds_asc k) ih n (Nat.le_refl _)]; exact ih
    · obtain ⟨h1, h2⟩ := asc_sub (rnds_asc (cal := cal) (n := n) (f := f) k) (rnds_asc (k + 1)) (fun x hx => rndTo_le (i := 0) (Nat.zero_le _) hx)
      by_cases hl : (rnds cal n f (k + 1)).length ≤ (rnds cal n f k).length
      · left
        have e := h2 hl
        intro i hi hm x hx
        rw [← e] at hm
        exact rndTo_cal hi hm hx
      · right; omega
theorem reachL_closed (hf : 0 ≤ f ∧ f < (n : Int)) (hc : ∀ i, i < n → ∀ x, x ∈ cal i → 0 ≤ x ∧ x < (n : Int)) : Closed cal n (reachL cal n f) := by
  rcases rnds_closed n with h | h
  · exact h
  · have := asc_len (rnds_asc n) (fun x hx => rch_range hf hc (rnds_rch (cal := cal) (n := n) n x hx))
    omega
theorem reachL_mem (hf : 0 ≤ f ∧ f < (n : Int)) (hc : ∀ i, i < n → ∀ x, x ∈ cal i → 0 ≤ x ∧ x < (n : Int)) (x : Int) : x ∈ reachL cal n f ↔ Rch cal f x := by
  refine ⟨rnds_rch n x, fun h => ?_⟩
  induction h with
  | base => exact rnds_has n
  | step i x h hx ih =>
    have := rch_range hf hc h
    exact reachL_closed hf hc i (by omega) ih x hx
theorem reachL_asc : Asc (reachL cal n f) := rnds_asc n
theorem reachL_len (hf : 0 ≤ f ∧ f < (n : Int)) (hc : ∀ i, i < n → ∀ x, x ∈ cal i → 0 ≤ x ∧ x < (n : Int)) : (reachL cal n f).length ≤ n :=
  asc_len reachL_asc (fun x hx => rch_range hf hc ((reachL_mem hf hc x).1 hx))
theorem rnds_len (hf : 0 ≤ f ∧ f < (n : Int)) (hc : ∀ i, i < n → ∀ x, x ∈ cal i → 0 ≤ x ∧ x < (n : Int)) (k : Nat) : (rnds cal n f k).length ≤ n :=
  asc_len (rnds_asc k) (fun x hx => rch_range hf hc (rnds_rch k x hx))
theorem rndTo_len (hf : 0 ≤ f ∧ f < (n : Int)) (hc : ∀ i, i < n → ∀ x, x ∈ cal i → 0 ≤ x ∧ x < (n : Int)) (k i : Nat) : (rndTo cal (rnds cal n f k) i).length ≤ n :=
  asc_len (rndTo_asc (rnds_asc k) i) (fun x hx => rch_range hf hc (rndTo_rch (rnds_rch k) i x hx))
end

/-- How many are not marked. -/
def unm : List Bool → Nat
  | [] => 0
  | b :: bs => (if b = true then 0 else 1) + unm bs
theorem unm_set : ∀ {bs : List Bool} {i : Nat}, i < bs.length → bAtL bs i = false → unm (bs.set i true) + 1 = unm bs
  | [], i, h, _ => by simp at h
  | b :: bs, 0, _, hb => by
    have : b = false := by simpa [bAtL] using hb
    subst this
    simp [unm]; omega
  | b :: bs, i + 1, h, hb => by
    have := unm_set (bs := bs) (i := i) (by simpa using h) (by simpa [bAtL] using hb)
    simp only [List.set_cons_succ, unm]; omega
theorem bAtL_set {bs : List Bool} {i j : Nat} (hi : i < bs.length) : bAtL (bs.set i true) j = (decide (i = j) || bAtL bs j) := by
  by_cases e : i = j
  · subst e
    rw [bAtL_eq (by simpa using hi)]; simp
  · simp [bAtL, e]

/-- What holds when the program looks at its list of work; `done`: callees of `cur` that were looked at. -/
structure WorkI (cal : Nat → List Int) (n : Nat) (f : Int) (bs : List Bool) (wk : List Int) : Prop where
  len : bs.length = n
  has : bAtL bs f.toNat = true
  rch : ∀ i, i < n → bAtL bs i = true → Rch cal f i
  work : ∀ x, x ∈ wk → 0 ≤ x ∧ x < (n : Int) ∧ bAtL bs x.toNat = true
  closed : ∀ i : Nat, i < n → bAtL bs i = true → (i : Int) ∈ wk ∨ ∀ x, x ∈ cal i → bAtL bs x.toNat = true
section
variable {cal : Nat → List Int} {n : Nat} {f : Int} {bs : List Bool} {wk : List Int}
theorem WorkI.start (hf : 0 ≤ f ∧ f < (n : Int)) : WorkI cal n f ((List.replicate n false).set f.toNat true) [f] := by
  have hl : f.toNat < (List.replicate n false).length := by simp; omega
  have h0 : ∀ j, bAtL (List.replicate n false) j = false := fun j => by
    by_cases h : j < n
    · simp [bAtL, h]
    · simp [bAtL, h]
  refine ⟨by simp, by rw [bAtL_set hl]; simp, fun i hi hb => ?_, fun x hx => ?_, fun i hi hb => ?_⟩
  · rw [bAtL_set hl, h0] at hb
    have : f.toNat = i := by simpa using hb
    have e : (i : Int) = f := by omega
    rw [e]; exact .base
  · rw [List.mem_singleton] at hx
    subst hx
    exact ⟨hf.1, hf.2, by rw [bAtL_set hl]; simp⟩
  · rw [bAtL_set hl, h0] at hb
    have : f.toNat = i := by simpa using hb
    left
    rw [List.mem_singleton]; omega
/-- One callee that is marked goes to the end. -/
theorem WorkI.push (h : WorkI cal n f bs wk) {i : Nat} (hi : i < n) (hb : bAtL bs i = true) {x : Int} (hx : x ∈ cal i) (hr : 0 ≤ x ∧ x < (n : Int)) : WorkI cal n f (bs.set x.toNat true) (wk ++ [x]) := by
  have hl : x.toNat < bs.length := by rw [h.len]; omega
  have mono : ∀ j, bAtL bs j = true → bAtL (bs.set x.toNat true) j = true := fun j hj => by rw [bAtL_set hl, hj]; simp
  refine ⟨by rw [List.length_set]; exact h.len, mono _ h.has, fun j hj hbj => ?_, fun y hy => ?_, fun j hj hbj => ?_⟩
  · rw [bAtL_set hl] at hbj
    simp only [Bool.or_eq_true, decide_eq_true_eq] at hbj
    rcases hbj with e | e
    · have e2 : (j : Int) = x := by omega
      rw [e2]; exact .step i x (h.rch i hi hb) hx
    · exact h.rch j hj e
  · rcases List.mem_append.1 hy with hy | hy
    · obtain ⟨h1, h2, h3⟩ := h.work y hy
      exact ⟨h1, h2, mono _ h3⟩
    · rw [List.mem_singleton] at hy
      subst hy
      exact ⟨hr.1, hr.2, by rw [bAtL_set hl]; simp⟩
  · rw [bAtL_set hl] at hbj
    simp only [Bool.or_eq_true, decide_eq_true_eq] at hbj
    rcases hbj with e | e
    · left
      rw [List.mem_append, List.mem_singleton]
      right; omega
    · rcases h.closed j hj e with h1 | h1
      · left; rw [List.mem_append]; exact .inl h1
      · right; exact fun y hy => mono _ (h1 y hy)
/-- The first of the work is done. -/
theorem WorkI.pop {x : Int} {wk : List Int} (h : WorkI cal n f bs (x :: wk)) (hd : ∀ y, y ∈ cal x.toNat → bAtL bs y.toNat = true) : WorkI cal n f bs wk := by
  refine ⟨h.len, h.has, h.rch, fun y hy => h.work y (by simp [hy]), fun j hj hb => ?_⟩
  rcases h.closed j hj hb with h1 | h1
  · rcases List.mem_cons.1 h1 with e | e
    · right
      have : x.toNat = j := by omega
      rw [this] at hd; exact hd
    · exact .inl e
  · exact .inr h1
theorem WorkI.done (h : WorkI cal n f bs []) (hf : 0 ≤ f ∧ f < (n : Int)) (hc : ∀ i, i < n → ∀ x, x ∈ cal i → 0 ≤ x ∧ x < (n : Int)) : idxL bs = reachL cal n f := by
  refine asc_ext (idxL_asc _) reachL_asc (fun x => ?_)
  rw [idxL_mem, reachL_mem hf hc]
  constructor
  · rintro ⟨i, hi, rfl, hb⟩
    exact h.rch i (by have := h.len; omega) hb
  · intro hr
    have key : bAtL bs x.toNat = true := by
      induction hr with
      | base => exact h.has
      | step i x hr hx ih =>
        have hi := rch_range hf hc hr
        rcases h.closed i (by omega) (by simpa using ih) with h1 | h1
        · simp at h1
        · exact h1 x hx
    have hx := rch_range hf hc hr
    exact ⟨x.toNat, by have := h.len; omega, by omega, key⟩
end
end Go.Proofs.Ythdjijhpdgajbaa
