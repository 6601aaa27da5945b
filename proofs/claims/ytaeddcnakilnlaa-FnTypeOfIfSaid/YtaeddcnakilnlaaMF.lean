/- shift of the reference: a fresh copy with other variables. -/
import Derived.Test.YtaeddcnakilnlaaMGA
import Derived.Deep.RegionHeld3
import Derived.Test.YtaeddcnakilnlaaMGB
import Derived.Test.YtaeddcnakilnlaaME
import Derived.IntWalk
import Derived.Test.YtaeddcnakilnlaaMO
import Derived.Test.YtaeddcnakilnlaaMH
namespace Go.Proofs.Ytaeddcnakilnlaa
open Go.RowKit

/-- The number of a variable, or of another node. -/
def shN (k d op num : Int) : Int := if op = 12 ∧ k ≤ num then wrap64 (num + d) else num
mutual
/-- Variables from k on are greater by d. -/
def shE (k d : Int) : ExprL → ExprL
  | .mk op num ks => .mk op (shN k d op num) (shEs k d ks)
def shEs (k d : Int) : List ExprL → List ExprL
  | [] => []
  | e :: es => shE k d e :: shEs k d es
end
theorem shEs_map (k d : Int) (es : List ExprL) : shEs k d es = es.map (shE k d) := by induction es <;> simp_all [shEs]
theorem shE_eq (k d : Int) (e : ExprL) : shE k d e = .mk e.op (shN k d e.op e.num) (shEs k d e.kids) := by cases e; rw [shE]; rfl
theorem shEs_take (k d : Int) (es : List ExprL) {j : Nat} (h : j < es.length) : shEs k d (es.take (j + 1)) = shEs k d (es.take j) ++ [shE k d (eAt es j)] := by
  rw [take_succ_eAt es h, shEs_map, shEs_map, List.map_append]; rfl
theorem shEs_len (k d : Int) (es : List ExprL) : (shEs k d es).length = es.length := by rw [shEs_map, List.length_map]

/-- One expression, laid into a new block. -/
theorem lit_expr (w : World) (D : Nat → Prop) (T : TypeId) (op num : Int) (ks : List ExprL) (a : Option Addr) (n c : Nat) (hB : D w.heap.size) (h : Rd w D (encExprs ks) (.slice a n c)) :
    Rd (w.alloc (.cells #[.int .i64 op, .int .i64 num, .slice a n c] T)) D (.arr 3 ([ExprL.mk op num ks].map rowE)) (.slice (some ⟨w.heap.size, 0, none⟩) 1 1) := by
  refine Rd.litD w D T 3 _ ([ExprL.mk op num ks].map rowE) 1 hB (by simp) (by omega) (by omega) (by simp) (fun i hi => by
    have e : i = 0 := by simp at hi; exact hi
    subst e
    simp [rGet, rowE]) (fun i j hi hj => ?_)
  obtain rfl : i = 0 := by simpa using hi
  rcases (show j = 0 ∨ j = 1 ∨ j = 2 by omega) with rfl | rfl | rfl
  · exact ⟨_, rfl, .num op⟩
  · exact ⟨_, rfl, .num num⟩
  · exact ⟨_, rfl, h⟩

end Go.Proofs.Ytaeddcnakilnlaa
/- shift of the reference, whole. -/
namespace Go.Proofs.Ytaeddcnakilnlaa
open Go.RowKit

theorem frozen_keep {w w' : World} (p : Keep w.drew w') {q : Addr} {v : Value} (h : w.cell? q = some v) (hf : w.frozen? q = false) : w'.frozen? q = false := by
  have hb : q.block < w.drew.heap.size := World.block_lt_of_cell? _ _ h
  rw [p.frozen hb (fun h => h)]; exact hf

end Go.Proofs.Ytaeddcnakilnlaa
/- varsFit of the reference. -/
namespace Go.Proofs.Ytaeddcnakilnlaa
open Go.RowKit

/-- One node's variable is in 0..99. -/
def vfN (op num : Int) : Bool := decide (op ≠ 12) || decide (0 ≤ num ∧ num ≤ 99)
mutual
/-- All variables are in 0..99. -/
def vfE : ExprL → Bool
  | .mk op num ks => vfN op num && vfEs ks
def vfEs : List ExprL → Bool
  | [] => true
  | e :: es => vfE e && vfEs es
end
theorem vfE_eq (e : ExprL) : vfE e = (vfN e.op e.num && vfEs e.kids) := by cases e; rw [vfE]; rfl
theorem vfEs_all (es : List ExprL) : vfEs es = es.all vfE := by induction es <;> simp_all [vfEs]
theorem vfEs_no {es : List ExprL} {j : Nat} (hj : j < es.length) (h : vfE (eAt es j) = false) : vfEs es = false := by
  rw [vfEs_all]
  rw [eAt_get hj] at h
  rw [List.all_eq_false]
  exact ⟨_, List.getElem_mem hj, by simp [h]⟩
theorem vfEs_yes {es : List ExprL} (h : ∀ j, j < es.length → vfE (eAt es j) = true) : vfEs es = true := by
  rw [vfEs_all, List.all_eq_true]
  intro x hx
  obtain ⟨j, hj, rfl⟩ := List.getElem_of_mem hx
  have := h j hj
  rwa [eAt_get hj] at this

end Go.Proofs.Ytaeddcnakilnlaa
/- Plain facts for the laws on nodes, mentions and shifts. -/
namespace Go.Proofs.Ytaeddcnakilnlaa
open Go.RowKit

theorem expr_eta (e : ExprL) : ExprL.mk e.op e.num e.kids = e := by cases e; rfl

/-! ### Shifts -/
mutual
theorem vfE_all : ∀ e : ExprL, vfE e = true ↔ allE (fun op num => op = 12 → 0 ≤ num ∧ num ≤ 99) e
  | .mk op num ks => by
    have := vfEs_allEs ks
    rw [vfE, allE, Bool.and_eq_true, this, vfN]
    simp only [Bool.or_eq_true, decide_eq_true_eq, ne_eq]
    constructor
    · rintro ⟨h1, h2⟩
      exact ⟨fun h => h1.resolve_left (fun hn => hn h), h2⟩
    · rintro ⟨h1, h2⟩
      refine ⟨?_, h2⟩
      by_cases h : op = 12
      · exact .inr (h1 h)
      · exact .inl h
theorem vfEs_allEs : ∀ es : List ExprL, vfEs es = true ↔ allEs (fun op num => op = 12 → 0 ≤ num ∧ num ≤ 99) es
  | [] => by simp [vfEs, allEs]
  | e :: es => by
    have h1 := vfE_all e
    have h2 := vfEs_allEs es
    rw [vfEs, allEs, Bool.and_eq_true, h1, h2]
end

theorem shN_small {k d op num : Int} (h : op = 12 → 0 ≤ num ∧ num ≤ 99) (hd : 0 ≤ d ∧ d ≤ 99) : shN k d op num = if op = 12 ∧ k ≤ num then num + d else num := by
  unfold shN
  split
  · next h1 =>
    have := h h1.1
    rw [IntWalk.wrap64_in _ (by omega)]
  · rfl

mutual
/-- A shift by 0 changes nothing. -/
theorem shE_zero (k : Int) : ∀ e : ExprL, vfE e = true → shE k 0 e = e
  | .mk op num ks => fun h => by
    rw [vfE, Bool.and_eq_true] at h
    have h1 := shEs_zero k ks h.2
    have h2 : op = 12 → 0 ≤ num ∧ num ≤ 99 := by have := h.1; simp only [vfN, Bool.or_eq_true, decide_eq_true_eq, ne_eq] at this; exact fun e => this.resolve_left (fun hn => hn e)
    rw [shE, h1, shN_small h2 (by omega)]
    congr 1
    split <;> omega
theorem shEs_zero (k : Int) : ∀ es : List ExprL, vfEs es = true → shEs k 0 es = es
  | [] => fun _ => rfl
  | e :: es => fun h => by
    rw [vfEs, Bool.and_eq_true] at h
    rw [shEs, shE_zero k e h.1, shEs_zero k es h.2]
end
mutual
theorem nE_shE (k d : Int) : ∀ e : ExprL, nE (shE k d e) = nE e
  | .mk op num ks => by rw [shE, nE, nE, nEs_shEs k d ks]
theorem nEs_shEs (k d : Int) : ∀ es : List ExprL, nEs (shEs k d es) = nEs es
  | [] => rfl
  | e :: es => by rw [shEs, nEs, nEs, nE_shE k d e, nEs_shEs k d es]
end
mutual
/-- Shifts add up. -/
theorem shE_twice (k : Int) {d d2 : Int} (hd : 0 ≤ d ∧ d ≤ 99) (hd2 : 0 ≤ d2 ∧ d2 ≤ 99) (hs : d + d2 ≤ 99) : ∀ e : ExprL, vfE e = true → vfE (shE k d e) = true → shE k d2 (shE k d e) = shE k (d + d2) e
  | .mk op num ks => fun h h' => by
    rw [shE, vfE, Bool.and_eq_true] at h'
    rw [vfE, Bool.and_eq_true] at h
    have h1 := shEs_twice k hd hd2 hs ks h.2 h'.2
    have h2 : op = 12 → 0 ≤ num ∧ num ≤ 99 := by have := h.1; simp only [vfN, Bool.or_eq_true, decide_eq_true_eq, ne_eq] at this; exact fun e => this.resolve_left (fun hn => hn e)
    have h3 : op = 12 → 0 ≤ shN k d op num ∧ shN k d op num ≤ 99 := by have := h'.1; simp only [vfN, Bool.or_eq_true, decide_eq_true_eq, ne_eq] at this; exact fun e => this.resolve_left (fun hn => hn e)
    rw [shE, shE, shE, h1]
    congr 1
    rw [shN_small h3 hd2, shN_small h2 hd, shN_small h2 (by omega)]
    by_cases h12 : op = 12 <;> by_cases hk : k ≤ num <;> by_cases hk2 : k ≤ num + d <;> simp [h12, hk, hk2] <;> omega
theorem shEs_twice (k : Int) {d d2 : Int} (hd : 0 ≤ d ∧ d ≤ 99) (hd2 : 0 ≤ d2 ∧ d2 ≤ 99) (hs : d + d2 ≤ 99) : ∀ es : List ExprL, vfEs es = true → vfEs (shEs k d es) = true → shEs k d2 (shEs k d es) = shEs k (d + d2) es
  | [] => fun _ _ => rfl
  | e :: es => fun h h' => by
    rw [vfEs, Bool.and_eq_true] at h
    rw [shEs, vfEs, Bool.and_eq_true] at h'
    rw [shEs, shEs, shEs, shE_twice k hd hd2 hs e h.1 h'.1, shEs_twice k hd hd2 hs es h.2 h'.2]
end

/-- What a shifted expression mentions. -/
def mSh (k d v : Int) (f : Int → Nat) : Nat := if v < k then f v else if k + d ≤ v then f (v - d) else 0
mutual
theorem mE_shE (k : Int) {d : Int} (hd : 0 ≤ d ∧ d ≤ 99) (v : Int) : ∀ e : ExprL, vfE e = true → mE v (shE k d e) = mSh k d v (fun v => mE v e)
  | .mk op num ks => fun h => by
    rw [vfE, Bool.and_eq_true] at h
    have h1 := mEs_shEs k hd v ks h.2
    have h2 : op = 12 → 0 ≤ num ∧ num ≤ 99 := by have := h.1; simp only [vfN, Bool.or_eq_true, decide_eq_true_eq, ne_eq] at this; exact fun e => this.resolve_left (fun hn => hn e)
    rw [shE, mE, h1, shN_small h2 hd]
    unfold mSh
    simp only [mE]
    by_cases ho : op = 12
    · simp only [ho, true_and]
      by_cases a1 : k ≤ num <;> by_cases a2 : v < k <;> by_cases a3 : k + d ≤ v <;> simp only [a1, a2, a3, if_true, if_false] <;> (first | omega | (split <;> (first | omega | (split <;> omega))))
    · simp only [ho, false_and, if_false]
      split <;> (first | omega | (split <;> omega))
theorem mEs_shEs (k : Int) {d : Int} (hd : 0 ≤ d ∧ d ≤ 99) (v : Int) : ∀ es : List ExprL, vfEs es = true → mEs v (shEs k d es) = mSh k d v (fun v => mEs v es)
  | [] => fun _ => by unfold mSh; simp [shEs, mEs]
  | e :: es => fun h => by
    rw [vfEs, Bool.and_eq_true] at h
    rw [shEs, mEs, mE_shE k hd v e h.1, mEs_shEs k hd v es h.2]
    unfold mSh
    simp only [mEs]
    split <;> (first | rfl | (split <;> rfl))
end

/-! ### All nodes -/
mutual
theorem allE_mono {P P' : Int → Int → Prop} (h : ∀ op num, P op num → P' op num) : ∀ e : ExprL, allE P e → allE P' e
  | .mk _ _ ks => fun he => ⟨h _ _ he.1, allEs_mono h ks he.2⟩
theorem allEs_mono {P P' : Int → Int → Prop} (h : ∀ op num, P op num → P' op num) : ∀ es : List ExprL, allEs P es → allEs P' es
  | [] => fun _ => trivial
  | e :: es => fun he => ⟨allE_mono h e he.1, allEs_mono h es he.2⟩
end
mutual
theorem allE_shE {P P' : Int → Int → Prop} (k d : Int) (h : ∀ op num, P op num → P' op (shN k d op num)) : ∀ e : ExprL, allE P e → allE P' (shE k d e)
  | .mk _ _ ks => fun he => by rw [shE]; exact ⟨h _ _ he.1, allEs_shEs k d h ks he.2⟩
theorem allEs_shEs {P P' : Int → Int → Prop} (k d : Int) (h : ∀ op num, P op num → P' op (shN k d op num)) : ∀ es : List ExprL, allEs P es → allEs P' (shEs k d es)
  | [] => fun _ => trivial
  | e :: es => fun he => by rw [shEs]; exact ⟨allE_shE k d h e he.1, allEs_shEs k d h es he.2⟩
end
end Go.Proofs.Ytaeddcnakilnlaa
/- What the generator of programs makes, plain: signatures, types of which there are small expressions, numbers that fit. -/
namespace Go.Proofs.Ytaeddcnakilnlaa
open Go.RowKit

/-- The signatures that occur. -/
def allSigs : List (List Int × Int) := [([], 0), ([1], 0), ([1, 1], 1), ([1], 1), ([1, 0], 1), ([2, 1], 1), ([1, 1], 0), ([3], 0), ([0], 1), ([0, 1], 1), ([3, 0], 3), ([3], 1), ([1, 3, 0], 0), ([0], 0), ([0, 0], 0), ([1, 0], 0)]
/-- A program of the generator: its declarations, its signatures. -/
structure GoodG (ds : List DeclL) (fs : List FuncL) : Prop where
  decls : ∃ k : Int, 0 ≤ k ∧ k < 5 ∧ ds = goodD k
  sigs : ∀ i, i < fs.length → ((fAt fs i).params, (fAt fs i).result) ∈ allSigs
  len : fs.length ≤ 4
def T5 (t : Int) : Prop := 0 ≤ t ∧ t ≤ 4
/-- Numbers between -K and K. -/
def gfit (K : Int) (_ num : Int) : Prop := -K ≤ num ∧ num ≤ K

theorem goodD_cases {k : Int} (h0 : 0 ≤ k) (h5 : k < 5) : k = 0 ∨ k = 1 ∨ k = 2 ∨ k = 3 ∨ k = 4 := by omega
theorem T5.cases {t : Int} (h : T5 t) : t = 0 ∨ t = 1 ∨ t = 2 ∨ t = 3 ∨ t = 4 := by unfold T5 at h; omega

/-- Function x makes closures of type t. -/
def Clo (ds : List DeclL) (fs : List FuncL) (t x : Int) : Prop := 0 ≤ x ∧ x < (fs.length : Int) ∧ 0 < (fAt fs x.toNat).params.length ∧ arrowL ds (iAt (fAt fs x.toNat).params ((fAt fs x.toNat).params.length - 1)) (fAt fs x.toNat).result = t
/-- Small expressions of a type have at most n levels. -/
def Rk (ds : List DeclL) (fs : List FuncL) : Nat → Int → Prop
  | 0, _ => False
  | n + 1, t => (∀ c, c ∈ consL ds t → (c = iAt (consL ds t) 0 ∨ t ∉ conFieldsL ds c) → ∀ f, f ∈ conFieldsL ds c → Rk ds fs n f) ∧
      ((consL ds t).length = 0 → 0 < t → ∀ x, Clo ds fs t x → ∀ j, j + 1 < (fAt fs x.toNat).params.length → Rk ds fs n (iAt (fAt fs x.toNat).params j))

section
variable {ds : List DeclL} {fs : List FuncL}
theorem GoodG.ok (h : GoodG ds fs) : typesOk ds = true := by
  obtain ⟨k, h0, h5, rfl⟩ := h.decls
  rcases goodD_cases h0 h5 with rfl | rfl | rfl | rfl | rfl <;> decide
theorem GoodG.len4 (h : GoodG ds fs) : ds.length ≤ 4 := typesOk_len h.ok
theorem GoodG.fields (h : GoodG ds fs) (c : Int) : (conFieldsL ds c).length ≤ 3 ∧ ∀ f, f ∈ conFieldsL ds c → T5 f := by
  obtain ⟨h1, h2⟩ := conFieldsL_ok h.ok c
  refine ⟨h1, fun f hf => ?_⟩
  obtain ⟨i, hi, rfl⟩ := List.getElem_of_mem hf
  have := allT_at h2 hi
  rw [iAt_get hi] at this
  have := h.len4
  exact ⟨by omega, by omega⟩
theorem GoodG.cons (h : GoodG ds fs) (t : Int) : (consL ds t).length ≤ 3 ∧ ∀ c, c ∈ consL ds t → 0 ≤ c ∧ c ≤ 15 := by
  by_cases ht : 1 ≤ t ∧ t ≤ (ds.length : Int)
  · have h4 := h.len4
    obtain ⟨k, h0, h5, rfl⟩ := h.decls
    have ht2 : t = 1 ∨ t = 2 ∨ t = 3 ∨ t = 4 := by omega
    clear ht h4 h
    rcases goodD_cases h0 h5 with rfl | rfl | rfl | rfl | rfl <;> rcases ht2 with rfl | rfl | rfl | rfl <;> decide
  · rw [consL, if_neg ht]; simp
theorem GoodG.arrow (h : GoodG ds fs) {k : Nat} (hk : k < ds.length) (h0 : (dAt ds k).cons.length = 0) : T5 (dAt ds k).from_ ∧ T5 (dAt ds k).to_ := by
  have h4 := h.len4
  obtain ⟨h1, h2⟩ := declOk_arrow (typesOk_decl h.ok hk) h0
  have h3 := isT_iff.1 h1
  have h5 := isT_iff.1 h2
  exact ⟨⟨by omega, by omega⟩, ⟨by omega, by omega⟩⟩
theorem sigs_ok : ∀ s, s ∈ allSigs → s.1.length ≤ 3 ∧ (0 ≤ s.2 ∧ s.2 ≤ 4) ∧ ∀ f, f ∈ s.1 → 0 ≤ f ∧ f ≤ 4 := by decide
theorem GoodG.sig (h : GoodG ds fs) {i : Nat} (hi : i < fs.length) : (fAt fs i).params.length ≤ 3 ∧ T5 (fAt fs i).result ∧ ∀ f, f ∈ (fAt fs i).params → T5 f := sigs_ok _ (h.sigs i hi)
theorem GoodG.rk1 (h : GoodG ds fs) {t : Int} (ht : t = 0 ∨ t = 1 ∨ t = 3) : Rk ds fs 1 t := by
  obtain ⟨k, h0, h5, rfl⟩ := h.decls
  clear h
  have h1 : (∀ c, c ∈ consL (goodD k) t → (c = iAt (consL (goodD k) t) 0 ∨ t ∉ conFieldsL (goodD k) c) → conFieldsL (goodD k) c = []) ∧ ((consL (goodD k) t).length = 0 → ¬ 0 < t) := by
    rcases goodD_cases h0 h5 with rfl | rfl | rfl | rfl | rfl <;> rcases ht with rfl | rfl | rfl <;> decide
  refine ⟨fun c hc hcc f hf => ?_, fun hl ht => absurd ht (h1.2 hl)⟩
  rw [h1.1 c hc hcc] at hf
  cases hf
theorem GoodG.rk2 (h : GoodG ds fs) {t : Int} (ht : T5 t) : Rk ds fs 2 t := by
  have hs := h.sigs
  have hr : ∀ f, (f = 0 ∨ f = 1 ∨ f = 3) → Rk ds fs 1 f := fun f hf => h.rk1 hf
  obtain ⟨k, h0, h5, rfl⟩ := h.decls
  have h1 : (∀ c, c ∈ consL (goodD k) t → (c = iAt (consL (goodD k) t) 0 ∨ t ∉ conFieldsL (goodD k) c) → ∀ f, f ∈ conFieldsL (goodD k) c → f = 0 ∨ f = 1 ∨ f = 3) := by
    clear h hs hr
    rcases goodD_cases h0 h5 with rfl | rfl | rfl | rfl | rfl <;> rcases ht.cases with rfl | rfl | rfl | rfl | rfl <;> decide
  have h2 : ∀ s, s ∈ allSigs → 0 < s.1.length → 0 < arrowL (goodD k) (iAt s.1 (s.1.length - 1)) s.2 → ∀ f, f ∈ s.1.take (s.1.length - 1) → f = 0 ∨ f = 1 ∨ f = 3 := by
    clear h hs hr h1
    rcases goodD_cases h0 h5 with rfl | rfl | rfl | rfl | rfl <;> decide
  refine ⟨fun c hc hcc f hf => hr f (h1 c hc hcc f hf), fun _ ht x hx j hj => hr _ ?_⟩
  obtain ⟨x0, x1, x2, x3⟩ := hx
  refine h2 _ (hs x.toNat (by omega)) x2 (by rw [x3]; exact ht) _ ?_
  show iAt _ j ∈ (fAt fs x.toNat).params.take ((fAt fs x.toNat).params.length - 1)
  rw [iAt_get (by omega)]
  exact List.mem_take_iff_getElem.2 ⟨j, by omega, rfl⟩
/-- How many numbers are drawn for a small expression. -/
def pkS : Nat → Int
  | 0 => 0
  | n + 1 => 4 + 3 * pkS n
end
end Go.Proofs.Ytaeddcnakilnlaa
