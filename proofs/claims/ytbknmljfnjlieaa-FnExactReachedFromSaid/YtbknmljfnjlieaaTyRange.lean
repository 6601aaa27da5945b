/- The types of expressions, plain: what has a type has one that there is. -/
import Derived.Test.YtbknmljfnjlieaaTyPlain
import Derived.Test.YtbknmljfnjlieaaGA
namespace Go.Proofs.Ytbknmljfnjlieaa
open Go.RowKit

theorem isT_iff {n : Nat} {t : Int} : isT n t = true ↔ 0 ≤ t ∧ t ≤ (n : Int) := by simp [isT]
theorem allT_iff {n : Nat} {xs : List Int} : allT n xs = true ↔ ∀ i, i < xs.length → isT n (iAt xs i) = true := iAll
theorem allT_append {n : Nat} {xs ys : List Int} (h : allT n xs = true) (h2 : allT n ys = true) : allT n (xs ++ ys) = true := by simp only [allT, List.all_append, Bool.and_eq_true] at *; exact ⟨h, h2⟩
theorem allT_one {n : Nat} {t : Int} (h : isT n t = true) : allT n [t] = true := by simp [allT, h]
theorem allT_nil {n : Nat} : allT n [] = true := rfl
theorem allT_at {n : Nat} {xs : List Int} (h : allT n xs = true) {i : Nat} (hi : i < xs.length) : 0 ≤ iAt xs i ∧ iAt xs i ≤ (n : Int) := isT_iff.1 (allT_iff.1 h i hi)
theorem typesOk_decl {ds : List DeclL} (h : typesOk ds = true) {k : Nat} (hk : k < ds.length) : declOk ds k = true := by
  simp only [typesOk, Bool.and_eq_true] at h
  exact nAll.1 h.2 k hk
theorem typesOk_len {ds : List DeclL} (h : typesOk ds = true) : ds.length ≤ 4 := by
  simp only [typesOk, Bool.and_eq_true, decide_eq_true_eq] at h
  exact h.1
theorem declOk_arrow {ds : List DeclL} {k : Nat} (h : declOk ds k = true) (h0 : (dAt ds k).cons.length = 0) : isT ds.length (dAt ds k).from_ = true ∧ isT ds.length (dAt ds k).to_ = true := by
  unfold declOk at h
  rw [if_neg (by omega)] at h
  simp only [Bool.and_eq_true] at h
  exact ⟨h.1.1, h.1.2⟩
theorem conFieldsL_ok {ds : List DeclL} (h : typesOk ds = true) (c : Int) : (conFieldsL ds c).length ≤ 3 ∧ allT ds.length (conFieldsL ds c) = true := by
  unfold conFieldsL
  split
  · next i hi =>
    obtain ⟨h1, h2, _⟩ := firstIx_spec hi
    have hd := typesOk_decl h h1
    have h2 : (firstN ds i : Int) ≤ c ∧ c < (firstN ds (i + 1) : Int) := of_decide_eq_true h2
    have h3 : firstN ds (i + 1) = firstN ds i + (dAt ds i).cons.length := rfl
    have hc : c.toNat - firstN ds i < (dAt ds i).cons.length := by omega
    unfold declOk at hd
    rw [if_pos (by omega)] at hd
    simp only [Bool.and_eq_true] at hd
    have := cAll.1 hd.2 _ hc
    simp only [conOk, Bool.and_eq_true, decide_eq_true_eq] at this
    exact this
  · exact ⟨by simp, rfl⟩
theorem typeOr_range {n : Nat} {p : Nat → Bool} : typeOr (firstIx n p) = -1 ∨ isT n (typeOr (firstIx n p)) = true := by
  cases h : firstIx n p with
  | none => exact .inl rfl
  | some i =>
    obtain ⟨h1, _⟩ := firstIx_spec h
    refine .inr (isT_iff.2 ?_)
    show 0 ≤ (i : Int) + 1 ∧ (i : Int) + 1 ≤ n
    omega
theorem sigsOk_parts {ds : List DeclL} {sg : List SigL} (h : sigsOk ds sg = true) : typesOk ds = true ∧ 1 ≤ sg.length ∧ sg.length ≤ 4 ∧ ∀ i, i < sg.length → sigOk ds.length (sgAt sg i) = true := by
  simp only [sigsOk, Bool.and_eq_true, decide_eq_true_eq] at h
  exact ⟨h.1.1.1.1.1, h.1.1.1.1.2, h.1.1.1.2, fun i hi => nAll.1 h.2 i hi⟩
theorem sigOk_parts {n : Nat} {s : SigL} (h : sigOk n s = true) : s.params.length ≤ 3 ∧ allT n s.params = true ∧ isT n s.result = true ∧ lentOk s = true := by
  simp only [sigOk, Bool.and_eq_true, decide_eq_true_eq] at h
  exact ⟨h.1.1.1, h.1.1.2, h.1.2, h.2⟩
theorem isArr_parts {ds : List DeclL} {t : Int} (h : isArr ds t = true) : 1 ≤ t ∧ t ≤ (ds.length : Int) ∧ (dAt ds (t.toNat - 1)).cons.length = 0 := by
  simp only [isArr, Bool.and_eq_true, decide_eq_true_eq] at h
  exact ⟨h.1.1, h.1.2, h.2⟩

section
variable {ds : List DeclL} {sg : List SigL} (hok : sigsOk ds sg = true)
include hok
theorem simple_range (op num : Int) (tys : List Int) : simpleL ds sg op num tys = -1 ∨ isT ds.length (simpleL ds sg op num tys) = true := by
  obtain ⟨ht, _, _, hs⟩ := sigsOk_parts hok
  have z : isT ds.length 0 = true := isT_iff.2 ⟨by omega, by omega⟩
  unfold simpleL
  split
  · split
    · exact .inr z
    · exact .inl rfl
  split
  · split
    · exact .inr z
    · exact .inl rfl
  split
  · split
    · exact .inr z
    · exact .inl rfl
  split
  · split
    · next h =>
      obtain ⟨h1, h2, h3⟩ := isArr_parts h.2.2.1
      exact .inr (declOk_arrow (typesOk_decl ht (by omega)) h3).2
    · exact .inl rfl
  split
  · split
    · exact typeOr_range
    · exact .inl rfl
  split
  · split
    · next h => exact .inr (sigOk_parts (hs _ (by omega))).2.2.1
    · exact .inl rfl
  split
  · split
    · exact typeOr_range
    · exact .inl rfl
  · exact .inl rfl
omit hok in
theorem oneT_range {ts : List Int} (h : ∀ i, i < ts.length → iAt ts i = -1 ∨ isT ds.length (iAt ts i) = true) : oneT ts = -1 ∨ isT ds.length (oneT ts) = true := by
  cases ts with
  | nil => exact .inl rfl
  | cons t ts =>
    rw [oneT]
    split
    · have := h 0 (by simp)
      simpa [iAt] using this
    · exact .inl rfl
theorem tyE_range (N : Nat) : ∀ (e : ExprL), nE e < N → ∀ vars, allT ds.length vars = true → tyE ds sg vars e = -1 ∨ isT ds.length (tyE ds sg vars e) = true := by
  induction N with
  | zero => intro e h; omega
  | succ N ih =>
  intro e hN vars hv
  obtain ⟨op, num, ks⟩ := e
  have ht := (sigsOk_parts hok).1
  have hk : ∀ j, j < ks.length → nE (eAt ks j) < N := fun j hj => by have := nE_le ks hj; rw [nE] at hN; omega
  have arms : ∀ i, i < (armsL ds num).length → (cAt (armsL ds num) i).length ≤ 3 ∧ allT ds.length (cAt (armsL ds num) i) = true := fun i hi => by
    have hi' : i < (consL ds num).length := by simpa [armsL] using hi
    rw [cAt_get hi]
    simp only [armsL, List.getElem_map]
    exact conFieldsL_ok ht _
  rw [tyE]
  split
  · split
    · next h => exact .inr (allT_iff.1 hv _ (by omega))
    · exact .inl rfl
  split
  · split
    · next h =>
      rw [tyLet_at ds sg vars h.2]
      split
      · next h0 =>
        have h1 := ih _ (hk 0 (by omega)) vars hv
        have h2 : isT ds.length (tyE ds sg vars (eAt ks 0)) = true := by
          rcases h1 with h1 | h1
          · omega
          · exact h1
        exact ih _ (hk 1 (by omega)) _ (allT_append hv (allT_one h2))
      · exact .inl rfl
    · exact .inl rfl
  split
  · split
    · next h =>
      refine oneT_range (fun i hi => ?_)
      rw [tyTl_len] at hi
      rw [tyTl_at ds sg vars (by omega)]
      refine ih _ (hk _ (by omega)) _ (allT_append hv ?_)
      rcases (show i = 0 ∨ i = 1 by omega) with rfl | rfl <;> rfl
    · exact .inl rfl
  split
  · split
    · next h =>
      refine oneT_range (fun i hi => ?_)
      rw [tyTl_len] at hi
      rw [tyTl_at ds sg vars (by omega)]
      exact ih _ (hk _ (by omega)) _ (allT_append hv (arms i (by omega)).2)
    · exact .inl rfl
  · exact simple_range hok _ _ _
theorem ty_range (e : ExprL) {vars : List Int} (hv : allT ds.length vars = true) : tyE ds sg vars e = -1 ∨ isT ds.length (tyE ds sg vars e) = true := tyE_range hok _ e (Nat.lt_succ_self _) vars hv
theorem ty_ge (e : ExprL) {vars : List Int} (hv : allT ds.length vars = true) : -1 ≤ tyE ds sg vars e ∧ tyE ds sg vars e ≤ (ds.length : Int) := by
  rcases ty_range hok e hv with h | h
  · omega
  · have := isT_iff.1 h; omega
omit hok in
/-- All have one type, t, or none. -/
theorem oneT_same {ts : List Int} {t : Int} (h0 : 0 < ts.length) (h1 : -1 ≤ t) (h : ∀ i, i < ts.length → iAt ts i = t) : oneT ts = t := by
  by_cases ht : 0 ≤ t
  · rw [oneT_at h0 (by rw [h 0 h0]; exact ht) (fun i hi => by rw [h i hi, h 0 h0]), h 0 h0]
  · rw [oneT_neg h0 (.inr (by rw [h 0 h0]; omega))]; omega
end
end Go.Proofs.Ytbknmljfnjlieaa
