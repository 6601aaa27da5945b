/- The types of expressions, plain. -/
import Derived.Test.YtaeddcnakilnlaaWSigs
import Derived.Test.YtaeddcnakilnlaaMGA
namespace Go.Proofs.Ytaeddcnakilnlaa
open Go.RowKit

/-- A type is an arrow type. -/
def isArr (ds : List DeclL) (t : Int) : Bool := decide (1 ≤ t ∧ t ≤ (ds.length : Int)) && decide ((dAt ds (t.toNat - 1)).cons.length = 0)
/-- The type of an operation that neither binds nor chooses, for kids of some types; -1 if it is not right. -/
def simpleL (ds : List DeclL) (sg : List SigL) (op num : Int) (tys : List Int) : Int :=
  if op = 0 then (if tys = [] ∧ -999 ≤ num ∧ num ≤ 999 then 0 else -1)
  else if op = 1 ∨ op = 2 ∨ op = 3 ∨ op = 4 then (if num = 0 ∧ tys = [0, 0] then 0 else -1)
  else if op = 5 then (if num = 0 ∧ tys = [0] then 0 else -1)
  else if op = 11 then (if num = 0 ∧ tys.length = 2 ∧ isArr ds (iAt tys 0) = true ∧ iAt tys 1 = (dAt ds ((iAt tys 0).toNat - 1)).from_ then (dAt ds ((iAt tys 0).toNat - 1)).to_ else -1)
  else if op = 6 then (if 0 < conTypeL ds num ∧ tys = conFieldsL ds num then conTypeL ds num else -1)
  else if op = 9 then (if 0 ≤ num ∧ num < (sg.length : Int) ∧ tys = (sgAt sg num.toNat).params then (sgAt sg num.toNat).result else -1)
  else if op = 10 then (if 0 ≤ num ∧ num < (sg.length : Int) ∧ 0 < (sgAt sg num.toNat).params.length ∧ tys = (sgAt sg num.toNat).params.take ((sgAt sg num.toNat).params.length - 1) then
    arrowL ds (iAt (sgAt sg num.toNat).params ((sgAt sg num.toNat).params.length - 1)) (sgAt sg num.toNat).result else -1)
  else -1
/-- The type that all have, or -1. -/
def oneT : List Int → Int
  | [] => -1
  | t :: ts => if 0 ≤ t ∧ ts.all (fun u => decide (u = t)) = true then t else -1
/-- The fields of the constructors of a type. -/
def armsL (ds : List DeclL) (t : Int) : List (List Int) := (consL ds t).map (conFieldsL ds)

mutual
/-- The type of an expression; -1 if it has none. -/
def tyE (ds : List DeclL) (sg : List SigL) (vars : List Int) : ExprL → Int
  | .mk op num ks =>
    if op = 12 then (if ks.length = 0 ∧ 0 ≤ num ∧ num < (vars.length : Int) then iAt vars num.toNat else -1)
    else if op = 13 then (if num = 0 ∧ ks.length = 2 then tyLet ds sg vars ks else -1)
    else if op = 7 then (if num = 0 ∧ ks.length = 3 ∧ tyHd ds sg vars ks = 0 then oneT (tyTl ds sg vars ks [[], []]) else -1)
    else if op = 8 then (if 0 < (armsL ds num).length ∧ ks.length = 1 + (armsL ds num).length ∧ tyHd ds sg vars ks = num then oneT (tyTl ds sg vars ks (armsL ds num)) else -1)
    else simpleL ds sg op num (tyEs ds sg vars ks)
def tyEs (ds : List DeclL) (sg : List SigL) (vars : List Int) : List ExprL → List Int
  | [] => []
  | k :: ks => tyE ds sg vars k :: tyEs ds sg vars ks
def tyHd (ds : List DeclL) (sg : List SigL) (vars : List Int) : List ExprL → Int
  | [] => -1
  | k :: _ => tyE ds sg vars k
def tyTl (ds : List DeclL) (sg : List SigL) (vars : List Int) : List ExprL → List (List Int) → List Int
  | [], _ => []
  | _ :: ks, fs => tyArms ds sg vars ks fs
def tyArms (ds : List DeclL) (sg : List SigL) (vars : List Int) : List ExprL → List (List Int) → List Int
  | [], _ => []
  | k :: ks, fs => tyE ds sg (vars ++ fs.headD []) k :: tyArms ds sg vars ks fs.tail
def tyLet (ds : List DeclL) (sg : List SigL) (vars : List Int) : List ExprL → Int
  | [] => -1
  | k :: ks => if 0 ≤ tyE ds sg vars k then tyHd ds sg (vars ++ [tyE ds sg vars k]) ks else -1
end

section
variable (ds : List DeclL) (sg : List SigL) (vars : List Int)
theorem tyEs_map (ks : List ExprL) : tyEs ds sg vars ks = ks.map (tyE ds sg vars) := by induction ks <;> simp_all [tyEs]
theorem tyEs_len (ks : List ExprL) : (tyEs ds sg vars ks).length = ks.length := by rw [tyEs_map]; simp
theorem tyEs_at {ks : List ExprL} {i : Nat} (h : i < ks.length) : iAt (tyEs ds sg vars ks) i = tyE ds sg vars (eAt ks i) := by
  rw [tyEs_map, iAt_get (by simpa using h), eAt_get h]; simp
theorem tyHd_at {ks : List ExprL} (h : 0 < ks.length) : tyHd ds sg vars ks = tyE ds sg vars (eAt ks 0) := by
  cases ks with
  | nil => simp at h
  | cons k ks => rfl
theorem tyArms_len (ks : List ExprL) (fs : List (List Int)) : (tyArms ds sg vars ks fs).length = ks.length := by
  induction ks generalizing fs with
  | nil => rfl
  | cons k ks ih => simp [tyArms, ih]
theorem tyArms_at {ks : List ExprL} {fs : List (List Int)} {i : Nat} (h : i < ks.length) : iAt (tyArms ds sg vars ks fs) i = tyE ds sg (vars ++ cAt fs i) (eAt ks i) := by
  induction ks generalizing fs i with
  | nil => simp at h
  | cons k ks ih =>
    cases i with
    | zero => cases fs <;> simp [tyArms, iAt, cAt, eAt, List.headD]
    | succ i =>
      have := ih (fs := fs.tail) (i := i) (by simpa using h)
      simp only [tyArms, iAt, List.getD_cons_succ] at this ⊢
      rw [this]
      have e1 : cAt fs.tail i = cAt fs (i + 1) := by cases fs <;> simp [cAt]
      have e2 : eAt (k :: ks) (i + 1) = eAt ks i := by simp [eAt]
      rw [e1, e2]
theorem tyTl_len {ks : List ExprL} (fs : List (List Int)) : (tyTl ds sg vars ks fs).length = ks.length - 1 := by
  cases ks with
  | nil => rfl
  | cons k ks => simp [tyTl, tyArms_len]
theorem tyTl_at {ks : List ExprL} {fs : List (List Int)} {i : Nat} (h : i + 1 < ks.length) : iAt (tyTl ds sg vars ks fs) i = tyE ds sg (vars ++ cAt fs i) (eAt ks (i + 1)) := by
  cases ks with
  | nil => simp at h
  | cons k ks =>
    have := tyArms_at ds sg vars (ks := ks) (fs := fs) (i := i) (by simpa using h)
    rw [tyTl, this]
    simp [eAt]
theorem tyLet_at {ks : List ExprL} (h : ks.length = 2) : tyLet ds sg vars ks = if 0 ≤ tyE ds sg vars (eAt ks 0) then tyE ds sg (vars ++ [tyE ds sg vars (eAt ks 0)]) (eAt ks 1) else -1 := by
  match ks, h with
  | [a, b], _ => simp [tyLet, tyHd, eAt]
end
theorem oneT_at {ts : List Int} (h0 : 0 < ts.length) (h1 : 0 ≤ iAt ts 0) (h : ∀ i, i < ts.length → iAt ts i = iAt ts 0) : oneT ts = iAt ts 0 := by
  cases ts with
  | nil => simp at h0
  | cons t ts =>
    have e : iAt (t :: ts) 0 = t := by simp [iAt]
    rw [e] at h1 h ⊢
    have h2 : ts.all (fun u => decide (u = t)) = true := by
      rw [List.all_eq_true]
      intro u hu
      obtain ⟨i, hi, rfl⟩ := List.getElem_of_mem hu
      have := h (i + 1) (by simpa using hi)
      simpa [iAt, hi] using this
    rw [oneT, if_pos ⟨h1, h2⟩]
theorem oneT_neg {ts : List Int} {i : Nat} (hi : i < ts.length) (h : iAt ts i ≠ iAt ts 0 ∨ iAt ts i < 0) : oneT ts = -1 := by
  cases ts with
  | nil => simp at hi
  | cons t ts =>
    have e : iAt (t :: ts) 0 = t := by simp [iAt]
    rw [e] at h
    rw [oneT, if_neg ?_]
    rintro ⟨h1, h2⟩
    rw [List.all_eq_true] at h2
    cases i with
    | zero => rw [e] at h; omega
    | succ i =>
      have hi' : i < ts.length := by simpa using hi
      have := h2 ts[i] (List.getElem_mem hi')
      have e2 : iAt (t :: ts) (i + 1) = ts[i] := by simp [iAt, hi']
      rw [e2] at h
      simp at this
      omega
end Go.Proofs.Ytaeddcnakilnlaa
/- The types of expressions, plain: what has a type has one that there is. -/
namespace Go.Proofs.Ytaeddcnakilnlaa
open Go.RowKit

theorem isT_iff {n : Nat} {t : Int} : isT n t = true ↔ 0 ≤ t ∧ t ≤ (n : Int) := by simp [isT]
theorem allT_iff {n : Nat} {xs : List Int} : allT n xs = true ↔ ∀ i, i < xs.length → isT n (iAt xs i) = true := iAll
theorem allT_append {n : Nat} {xs ys : List Int} (h : allT n xs = true) (h2 : allT n ys = true) : allT n (xs ++ ys) = true := by simp only [allT, List.all_append, Bool.and_eq_true] at *; exact ⟨h, h2⟩
theorem allT_one {n : Nat} {t : Int} (h : isT n t = true) : allT n [t] = true := by simp [allT, h]
theorem allT_at {n : Nat} {xs : List Int} (h : allT n xs = true) {i : Nat} (hi : i < xs.length) : 0 ≤ iAt xs i ∧ iAt xs i ≤ (n : Int) := isT_iff.1 (allT_iff.1 h i hi)
theorem typesOk_decl {ds : List DeclL} (h : typesOk ds = true) {k : Nat} (hk : k < ds.length) : declOk ds k = true := by
  simp only [typesOk, Bool.and_eq_true] at h
  exact nAll.1 h.2 k hk
theorem typesOk_len {ds : List DeclL} (h : typesOk ds = true) : ds.length ≤ 4 := by
  simp only [typesOk, Bool.and_eq_true, decide_eq_true_eq] at h
  exact h.1
theorem declOk_arrow {ds : List DeclL} {k : Nat} (h : declOk ds k = true) (h0 : (dAt ds k).cons.length = 0) : isT ds.length (dAt ds k).from_ = true ∧ isT ds.length (dAt ds k).to_ = true := by
  unfold declOk at h
  rw [if_neg (by omega)] at h
  simp only [Bool.and_eq_true] at h
  exact ⟨h.1.1, h.1.2⟩
theorem conFieldsL_ok {ds : List DeclL} (h : typesOk ds = true) (c : Int) : (conFieldsL ds c).length ≤ 3 ∧ allT ds.length (conFieldsL ds c) = true := by
  unfold conFieldsL
  split
  · next i hi =>
    obtain ⟨h1, h2, _⟩ := firstIx_spec hi
    have hd := typesOk_decl h h1
    have h2 : (firstN ds i : Int) ≤ c ∧ c < (firstN ds (i + 1) : Int) := of_decide_eq_true h2
    have h3 : firstN ds (i + 1) = firstN ds i + (dAt ds i).cons.length := rfl
    have hc : c.toNat - firstN ds i < (dAt ds i).cons.length := by omega
    unfold declOk at hd
    rw [if_pos (by omega)] at hd
    simp only [Bool.and_eq_true] at hd
    have := cAll.1 hd.2 _ hc
    simp only [conOk, Bool.and_eq_true, decide_eq_true_eq] at this
    exact this
  · exact ⟨by simp, rfl⟩
theorem typeOr_range {n : Nat} {p : Nat → Bool} : typeOr (firstIx n p) = -1 ∨ isT n (typeOr (firstIx n p)) = true := by
  cases h : firstIx n p with
  | none => exact .inl rfl
  | some i =>
    obtain ⟨h1, _⟩ := firstIx_spec h
    refine .inr (isT_iff.2 ?_)
    show 0 ≤ (i : Int) + 1 ∧ (i : Int) + 1 ≤ n
    omega
theorem sigsOk_parts {ds : List DeclL} {sg : List SigL} (h : sigsOk ds sg = true) : typesOk ds = true ∧ 1 ≤ sg.length ∧ sg.length ≤ 4 ∧ ∀ i, i < sg.length → sigOk ds.length (sgAt sg i) = true := by
  simp only [sigsOk, Bool.and_eq_true, decide_eq_true_eq] at h
  exact ⟨h.1.1.1.1.1, h.1.1.1.1.2, h.1.1.1.2, fun i hi => nAll.1 h.2 i hi⟩
theorem sigOk_parts {n : Nat} {s : SigL} (h : sigOk n s = true) : s.params.length ≤ 3 ∧ allT n s.params = true ∧ isT n s.result = true ∧ lentOk s = true := by
  simp only [sigOk, Bool.and_eq_true, decide_eq_true_eq] at h
  exact ⟨h.1.1.1, h.1.1.2, h.1.2, h.2⟩
theorem isArr_parts {ds : List DeclL} {t : Int} (h : isArr ds t = true) : 1 ≤ t ∧ t ≤ (ds.length : Int) ∧ (dAt ds (t.toNat - 1)).cons.length = 0 := by
  simp only [isArr, Bool.and_eq_true, decide_eq_true_eq] at h
  exact ⟨h.1.1, h.1.2, h.2⟩

section
variable {ds : List DeclL} {sg : List SigL} (hok : sigsOk ds sg = true)
include hok
theorem simple_range (op num : Int) (tys : List Int) : simpleL ds sg op num tys = -1 ∨ isT ds.length (simpleL ds sg op num tys) = true := by
  obtain ⟨ht, _, _, hs⟩ := sigsOk_parts hok
  have z : isT ds.length 0 = true := isT_iff.2 ⟨by omega, by omega⟩
  unfold simpleL
  split
  · split
    · exact .inr z
    · exact .inl rfl
  split
  · split
    · exact .inr z
    · exact .inl rfl
  split
  · split
    · exact .inr z
    · exact .inl rfl
  split
  · split
    · next h =>
      obtain ⟨h1, h2, h3⟩ := isArr_parts h.2.2.1
      exact .inr (declOk_arrow (typesOk_decl ht (by omega)) h3).2
    · exact .inl rfl
  split
  · split
    · exact typeOr_range
    · exact .inl rfl
  split
  · split
    · next h => exact .inr (sigOk_parts (hs _ (by omega))).2.2.1
    · exact .inl rfl
  split
  · split
    · exact typeOr_range
    · exact .inl rfl
  · exact .inl rfl
omit hok in
theorem oneT_range {ts : List Int} (h : ∀ i, i < ts.length → iAt ts i = -1 ∨ isT ds.length (iAt ts i) = true) : oneT ts = -1 ∨ isT ds.length (oneT ts) = true := by
  cases ts with
  | nil => exact .inl rfl
  | cons t ts =>
    rw [oneT]
    split
    · have := h 0 (by simp)
      simpa [iAt] using this
    · exact .inl rfl
theorem tyE_range (N : Nat) : ∀ (e : ExprL), nE e < N → ∀ vars, allT ds.length vars = true → tyE ds sg vars e = -1 ∨ isT ds.length (tyE ds sg vars e) = true := by
  induction N with
  | zero => intro e h; omega
  | succ N ih =>
  intro e hN vars hv
  obtain ⟨op, num, ks⟩ := e
  have ht := (sigsOk_parts hok).1
  have hk : ∀ j, j < ks.length → nE (eAt ks j) < N := fun j hj => by have := nE_le ks hj; rw [nE] at hN; omega
  have arms : ∀ i, i < (armsL ds num).length → (cAt (armsL ds num) i).length ≤ 3 ∧ allT ds.length (cAt (armsL ds num) i) = true := fun i hi => by
    have hi' : i < (consL ds num).length := by simpa [armsL] using hi
    rw [cAt_get hi]
    simp only [armsL, List.getElem_map]
    exact conFieldsL_ok ht _
  rw [tyE]
  split
  · split
    · next h => exact .inr (allT_iff.1 hv _ (by omega))
    · exact .inl rfl
  split
  · split
    · next h =>
      rw [tyLet_at ds sg vars h.2]
      split
      · next h0 =>
        have h1 := ih _ (hk 0 (by omega)) vars hv
        have h2 : isT ds.length (tyE ds sg vars (eAt ks 0)) = true := by
          rcases h1 with h1 | h1
          · omega
          · exact h1
        exact ih _ (hk 1 (by omega)) _ (allT_append hv (allT_one h2))
      · exact .inl rfl
    · exact .inl rfl
  split
  · split
    · next h =>
      refine oneT_range (fun i hi => ?_)
      rw [tyTl_len] at hi
      rw [tyTl_at ds sg vars (by omega)]
      refine ih _ (hk _ (by omega)) _ (allT_append hv ?_)
      rcases (show i = 0 ∨ i = 1 by omega) with rfl | rfl <;> rfl
    · exact .inl rfl
  split
  · split
    · next h =>
      refine oneT_range (fun i hi => ?_)
      rw [tyTl_len] at hi
      rw [tyTl_at ds sg vars (by omega)]
      exact ih _ (hk _ (by omega)) _ (allT_append hv (arms i (by omega)).2)
    · exact .inl rfl
  · exact simple_range hok _ _ _
theorem ty_range (e : ExprL) {vars : List Int} (hv : allT ds.length vars = true) : tyE ds sg vars e = -1 ∨ isT ds.length (tyE ds sg vars e) = true := tyE_range hok _ e (Nat.lt_succ_self _) vars hv
theorem ty_ge (e : ExprL) {vars : List Int} (hv : allT ds.length vars = true) : -1 ≤ tyE ds sg vars e ∧ tyE ds sg vars e ≤ (ds.length : Int) := by
  rcases ty_range hok e hv with h | h
  · omega
  · have := isT_iff.1 h; omega
omit hok in
/-- All have one type, t, or none. -/
theorem oneT_same {ts : List Int} {t : Int} (h0 : 0 < ts.length) (h1 : -1 ≤ t) (h : ∀ i, i < ts.length → iAt ts i = t) : oneT ts = t := by
  by_cases ht : 0 ≤ t
  · rw [oneT_at h0 (by rw [h 0 h0]; exact ht) (fun i hi => by rw [h i hi, h 0 h0]), h 0 h0]
  · rw [oneT_neg h0 (.inr (by rw [h 0 h0]; omega))]; omega
end
end Go.Proofs.Ytaeddcnakilnlaa
