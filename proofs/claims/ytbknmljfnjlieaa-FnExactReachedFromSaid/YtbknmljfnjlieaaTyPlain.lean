/- The types of expressions, plain. -/
import Derived.Test.YtbknmljfnjlieaaSigs
import Derived.Test.YtbknmljfnjlieaaGA
namespace Go.Proofs.Ytbknmljfnjlieaa
open Go.RowKit

/-- A type is an arrow type. -/
def isArr (ds : List DeclL) (t : Int) : Bool := decide (1 ≤ t ∧ t ≤ (ds.length : Int)) && decide ((dAt ds (t.toNat - 1)).cons.length = 0)
/-- The type of an operation that neither binds nor chooses, for kids of some types; -1 if it is not right. -/
def simpleL (ds : List DeclL) (sg : List SigL) (op num : Int) (tys : List Int) : Int :=
  if op = 0 then (if tys = [] ∧ -999 ≤ num ∧ num ≤ 999 then 0 else -1)
  else if op = 1 ∨ op = 2 ∨ op = 3 ∨ op = 4 then (if num = 0 ∧ tys = [0, 0] then 0 else -1)
  else if op = 5 then (if num = 0 ∧ tys = [0] then 0 else -1)
  else if op = 11 then (if num = 0 ∧ tys.length = 2 ∧ isArr ds (iAt tys 0) = true ∧ iAt tys 1 = (dAt ds ((iAt tys 0).toNat - 1)).from_ then (dAt ds ((iAt tys 0).toNat - 1)).to_ else -1)
  else if op = 6 then (if 0 < conTypeL ds num ∧ tys = conFieldsL ds num then conTypeL ds num else -1)
  else if op = 9 then (if 0 ≤ num ∧ num < (sg.length : Int) ∧ tys = (sgAt sg num.toNat).params then (sgAt sg num.toNat).result else -1)
  else if op = 10 then (if 0 ≤ num ∧ num < (sg.length : Int) ∧ 0 < (sgAt sg num.toNat).params.length ∧ tys = (sgAt sg num.toNat).params.take ((sgAt sg num.toNat).params.length - 1) then
    arrowL ds (iAt (sgAt sg num.toNat).params ((sgAt sg num.toNat).params.length - 1)) (sgAt sg num.toNat).result else -1)
  else -1
/-- The type that all have, or -1. -/
def oneT : List Int → Int
  | [] => -1
  | t :: ts => if 0 ≤ t ∧ ts.all (fun u => decide (u = t)) = true then t else -1
/-- The fields of the constructors of a type. -/
def armsL (ds : List DeclL) (t : Int) : List (List Int) := (consL ds t).map (conFieldsL ds)

mutual
/-- The type of an expression; -1 if it has none. -/
def tyE (ds : List DeclL) (sg : List SigL) (vars : List Int) : ExprL → Int
  | .mk op num ks =>
    if op = 12 then (if ks.length = 0 ∧ 0 ≤ num ∧ num < (vars.length : Int) then iAt vars num.toNat else -1)
    else if op = 13 then (if num = 0 ∧ ks.length = 2 then tyLet ds sg vars ks else -1)
    else if op = 7 then (if num = 0 ∧ ks.length = 3 ∧ tyHd ds sg vars ks = 0 then oneT (tyTl ds sg vars ks [[], []]) else -1)
    else if op = 8 then (if 0 < (armsL ds num).length ∧ ks.length = 1 + (armsL ds num).length ∧ tyHd ds sg vars ks = num then oneT (tyTl ds sg vars ks (armsL ds num)) else -1)
    else simpleL ds sg op num (tyEs ds sg vars ks)
def tyEs (ds : List DeclL) (sg : List SigL) (vars : List Int) : List ExprL → List Int
  | [] => []
  | k :: ks => tyE ds sg vars k :: tyEs ds sg vars ks
def tyHd (ds : List DeclL) (sg : List SigL) (vars : List Int) : List ExprL → Int
  | [] => -1
  | k :: _ => tyE ds sg vars k
def tyTl (ds : List DeclL) (sg : List SigL) (vars : List Int) : List ExprL → List (List Int) → List Int
  | [], _ => []
  | _ :: ks, fs => tyArms ds sg vars ks fs
def tyArms (ds : List DeclL) (sg : List SigL) (vars : List Int) : List ExprL → List (List Int) → List Int
  | [], _ => []
  | k :: ks, fs => tyE ds sg (vars ++ fs.headD []) k :: tyArms ds sg vars ks fs.tail
def tyLet (ds : List DeclL) (sg : List SigL) (vars : List Int) : List ExprL → Int
  | [] => -1
  | k :: ks => if 0 ≤ tyE ds sg vars k then tyHd ds sg (vars ++ [tyE ds sg vars k]) ks else -1
end

section
variable (ds : List DeclL) (sg : List SigL) (vars : List Int)
theorem tyEs_map (ks : List ExprL) : tyEs ds sg vars ks = ks.map (tyE ds sg vars) := by induction ks <;> simp_all [tyEs]
theorem tyEs_len (ks : List ExprL) : (tyEs ds sg vars ks).length = ks.length := by rw [tyEs_map]; simp
theorem tyEs_at {ks : List ExprL} {i : Nat} (h : i < ks.length) : iAt (tyEs ds sg vars ks) i = tyE ds sg vars (eAt ks i) := by
  rw [tyEs_map, iAt_get (by simpa using h), eAt_get h]; simp
theorem tyHd_at {ks : List ExprL} (h : 0 < ks.length) : tyHd ds sg vars ks = tyE ds sg vars (eAt ks 0) := by
  cases ks with
  | nil => simp at h
  | cons k ks => rfl
theorem tyArms_len (ks : List ExprL) (fs : List (List Int)) : (tyArms ds sg vars ks fs).length = ks.length := by
  induction ks generalizing fs with
  | nil => rfl
  | cons k ks ih => simp [tyArms, ih]
theorem tyArms_at {ks : List ExprL} {fs : List (List Int)} {i : Nat} (h : i < ks.length) : iAt (tyArms ds sg vars ks fs) i = tyE ds sg (vars ++ cAt fs i) (eAt ks i) := by
  induction ks generalizing fs i with
  | nil => simp at h
  | cons k ks ih =>
    cases i with
    | zero => cases fs <;> simp [tyArms, iAt, cAt, eAt, List.headD]
    | succ i =>
      have := ih (fs := fs.tail) (i := i) (by simpa using h)
      simp only [tyArms, iAt, List.getD_cons_succ] at this ⊢
      rw [this]
      have e1 : cAt fs.tail i = cAt fs (i + 1) := by cases fs <;> simp [cAt]
      have e2 : eAt (k :: ks) (i + 1) = eAt ks i := by simp [eAt]
      rw [e1, e2]
theorem tyTl_len {ks : List ExprL} (fs : List (List Int)) : (tyTl ds sg vars ks fs).length = ks.length - 1 := by
  cases ks with
  | nil => rfl
  | cons k ks => simp [tyTl, tyArms_len]
theorem tyTl_at {ks : List ExprL} {fs : List (List Int)} {i : Nat} (h : i + 1 < ks.length) : iAt (tyTl ds sg vars ks fs) i = tyE ds sg (vars ++ cAt fs i) (eAt ks (i + 1)) := by
  cases ks with
  | nil => simp at h
  | cons k ks =>
    have := tyArms_at ds sg vars (ks := ks) (fs := fs) (i := i) (by simpa using h)
    rw [tyTl, this]
    simp [eAt]
theorem tyLet_at {ks : List ExprL} (h : ks.length = 2) : tyLet ds sg vars ks = if 0 ≤ tyE ds sg vars (eAt ks 0) then tyE ds sg (vars ++ [tyE ds sg vars (eAt ks 0)]) (eAt ks 1) else -1 := by
  match ks, h with
  | [a, b], _ => simp [tyLet, tyHd, eAt]
end
theorem oneT_at {ts : List Int} (h0 : 0 < ts.length) (h1 : 0 ≤ iAt ts 0) (h : ∀ i, i < ts.length → iAt ts i = iAt ts 0) : oneT ts = iAt ts 0 := by
  cases ts with
  | nil => simp at h0
  | cons t ts =>
    have e : iAt (t :: ts) 0 = t := by simp [iAt]
    rw [e] at h1 h ⊢
    have h2 : ts.all (fun u => decide (u = t)) = true := by
      rw [List.all_eq_true]
      intro u hu
      obtain ⟨i, hi, rfl⟩ := List.getElem_of_mem hu
      have := h (i + 1) (by simpa using hi)
      simpa [iAt, hi] using this
    rw [oneT, if_pos ⟨h1, h2⟩]
theorem oneT_neg {ts : List Int} {i : Nat} (hi : i < ts.length) (h : iAt ts i ≠ iAt ts 0 ∨ iAt ts i < 0) : oneT ts = -1 := by
  cases ts with
  | nil => simp at hi
  | cons t ts =>
    have e : iAt (t :: ts) 0 = t := by simp [iAt]
    rw [e] at h
    rw [oneT, if_neg ?_]
    rintro ⟨h1, h2⟩
    rw [List.all_eq_true] at h2
    cases i with
    | zero => rw [e] at h; omega
    | succ i =>
      have hi' : i < ts.length := by simpa using hi
      have := h2 ts[i] (List.getElem_mem hi')
      have e2 : iAt (t :: ts) (i + 1) = ts[i] := by simp [iAt, hi']
      rw [e2] at h
      simp at this
      omega
end Go.Proofs.Ytbknmljfnjlieaa
