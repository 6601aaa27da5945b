/- How many integers data have, against how many elements. -/
import Derived.Test.YtbknmljfnjlieaaGA
namespace Go.Proofs.Ytbknmljfnjlieaa
open Go.RowKit

theorem cnt_map {α : Type} (f : α → List Dat) (l : List α) (h : ∀ x ∈ l, cntR (f x) ≤ 3 + 3 * szR (f x)) : cntRR (l.map f) ≤ 3 * (l.length + szRR (l.map f)) := by
  induction l with
  | nil => simp [cntRR]
  | cons x xs ih =>
    have h1 := h x (by simp)
    have h2 := ih (fun y hy => h y (by simp [hy]))
    simp only [List.map_cons, cntRR, szRR, List.length_cons]
    omega
theorem cnt_arr {α : Type} (s : Nat) (f : α → List Dat) (l : List α) (h : ∀ x ∈ l, cntR (f x) ≤ 3 + 3 * szR (f x)) : cntD (.arr s (l.map f)) ≤ 3 * szD (.arr s (l.map f)) := by
  have := cnt_map f l h
  simp only [cntD, szD, List.length_map]
  exact this
theorem cnt_ints (xs : List Int) : cntD (encInts xs) ≤ 3 * szD (encInts xs) := cnt_arr 1 rowI xs (fun x _ => by simp only [rowI, cntR, cntD]; omega)
theorem cnt_cons (xs : List (List Int)) : cntD (encCons xs) ≤ 3 * szD (encCons xs) := cnt_arr 1 rowC xs (fun x _ => by
  have := cnt_ints x
  simp only [rowC, cntR, szR]; omega)
theorem cnt_decls (xs : List DeclL) : cntD (encDecls xs) ≤ 3 * szD (encDecls xs) := cnt_arr 3 rowD xs (fun x _ => by
  have := cnt_cons x.cons
  simp only [rowD, cntR, szR, cntD, szD]; omega)
mutual
theorem cnt_rowE : ∀ e : ExprL, cntR (rowE e) ≤ 3 + 3 * szR (rowE e)
  | .mk op num ks => by
    have := cnt_rowsE ks
    have hl : (rowsE ks).length = ks.length := by rw [rowsE_map]; simp
    simp only [rowE, cntR, szR, cntD, szD, hl]; omega
theorem cnt_rowsE : ∀ es : List ExprL, cntRR (rowsE es) ≤ 3 * (es.length + szRR (rowsE es))
  | [] => by simp [rowsE, cntRR]
  | e :: es => by
    have h1 := cnt_rowE e
    have h2 := cnt_rowsE es
    simp only [rowsE, cntRR, szRR, List.length_cons]; omega
end
theorem cnt_exprs (xs : List ExprL) : cntD (encExprs xs) ≤ 3 * szD (encExprs xs) := by
  have := cnt_rowsE xs
  have hl : (rowsE xs).length = xs.length := by rw [rowsE_map]; simp
  simp only [encExprs, cntD, szD, hl]; exact this
theorem cnt_funcs (xs : List FuncL) : cntD (encFuncs xs) ≤ 3 * szD (encFuncs xs) := cnt_arr 5 rowF xs (fun x _ => by
  have := cnt_ints x.params
  have := cnt_exprs x.body.kids
  simp only [rowF, cntR, szR, cntD, szD]; omega)
mutual
theorem cnt_rowS : ∀ e : StepL, cntR (rowS e) ≤ 3 + 3 * szR (rowS e)
  | .mk op num into args ks => by
    have := cnt_rowsB ks
    have := cnt_ints args
    have hl : (rowsB ks).length = ks.length := by rw [rowsB_map]; simp
    simp only [rowS, cntR, szR, cntD, szD, hl]; omega
theorem cnt_rowB : ∀ e : BlockL, cntR (rowB e) ≤ 3 + 3 * szR (rowB e)
  | .mk ss r => by
    have := cnt_rowsS ss
    have hl : (rowsS ss).length = ss.length := by rw [rowsS_map]; simp
    simp only [rowB, cntR, szR, cntD, szD, hl]; omega
theorem cnt_rowsS : ∀ es : List StepL, cntRR (rowsS es) ≤ 3 * (es.length + szRR (rowsS es))
  | [] => by simp [rowsS, cntRR]
  | e :: es => by
    have h1 := cnt_rowS e
    have h2 := cnt_rowsS es
    simp only [rowsS, cntRR, szRR, List.length_cons]; omega
theorem cnt_rowsB : ∀ es : List BlockL, cntRR (rowsB es) ≤ 3 * (es.length + szRR (rowsB es))
  | [] => by simp [rowsB, cntRR]
  | e :: es => by
    have h1 := cnt_rowB e
    have h2 := cnt_rowsB es
    simp only [rowsB, cntRR, szRR, List.length_cons]; omega
end
theorem cnt_steps (xs : List StepL) : cntD (encSteps xs) ≤ 3 * szD (encSteps xs) := by
  have := cnt_rowsS xs
  have hl : (rowsS xs).length = xs.length := by rw [rowsS_map]; simp
  simp only [encSteps, cntD, szD, hl]; exact this
theorem cnt_routs (xs : List RoutL) : cntD (encRouts xs) ≤ 3 * szD (encRouts xs) := cnt_arr 5 rowR xs (fun x _ => by
  have := cnt_ints x.params
  have := cnt_ints x.lent
  have := cnt_steps x.body.steps
  simp only [rowR, cntR, szR, cntD, szD]; omega)
end Go.Proofs.Ytbknmljfnjlieaa
