/- Typed data: integers, constructors, declarations, expressions, functions, steps, blocks, routines; how they lie in memory. -/
import Derived.Test.YthdjijhpdgajbaaDat2
import Derived.Test.YthdjijhpdgajbaaData
namespace Go.Proofs.Ythdjijhpdgajbaa
open Go.RowKit

def rowI (x : Int) : List Dat := [.num x]
def encInts (xs : List Int) : Dat := .arr 1 (xs.map rowI)
def rowC (f : List Int) : List Dat := [encInts f]
def encCons (cs : List (List Int)) : Dat := .arr 1 (cs.map rowC)
def rowD (d : DeclL) : List Dat := [.num d.from_, .num d.to_, encCons d.cons]
def encDecls (ds : List DeclL) : Dat := .arr 3 (ds.map rowD)

/-- An expression. -/
inductive ExprL where
  | mk (op num : Int) (kids : List ExprL)
def ExprL.op : ExprL → Int | .mk o _ _ => o
def ExprL.num : ExprL → Int | .mk _ n _ => n
def ExprL.kids : ExprL → List ExprL | .mk _ _ k => k
instance : Inhabited ExprL := ⟨.mk 0 0 []⟩
def eAt (es : List ExprL) (i : Nat) : ExprL := es.getD i default
mutual
def rowE : ExprL → List Dat
  | .mk op num ks => [.num op, .num num, .arr 3 (rowsE ks)]
def rowsE : List ExprL → List (List Dat)
  | [] => []
  | e :: es => rowE e :: rowsE es
end
def encExprs (es : List ExprL) : Dat := .arr 3 (rowsE es)
theorem rowsE_map (es : List ExprL) : rowsE es = es.map rowE := by induction es <;> simp_all [rowsE]
theorem rowE_eq (e : ExprL) : rowE e = [.num e.op, .num e.num, encExprs e.kids] := by cases e; rfl

structure FuncL where
  params : List Int
  result : Int
  body : ExprL
instance : Inhabited FuncL := ⟨⟨[], 0, default⟩⟩
def fAt (fs : List FuncL) (i : Nat) : FuncL := fs.getD i default
def rowF (f : FuncL) : List Dat := [encInts f.params, .num f.result, .num f.body.op, .num f.body.num, encExprs f.body.kids]
def encFuncs (fs : List FuncL) : Dat := .arr 5 (fs.map rowF)
structure ProgL where
  decls : List DeclL
  funcs : List FuncL

mutual
inductive StepL where
  | mk (op num into : Int) (args : List Int) (kids : List BlockL)
inductive BlockL where
  | mk (steps : List StepL) (result : Int)
end
def StepL.op : StepL → Int | .mk o _ _ _ _ => o
def StepL.num : StepL → Int | .mk _ o _ _ _ => o
def StepL.into : StepL → Int | .mk _ _ o _ _ => o
def StepL.args : StepL → List Int | .mk _ _ _ o _ => o
def StepL.kids : StepL → List BlockL | .mk _ _ _ _ o => o
def BlockL.steps : BlockL → List StepL | .mk s _ => s
def BlockL.result : BlockL → Int | .mk _ r => r
instance : Inhabited StepL := ⟨.mk 0 0 0 [] []⟩
instance : Inhabited BlockL := ⟨.mk [] 0⟩
def sAt (es : List StepL) (i : Nat) : StepL := es.getD i default
def bAt (es : List BlockL) (i : Nat) : BlockL := es.getD i default
mutual
def rowS : StepL → List Dat
  | .mk op num into args ks => [.num op, .num num, .num into, encInts args, .arr 2 (rowsB ks)]
def rowB : BlockL → List Dat
  | .mk ss r => [.arr 5 (rowsS ss), .num r]
def rowsS : List StepL → List (List Dat)
  | [] => []
  | e :: es => rowS e :: rowsS es
def rowsB : List BlockL → List (List Dat)
  | [] => []
  | e :: es => rowB e :: rowsB es
end
def encSteps (es : List StepL) : Dat := .arr 5 (rowsS es)
def encBlocks (es : List BlockL) : Dat := .arr 2 (rowsB es)
theorem rowsS_map (es : List StepL) : rowsS es = es.map rowS := by induction es <;> simp_all [rowsS]
theorem rowsB_map (es : List BlockL) : rowsB es = es.map rowB := by induction es <;> simp_all [rowsB]
theorem rowS_eq (e : StepL) : rowS e = [.num e.op, .num e.num, .num e.into, encInts e.args, encBlocks e.kids] := by cases e; rfl
theorem rowB_eq (e : BlockL) : rowB e = [encSteps e.steps, .num e.result] := by cases e; rfl

structure RoutL where
  params : List Int
  lent : List Int
  result : Int
  body : BlockL
instance : Inhabited RoutL := ⟨⟨[], [], 0, default⟩⟩
def rtAt (fs : List RoutL) (i : Nat) : RoutL := fs.getD i default
def rowR (f : RoutL) : List Dat := [encInts f.params, encInts f.lent, .num f.result, encSteps f.body.steps, .num f.body.result]
def encRouts (fs : List RoutL) : Dat := .arr 5 (fs.map rowR)
structure NormL where
  decls : List DeclL
  routs : List RoutL

/-- The signature of a function, with the parameters that are lent. -/
structure SigL where
  params : List Int
  lent : List Int
  result : Int
instance : Inhabited SigL := ⟨⟨[], [], 0⟩⟩
def sgAt (fs : List SigL) (i : Nat) : SigL := fs.getD i default
def rowG (f : SigL) : List Dat := [encInts f.params, encInts f.lent, .num f.result]
def encSigs (fs : List SigL) : Dat := .arr 3 (fs.map rowG)
def rowII (f : List Int) : List Dat := [encInts f]

theorem iAt_get {xs : List Int} {i : Nat} (h : i < xs.length) : iAt xs i = xs[i] := by simp [iAt, List.getD, h]
theorem cAt_get {xs : List (List Int)} {i : Nat} (h : i < xs.length) : cAt xs i = xs[i] := by simp [cAt, List.getD, h]
theorem dAt_get {xs : List DeclL} {i : Nat} (h : i < xs.length) : dAt xs i = xs[i] := by simp [dAt, List.getD, h]

theorem eAt_get {xs : List ExprL} {i : Nat} (h : i < xs.length) : eAt xs i = xs[i] := by simp [eAt, List.getD, h]
theorem fAt_get {xs : List FuncL} {i : Nat} (h : i < xs.length) : fAt xs i = xs[i] := by simp [fAt, List.getD, h]
theorem sAt_get {xs : List StepL} {i : Nat} (h : i < xs.length) : sAt xs i = xs[i] := by simp [sAt, List.getD, h]
theorem bAt_get {xs : List BlockL} {i : Nat} (h : i < xs.length) : bAt xs i = xs[i] := by simp [bAt, List.getD, h]
theorem rtAt_get {xs : List RoutL} {i : Nat} (h : i < xs.length) : rtAt xs i = xs[i] := by simp [rtAt, List.getD, h]
theorem sgAt_get {xs : List SigL} {i : Nat} (h : i < xs.length) : sgAt xs i = xs[i] := by simp [sgAt, List.getD, h]

section
variable {D : Nat → Prop} {w : World} {a : Option Addr} {n c : Nat}
theorem rows_at {s : Nat} {rows : List (List Dat)} (h : Rd w D (.arr s rows) (.slice a n c)) : rows.length = n ∧ n ≤ c ∧ n ≤ 9223372036854775807 ∧
    ∀ i, i < n → ∃ b o, a = some ⟨b, o, none⟩ ∧ D b ∧ ∀ j, j < s → ∃ u, w.cell? ⟨b, o + i * s + j, none⟩ = some u ∧ Rd w D (dGet (rGet rows i) j) u := by
  obtain ⟨a', c', e, h1, h2, h3⟩ := h.arr_inv
  injection e with e1 e2 e3
  subst e1 e2 e3
  refine ⟨rfl, h1, h2, fun i hi => ?_⟩
  obtain ⟨b, o, e, hd, hc⟩ := h3 (by omega)
  exact ⟨b, o, e, hd, fun j hj => (hc i hi).2 j hj⟩
theorem arr_slice {s : Nat} {rows : List (List Dat)} {v : Value} (h : Rd w D (.arr s rows) v) : ∃ a n c, v = .slice a n c ∧ n = rows.length ∧ n ≤ c := by
  obtain ⟨a', c', rfl, h1, _⟩ := h.arr_inv
  exact ⟨a', _, c', rfl, rfl, h1⟩

theorem ints_row (xs : List Int) (i : Nat) (h : i < xs.length) : rGet (xs.map rowI) i = [.num (iAt xs i)] := by rw [iAt_get h, rGet_map _ _ _ h]; rfl
theorem ints_len (xs : List Int) : (xs.map rowI).length = xs.length := by simp
theorem ints_at {xs : List Int} (h : Rd w D (encInts xs) (.slice a n c)) : xs.length = n ∧ n ≤ c ∧ n ≤ 9223372036854775807 ∧ ∀ i, i < n → ∃ b o, a = some ⟨b, o, none⟩ ∧ D b ∧
    w.cell? ⟨b, o + i, none⟩ = some (.int .i64 (iAt xs i)) := by
  obtain ⟨h1, h2, h3, h4⟩ := rows_at (s := 1) (rows := (xs.map rowI)) h
  rw [ints_len] at h1
  refine ⟨h1, h2, h3, fun i hi => ?_⟩
  obtain ⟨b, o, e, hd, hc⟩ := h4 i hi
  rw [ints_row xs i (by omega)] at hc
  obtain ⟨u0, d0, r0⟩ := hc 0 (by omega)
  rw [Nat.mul_one, Nat.add_zero] at d0
  obtain rfl := Rd.num_inv (z := iAt xs i) r0
  exact ⟨b, o, e, hd, d0⟩
theorem cons_row (xs : List (List Int)) (i : Nat) (h : i < xs.length) : rGet (xs.map rowC) i = [encInts (cAt xs i)] := by rw [cAt_get h, rGet_map _ _ _ h]; rfl
theorem cons_len (xs : List (List Int)) : (xs.map rowC).length = xs.length := by simp
theorem cons_at {xs : List (List Int)} (h : Rd w D (encCons xs) (.slice a n c)) : xs.length = n ∧ n ≤ c ∧ n ≤ 9223372036854775807 ∧ ∀ i, i < n → ∃ b o, a = some ⟨b, o, none⟩ ∧ D b ∧
    ∃ a0 n0 c0, w.cell? ⟨b, o + i, none⟩ = some (.slice a0 n0 c0) ∧ Rd w D (encInts (cAt xs i)) (.slice a0 n0 c0) := by
  obtain ⟨h1, h2, h3, h4⟩ := rows_at (s := 1) (rows := (xs.map rowC)) h
  rw [cons_len] at h1
  refine ⟨h1, h2, h3, fun i hi => ?_⟩
  obtain ⟨b, o, e, hd, hc⟩ := h4 i hi
  rw [cons_row xs i (by omega)] at hc
  obtain ⟨u0, d0, r0⟩ := hc 0 (by omega)
  rw [Nat.mul_one, Nat.add_zero] at d0
  obtain ⟨a0, n0, c0, rfl, _, _⟩ := arr_slice (rows := _) r0
  exact ⟨b, o, e, hd, a0, n0, c0, d0, r0⟩
theorem decls_row (xs : List DeclL) (i : Nat) (h : i < xs.length) : rGet (xs.map rowD) i = [.num ((dAt xs i).from_), .num ((dAt xs i).to_), encCons (dAt xs i).cons] := by rw [dAt_get h, rGet_map _ _ _ h]; rfl
theorem decls_len (xs : List DeclL) : (xs.map rowD).length = xs.length := by simp
theorem decls_at {xs : List DeclL} (h : Rd w D (encDecls xs) (.slice a n c)) : xs.length = n ∧ n ≤ c ∧ n ≤ 9223372036854775807 ∧ ∀ i, i < n → ∃ b o, a = some ⟨b, o, none⟩ ∧ D b ∧
    ∃ a2 n2 c2, w.cell? ⟨b, o + i * 3, none⟩ = some (.int .i64 ((dAt xs i).from_)) ∧ w.cell? ⟨b, o + i * 3 + 1, none⟩ = some (.int .i64 ((dAt xs i).to_)) ∧ w.cell? ⟨b, o + i * 3 + 2, none⟩ = some (.slice a2 n2 c2) ∧ Rd w D (encCons (dAt xs i).cons) (.slice a2 n2 c2) := by
  obtain ⟨h1, h2, h3, h4⟩ := rows_at (s := 3) (rows := (xs.map rowD)) h
  rw [decls_len] at h1
  refine ⟨h1, h2, h3, fun i hi => ?_⟩
  obtain ⟨b, o, e, hd, hc⟩ := h4 i hi
  rw [decls_row xs i (by omega)] at hc
  obtain ⟨u0, d0, r0⟩ := hc 0 (by omega)
  rw [Nat.add_zero] at d0
  obtain rfl := Rd.num_inv (z := (dAt xs i).from_) r0
  obtain ⟨u1, d1, r1⟩ := hc 1 (by omega)
  obtain rfl := Rd.num_inv (z := (dAt xs i).to_) r1
  obtain ⟨u2, d2, r2⟩ := hc 2 (by omega)
  obtain ⟨a2, n2, c2, rfl, _, _⟩ := arr_slice (rows := _) r2
  exact ⟨b, o, e, hd, a2, n2, c2, d0, d1, d2, r2⟩
theorem exprs_row (xs : List ExprL) (i : Nat) (h : i < xs.length) : rGet (rowsE xs) i = [.num ((eAt xs i).op), .num ((eAt xs i).num), encExprs (eAt xs i).kids] := by rw [eAt_get h, rowsE_map, rGet_map _ _ _ h, rowE_eq]
theorem exprs_len (xs : List ExprL) : (rowsE xs).length = xs.length := by rw [rowsE_map]; simp
theorem exprs_at {xs : List ExprL} (h : Rd w D (encExprs xs) (.slice a n c)) : xs.length = n ∧ n ≤ c ∧ n ≤ 9223372036854775807 ∧ ∀ i, i < n → ∃ b o, a = some ⟨b, o, none⟩ ∧ D b ∧
    ∃ a2 n2 c2, w.cell? ⟨b, o + i * 3, none⟩ = some (.int .i64 ((eAt xs i).op)) ∧ w.cell? ⟨b, o + i * 3 + 1, none⟩ = some (.int .i64 ((eAt xs i).num)) ∧ w.cell? ⟨b, o + i * 3 + 2, none⟩ = some (.slice a2 n2 c2) ∧ Rd w D (encExprs (eAt xs i).kids) (.slice a2 n2 c2) := by
  obtain ⟨h1, h2, h3, h4⟩ := rows_at (s := 3) (rows := (rowsE xs)) h
  rw [exprs_len] at h1
  refine ⟨h1, h2, h3, fun i hi => ?_⟩
  obtain ⟨b, o, e, hd, hc⟩ := h4 i hi
  rw [exprs_row xs i (by omega)] at hc
  obtain ⟨u0, d0, r0⟩ := hc 0 (by omega)
  rw [Nat.add_zero] at d0
  obtain rfl := Rd.num_inv (z := (eAt xs i).op) r0
  obtain ⟨u1, d1, r1⟩ := hc 1 (by omega)
  obtain rfl := Rd.num_inv (z := (eAt xs i).num) r1
  obtain ⟨u2, d2, r2⟩ := hc 2 (by omega)
  obtain ⟨a2, n2, c2, rfl, _, _⟩ := arr_slice (rows := _) r2
  exact ⟨b, o, e, hd, a2, n2, c2, d0, d1, d2, r2⟩
theorem funcs_row (xs : List FuncL) (i : Nat) (h : i < xs.length) : rGet (xs.map rowF) i = [encInts (fAt xs i).params, .num ((fAt xs i).result), .num ((fAt xs i).body.op), .num ((fAt xs i).body.num), encExprs (fAt xs i).body.kids] := by rw [fAt_get h, rGet_map _ _ _ h]; rfl
theorem funcs_len (xs : List FuncL) : (xs.map rowF).length = xs.length := by simp
theorem funcs_at {xs : List FuncL} (h : Rd w D (encFuncs xs) (.slice a n c)) : xs.length = n ∧ n ≤ c ∧ n ≤ 9223372036854775807 ∧ ∀ i, i < n → ∃ b o, a = some ⟨b, o, none⟩ ∧ D b ∧
    ∃ a0 n0 c0 a4 n4 c4, w.cell? ⟨b, o + i * 5, none⟩ = some (.slice a0 n0 c0) ∧ w.cell? ⟨b, o + i * 5 + 1, none⟩ = some (.int .i64 ((fAt xs i).result)) ∧ w.cell? ⟨b, o + i * 5 + 2, none⟩ = some (.int .i64 ((fAt xs i).body.op)) ∧ w.cell? ⟨b, o + i * 5 + 3, none⟩ = some (.int .i64 ((fAt xs i).body.num)) ∧ w.cell? ⟨b, o + i * 5 + 4, none⟩ = some (.slice a4 n4 c4) ∧ Rd w D (encInts (fAt xs i).params) (.slice a0 n0 c0) ∧ Rd w D (encExprs (fAt xs i).body.kids) (.slice a4 n4 c4) := by
  obtain ⟨h1, h2, h3, h4⟩ := rows_at (s := 5) (rows := (xs.map rowF)) h
  rw [funcs_len] at h1
  refine ⟨h1, h2, h3, fun i hi => ?_⟩
  obtain ⟨b, o, e, hd, hc⟩ := h4 i hi
  rw [funcs_row xs i (by omega)] at hc
  obtain ⟨u0, d0, r0⟩ := hc 0 (by omega)
  rw [Nat.add_zero] at d0
  obtain ⟨a0, n0, c0, rfl, _, _⟩ := arr_slice (rows := _) r0
  obtain ⟨u1, d1, r1⟩ := hc 1 (by omega)
  obtain rfl := Rd.num_inv (z := (fAt xs i).result) r1
  obtain ⟨u2, d2, r2⟩ := hc 2 (by omega)
  obtain rfl := Rd.num_inv (z := (fAt xs i).body.op) r2
  obtain ⟨u3, d3, r3⟩ := hc 3 (by omega)
  obtain rfl := Rd.num_inv (z := (fAt xs i).body.num) r3
  obtain ⟨u4, d4, r4⟩ := hc 4 (by omega)
  obtain ⟨a4, n4, c4, rfl, _, _⟩ := arr_slice (rows := _) r4
  exact ⟨b, o, e, hd, a0, n0, c0, a4, n4, c4, d0, d1, d2, d3, d4, r0, r4⟩
theorem steps_row (xs : List StepL) (i : Nat) (h : i < xs.length) : rGet (rowsS xs) i = [.num ((sAt xs i).op), .num ((sAt xs i).num), .num ((sAt xs i).into), encInts (sAt xs i).args, encBlocks (sAt xs i).kids] := by rw [sAt_get h, rowsS_map, rGet_map _ _ _ h, rowS_eq]
theorem steps_len (xs : List StepL) : (rowsS xs).length = xs.length := by rw [rowsS_map]; simp
theorem steps_at {xs : List StepL} (h : Rd w D (encSteps xs) (.slice a n c)) : xs.length = n ∧ n ≤ c ∧ n ≤ 9223372036854775807 ∧ ∀ i, i < n → ∃ b o, a = some ⟨b, o, none⟩ ∧ D b ∧
    ∃ a3 n3 c3 a4 n4 c4, w.cell? ⟨b, o + i * 5, none⟩ = some (.int .i64 ((sAt xs i).op)) ∧ w.cell? ⟨b, o + i * 5 + 1, none⟩ = some (.int .i64 ((sAt xs i).num)) ∧ w.cell? ⟨b, o + i * 5 + 2, none⟩ = some (.int .i64 ((sAt xs i).into)) ∧ w.cell? ⟨b, o + i * 5 + 3, none⟩ = some (.slice a3 n3 c3) ∧ w.cell? ⟨b, o + i * 5 + 4, none⟩ = some (.slice a4 n4 c4) ∧ Rd w D (encInts (sAt xs i).args) (.slice a3 n3 c3) ∧ Rd w D (encBlocks (sAt xs i).kids) (.slice a4 n4 c4) := by
  obtain ⟨h1, h2, h3, h4⟩ := rows_at (s := 5) (rows := (rowsS xs)) h
  rw [steps_len] at h1
  refine ⟨h1, h2, h3, fun i hi => ?_⟩
  obtain ⟨b, o, e, hd, hc⟩ := h4 i hi
  rw [steps_row xs i (by omega)] at hc
  obtain ⟨u0, d0, r0⟩ := hc 0 (by omega)
  rw [Nat.add_zero] at d0
  obtain rfl := Rd.num_inv (z := (sAt xs i).op) r0
  obtain ⟨u1, d1, r1⟩ := hc 1 (by omega)
  obtain rfl := Rd.num_inv (z := (sAt xs i).num) r1
  obtain ⟨u2, d2, r2⟩ := hc 2 (by omega)
  obtain rfl := Rd.num_inv (z := (sAt xs i).into) r2
  obtain ⟨u3, d3, r3⟩ := hc 3 (by omega)
  obtain ⟨a3, n3, c3, rfl, _, _⟩ := arr_slice (rows := _) r3
  obtain ⟨u4, d4, r4⟩ := hc 4 (by omega)
  obtain ⟨a4, n4, c4, rfl, _, _⟩ := arr_slice (rows := _) r4
  exact ⟨b, o, e, hd, a3, n3, c3, a4, n4, c4, d0, d1, d2, d3, d4, r3, r4⟩
theorem blocks_row (xs : List BlockL) (i : Nat) (h : i < xs.length) : rGet (rowsB xs) i = [encSteps (bAt xs i).steps, .num ((bAt xs i).result)] := by rw [bAt_get h, rowsB_map, rGet_map _ _ _ h, rowB_eq]
theorem blocks_len (xs : List BlockL) : (rowsB xs).length = xs.length := by rw [rowsB_map]; simp
theorem blocks_at {xs : List BlockL} (h : Rd w D (encBlocks xs) (.slice a n c)) : xs.length = n ∧ n ≤ c ∧ n ≤ 9223372036854775807 ∧ ∀ i, i < n → ∃ b o, a = some ⟨b, o, none⟩ ∧ D b ∧
    ∃ a0 n0 c0, w.cell? ⟨b, o + i * 2, none⟩ = some (.slice a0 n0 c0) ∧ w.cell? ⟨b, o + i * 2 + 1, none⟩ = some (.int .i64 ((bAt xs i).result)) ∧ Rd w D (encSteps (bAt xs i).steps) (.slice a0 n0 c0) := by
  obtain ⟨h1, h2, h3, h4⟩ := rows_at (s := 2) (rows := (rowsB xs)) h
  rw [blocks_len] at h1
  refine ⟨h1, h2, h3, fun i hi => ?_⟩
  obtain ⟨b, o, e, hd, hc⟩ := h4 i hi
  rw [blocks_row xs i (by omega)] at hc
  obtain ⟨u0, d0, r0⟩ := hc 0 (by omega)
  rw [Nat.add_zero] at d0
  obtain ⟨a0, n0, c0, rfl, _, _⟩ := arr_slice (rows := _) r0
  obtain ⟨u1, d1, r1⟩ := hc 1 (by omega)
  obtain rfl := Rd.num_inv (z := (bAt xs i).result) r1
  exact ⟨b, o, e, hd, a0, n0, c0, d0, d1, r0⟩
theorem routs_row (xs : List RoutL) (i : Nat) (h : i < xs.length) : rGet (xs.map rowR) i = [encInts (rtAt xs i).params, encInts (rtAt xs i).lent, .num ((rtAt xs i).result), encSteps (rtAt xs i).body.steps, .num ((rtAt xs i).body.result)] := by rw [rtAt_get h, rGet_map _ _ _ h]; rfl
theorem routs_len (xs : List RoutL) : (xs.map rowR).length = xs.length := by simp
theorem routs_at {xs : List RoutL} (h : Rd w D (encRouts xs) (.slice a n c)) : xs.length = n ∧ n ≤ c ∧ n ≤ 9223372036854775807 ∧ ∀ i, i < n → ∃ b o, a = some ⟨b, o, none⟩ ∧ D b ∧
    ∃ a0 n0 c0 a1 n1 c1 a3 n3 c3, w.cell? ⟨b, o + i * 5, none⟩ = some (.slice a0 n0 c0) ∧ w.cell? ⟨b, o + i * 5 + 1, none⟩ = some (.slice a1 n1 c1) ∧ w.cell? ⟨b, o + i * 5 + 2, none⟩ = some (.int .i64 ((rtAt xs i).result)) ∧ w.cell? ⟨b, o + i * 5 + 3, none⟩ = some (.slice a3 n3 c3) ∧ w.cell? ⟨b, o + i * 5 + 4, none⟩ = some (.int .i64 ((rtAt xs i).body.result)) ∧ Rd w D (encInts (rtAt xs i).params) (.slice a0 n0 c0) ∧ Rd w D (encInts (rtAt xs i).lent) (.slice a1 n1 c1) ∧ Rd w D (encSteps (rtAt xs i).body.steps) (.slice a3 n3 c3) := by
  obtain ⟨h1, h2, h3, h4⟩ := rows_at (s := 5) (rows := (xs.map rowR)) h
  rw [routs_len] at h1
  refine ⟨h1, h2, h3, fun i hi => ?_⟩
  obtain ⟨b, o, e, hd, hc⟩ := h4 i hi
  rw [routs_row xs i (by omega)] at hc
  obtain ⟨u0, d0, r0⟩ := hc 0 (by omega)
  rw [Nat.add_zero] at d0
  obtain ⟨a0, n0, c0, rfl, _, _⟩ := arr_slice (rows := _) r0
  obtain ⟨u1, d1, r1⟩ := hc 1 (by omega)
  obtain ⟨a1, n1, c1, rfl, _, _⟩ := arr_slice (rows := _) r1
  obtain ⟨u2, d2, r2⟩ := hc 2 (by omega)
  obtain rfl := Rd.num_inv (z := (rtAt xs i).result) r2
  obtain ⟨u3, d3, r3⟩ := hc 3 (by omega)
  obtain ⟨a3, n3, c3, rfl, _, _⟩ := arr_slice (rows := _) r3
  obtain ⟨u4, d4, r4⟩ := hc 4 (by omega)
  obtain rfl := Rd.num_inv (z := (rtAt xs i).body.result) r4
  exact ⟨b, o, e, hd, a0, n0, c0, a1, n1, c1, a3, n3, c3, d0, d1, d2, d3, d4, r0, r1, r3⟩
theorem sigs_row (xs : List SigL) (i : Nat) (h : i < xs.length) : rGet (xs.map rowG) i = [encInts (sgAt xs i).params, encInts (sgAt xs i).lent, .num ((sgAt xs i).result)] := by rw [sgAt_get h, rGet_map _ _ _ h]; rfl
theorem sigs_len (xs : List SigL) : (xs.map rowG).length = xs.length := by simp
theorem sigs_at {xs : List SigL} (h : Rd w D (encSigs xs) (.slice a n c)) : xs.length = n ∧ n ≤ c ∧ n ≤ 9223372036854775807 ∧ ∀ i, i < n → ∃ b o, a = some ⟨b, o, none⟩ ∧ D b ∧
    ∃ a0 n0 c0 a1 n1 c1, w.cell? ⟨b, o + i * 3, none⟩ = some (.slice a0 n0 c0) ∧ w.cell? ⟨b, o + i * 3 + 1, none⟩ = some (.slice a1 n1 c1) ∧ w.cell? ⟨b, o + i * 3 + 2, none⟩ = some (.int .i64 ((sgAt xs i).result)) ∧ Rd w D (encInts (sgAt xs i).params) (.slice a0 n0 c0) ∧ Rd w D (encInts (sgAt xs i).lent) (.slice a1 n1 c1) := by
  obtain ⟨h1, h2, h3, h4⟩ := rows_at (s := 3) (rows := (xs.map rowG)) h
  rw [sigs_len] at h1
  refine ⟨h1, h2, h3, fun i hi => ?_⟩
  obtain ⟨b, o, e, hd, hc⟩ := h4 i hi
  rw [sigs_row xs i (by omega)] at hc
  obtain ⟨u0, d0, r0⟩ := hc 0 (by omega)
  rw [Nat.add_zero] at d0
  obtain ⟨a0, n0, c0, rfl, _, _⟩ := arr_slice (rows := _) r0
  obtain ⟨u1, d1, r1⟩ := hc 1 (by omega)
  obtain ⟨a1, n1, c1, rfl, _, _⟩ := arr_slice (rows := _) r1
  obtain ⟨u2, d2, r2⟩ := hc 2 (by omega)
  obtain rfl := Rd.num_inv (z := (sgAt xs i).result) r2
  exact ⟨b, o, e, hd, a0, n0, c0, a1, n1, c1, d0, d1, d2, r0, r1⟩
end

section
variable {D : Nat → Prop} {w : World} {a : Option Addr} {n c : Nat}
theorem Rd.toInts {xs : List Int} (h : Rd w D (encInts xs) (.slice a n c)) : IntsL w D a n xs := by
  obtain ⟨h1, _, _, h4⟩ := ints_at h
  refine ⟨h1, fun hn => ?_⟩
  obtain ⟨b, o, e, hd, _⟩ := h4 0 hn
  subst e
  refine ⟨b, o, rfl, hd, fun i hi => ?_⟩
  obtain ⟨b', o', e, _, hc⟩ := h4 i hi
  injection e with e
  injection e with e1 e2
  subst e1 e2
  exact hc
theorem IntsL.toRd {xs : List Int} (h : IntsL w D a n xs) (hc : n ≤ c) (hm : n ≤ 9223372036854775807) : Rd w D (encInts xs) (.slice a n c) := by
  obtain ⟨h1, h2⟩ := h
  subst h1
  rcases Nat.eq_zero_or_pos xs.length with h0 | h0
  · have : xs = [] := List.eq_nil_of_length_eq_zero h0
    subst this
    exact .nil 1 a c
  · obtain ⟨b, o, rfl, hd, hcell⟩ := h2 h0
    have q := Rd.arr (w := w) (D := D) 1 (xs.map rowI) b o c (fun i _ => .int .i64 (iAt xs i)) hd (by simpa using h0) (by omega) (by simpa using hc) (by simpa using hm)
      (fun i hi => by rw [ints_row xs i (by simpa using hi)]; rfl) (fun i j hi hj => by
        obtain rfl : j = 0 := by omega
        rw [Nat.mul_one, Nat.add_zero]; exact hcell i (by simpa using hi))
      (fun i j hi hj => by
        obtain rfl : j = 0 := by omega
        rw [rAt, ints_row xs i (by simpa using hi)]; exact .num _)
    rw [ints_len] at q
    exact q
theorem Rd.toCons {xs : List (List Int)} (h : Rd w D (encCons xs) (.slice a n c)) : ConsR w D a n xs := by
  obtain ⟨h1, _, _, h4⟩ := cons_at h
  refine ⟨h1, fun hn => ?_⟩
  obtain ⟨b, o, e, hd, _⟩ := h4 0 hn
  subst e
  refine ⟨b, o, rfl, hd, fun i hi => ?_⟩
  obtain ⟨b', o', e, _, a2, n2, c2, hc, hr⟩ := h4 i hi
  injection e with e
  injection e with e1 e2
  subst e1 e2
  exact ⟨a2, n2, c2, hc, (ints_at hr).2.1, hr.toInts⟩
theorem Rd.toDecls {xs : List DeclL} (h : Rd w D (encDecls xs) (.slice a n c)) : DeclsR w D a n xs := by
  obtain ⟨h1, _, _, h4⟩ := decls_at h
  refine ⟨h1, fun hn => ?_⟩
  obtain ⟨b, o, e, hd, _⟩ := h4 0 hn
  subst e
  refine ⟨b, o, rfl, hd, fun i hi => ?_⟩
  obtain ⟨b', o', e, _, a2, n2, c2, hc0, hc1, hc, hr⟩ := h4 i hi
  injection e with e
  injection e with e1 e2
  subst e1 e2
  exact ⟨hc0, hc1, a2, n2, c2, hc, (cons_at hr).2.1, hr.toCons⟩
end
end Go.Proofs.Ythdjijhpdgajbaa
