/- Typed data: integers, constructors, declarations, expressions, functions, steps, blocks, routines; how they lie in memory. -/
import Derived.Test.YtkapldpmjkdmcaaGreatRAB
import Derived.Deep.OwnRows
namespace Go.Proofs.YtkapldpmjkdmcaaGreat
open Go.RowKit

def rowI (x : Int) : List Dat := [.num x]
def encInts (xs : List Int) : Dat := .arr 1 (xs.map rowI)
def rowC (f : List Int) : List Dat := [encInts f]
def encCons (cs : List (List Int)) : Dat := .arr 1 (cs.map rowC)
def rowD (d : DeclL) : List Dat := [.num d.from_, .num d.to_, encCons d.cons]
def encDecls (ds : List DeclL) : Dat := .arr 3 (ds.map rowD)

/-- An expression. -/
inductive ExprL where
  | mk (op num : Int) (kids : List ExprL)
def ExprL.op : ExprL → Int | .mk o _ _ => o
def ExprL.num : ExprL → Int | .mk _ n _ => n
def ExprL.kids : ExprL → List ExprL | .mk _ _ k => k
instance : Inhabited ExprL := ⟨.mk 0 0 []⟩
def eAt (es : List ExprL) (i : Nat) : ExprL := es.getD i default
mutual
def rowE : ExprL → List Dat
  | .mk op num ks => [.num op, .num num, .arr 3 (rowsE ks)]
def rowsE : List ExprL → List (List Dat)
  | [] => []
  | e :: es => rowE e :: rowsE es
end
def encExprs (es : List ExprL) : Dat := .arr 3 (rowsE es)
theorem rowsE_map (es : List ExprL) : rowsE es = es.map rowE := by induction es <;> simp_all [rowsE]
theorem rowE_eq (e : ExprL) : rowE e = [.num e.op, .num e.num, encExprs e.kids] := by cases e; rfl

structure FuncL where
  params : List Int
  result : Int
  body : ExprL
instance : Inhabited FuncL := ⟨⟨[], 0, default⟩⟩
def fAt (fs : List FuncL) (i : Nat) : FuncL := fs.getD i default
def rowF (f : FuncL) : List Dat := [encInts f.params, .num f.result, .num f.body.op, .num f.body.num, encExprs f.body.kids]
def encFuncs (fs : List FuncL) : Dat := .arr 5 (fs.map rowF)
structure ProgL where
  decls : List DeclL
  funcs : List FuncL

mutual
inductive StepL where
  | mk (op num into : Int) (args : List Int) (kids : List BlockL)
inductive BlockL where
  | mk (steps : List StepL) (result : Int)
end
def StepL.op : StepL → Int | .mk o _ _ _ _ => o
def StepL.num : StepL → Int | .mk _ o _ _ _ => o
def StepL.into : StepL → Int | .mk _ _ o _ _ => o
def StepL.args : StepL → List Int | .mk _ _ _ o _ => o
def StepL.kids : StepL → List BlockL | .mk _ _ _ _ o => o
def BlockL.steps : BlockL → List StepL | .mk s _ => s
def BlockL.result : BlockL → Int | .mk _ r => r
instance : Inhabited StepL := ⟨.mk 0 0 0 [] []⟩
instance : Inhabited BlockL := ⟨.mk [] 0⟩
def sAt (es : List StepL) (i : Nat) : StepL := es.getD i default
def bAt (es : List BlockL) (i : Nat) : BlockL := es.getD i default
mutual
def rowS : StepL → List Dat
  | .mk op num into args ks => [.num op, .num num, .num into, encInts args, .arr 2 (rowsB ks)]
def rowB : BlockL → List Dat
  | .mk ss r => [.arr 5 (rowsS ss), .num r]
def rowsS : List StepL → List (List Dat)
  | [] => []
  | e :: es => rowS e :: rowsS es
def rowsB : List BlockL → List (List Dat)
  | [] => []
  | e :: es => rowB e :: rowsB es
end
def encSteps (es : List StepL) : Dat := .arr 5 (rowsS es)
def encBlocks (es : List BlockL) : Dat := .arr 2 (rowsB es)
structure RoutL where
  params : List Int
  lent : List Int
  result : Int
  body : BlockL
instance : Inhabited RoutL := ⟨⟨[], [], 0, default⟩⟩
def rtAt (fs : List RoutL) (i : Nat) : RoutL := fs.getD i default
def rowR (f : RoutL) : List Dat := [encInts f.params, encInts f.lent, .num f.result, encSteps f.body.steps, .num f.body.result]
def encRouts (fs : List RoutL) : Dat := .arr 5 (fs.map rowR)
structure NormL where
  decls : List DeclL
  routs : List RoutL

/-- The signature of a function, with the parameters that are lent. -/
structure SigL where
  params : List Int
  lent : List Int
  result : Int
instance : Inhabited SigL := ⟨⟨[], [], 0⟩⟩
def sgAt (fs : List SigL) (i : Nat) : SigL := fs.getD i default
def rowG (f : SigL) : List Dat := [encInts f.params, encInts f.lent, .num f.result]
def encSigs (fs : List SigL) : Dat := .arr 3 (fs.map rowG)
def rowII (f : List Int) : List Dat := [encInts f]

theorem iAt_get {xs : List Int} {i : Nat} (h : i < xs.length) : iAt xs i = xs[i] := by simp [iAt, List.getD, h]
theorem cAt_get {xs : List (List Int)} {i : Nat} (h : i < xs.length) : cAt xs i = xs[i] := by simp [cAt, List.getD, h]
theorem dAt_get {xs : List DeclL} {i : Nat} (h : i < xs.length) : dAt xs i = xs[i] := by simp [dAt, List.getD, h]

theorem eAt_get {xs : List ExprL} {i : Nat} (h : i < xs.length) : eAt xs i = xs[i] := by simp [eAt, List.getD, h]
theorem fAt_get {xs : List FuncL} {i : Nat} (h : i < xs.length) : fAt xs i = xs[i] := by simp [fAt, List.getD, h]
theorem sgAt_get {xs : List SigL} {i : Nat} (h : i < xs.length) : sgAt xs i = xs[i] := by simp [sgAt, List.getD, h]

section
variable {D : Nat → Prop} {w : World} {a : Option Addr} {n c : Nat}
theorem rows_at {s : Nat} {rows : List (List Dat)} (h : Rd w D (.arr s rows) (.slice a n c)) : rows.length = n ∧ n ≤ c ∧ n ≤ 9223372036854775807 ∧
    ∀ i, i < n → ∃ b o, a = some ⟨b, o, none⟩ ∧ D b ∧ ∀ j, j < s → ∃ u, w.cell? ⟨b, o + i * s + j, none⟩ = some u ∧ Rd w D (dGet (rGet rows i) j) u := by
  obtain ⟨a', c', e, h1, h2, h3⟩ := h.arr_inv
  injection e with e1 e2 e3
  subst e1 e2 e3
  refine ⟨rfl, h1, h2, fun i hi => ?_⟩
  obtain ⟨b, o, e, hd, hc⟩ := h3 (by omega)
  exact ⟨b, o, e, hd, fun j hj => (hc i hi).2 j hj⟩
theorem arr_slice {s : Nat} {rows : List (List Dat)} {v : Value} (h : Rd w D (.arr s rows) v) : ∃ a n c, v = .slice a n c ∧ n = rows.length ∧ n ≤ c := by
  obtain ⟨a', c', rfl, h1, _⟩ := h.arr_inv
  exact ⟨a', _, c', rfl, rfl, h1⟩

theorem ints_row (xs : List Int) (i : Nat) (h : i < xs.length) : rGet (xs.map rowI) i = [.num (iAt xs i)] := by rw [iAt_get h, rGet_map _ _ _ h]; rfl
theorem ints_len (xs : List Int) : (xs.map rowI).length = xs.length := by simp
theorem ints_at {xs : List Int} (h : Rd w D (encInts xs) (.slice a n c)) : xs.length = n ∧ n ≤ c ∧ n ≤ 9223372036854775807 ∧ ∀ i, i < n → ∃ b o, a = some ⟨b, o, none⟩ ∧ D b ∧
    w.cell? ⟨b, o + i, none⟩ = some (.int .i64 (iAt xs i)) := by
  obtain ⟨h1, h2, h3, h4⟩ := rows_at (s := 1) (rows := (xs.map rowI)) h
  rw [ints_len] at h1
  refine ⟨h1, h2, h3, fun i hi => ?_⟩
  obtain ⟨b, o, e, hd, hc⟩ := h4 i hi
  rw [ints_row xs i (by omega)] at hc
  obtain ⟨u0, d0, r0⟩ := hc 0 (by omega)
  rw [Nat.mul_one, Nat.add_zero] at d0
  obtain rfl := Rd.num_inv (z := iAt xs i) r0
  exact ⟨b, o, e, hd, d0⟩
theorem cons_row (xs : List (List Int)) (i : Nat) (h : i < xs.length) : rGet (xs.map rowC) i = [encInts (cAt xs i)] := by rw [cAt_get h, rGet_map _ _ _ h]; rfl
theorem cons_len (xs : List (List Int)) : (xs.map rowC).length = xs.length := by simp
theorem cons_at {xs : List (List Int)} (h : Rd w D (encCons xs) (.slice a n c)) : xs.length = n ∧ n ≤ c ∧ n ≤ 9223372036854775807 ∧ ∀ i, i < n → ∃ b o, a = some ⟨b, o, none⟩ ∧ D b ∧
    ∃ a0 n0 c0, w.cell? ⟨b, o + i, none⟩ = some (.slice a0 n0 c0) ∧ Rd w D (encInts (cAt xs i)) (.slice a0 n0 c0) := by
  obtain ⟨h1, h2, h3, h4⟩ := rows_at (s := 1) (rows := (xs.map rowC)) h
  rw [cons_len] at h1
  refine ⟨h1, h2, h3, fun i hi => ?_⟩
  obtain ⟨b, o, e, hd, hc⟩ := h4 i hi
  rw [cons_row xs i (by omega)] at hc
  obtain ⟨u0, d0, r0⟩ := hc 0 (by omega)
  rw [Nat.mul_one, Nat.add_zero] at d0
  obtain ⟨a0, n0, c0, rfl, _, _⟩ := arr_slice (rows := _) r0
  exact ⟨b, o, e, hd, a0, n0, c0, d0, r0⟩
theorem decls_row (xs : List DeclL) (i : Nat) (h : i < xs.length) : rGet (xs.map rowD) i = [.num ((dAt xs i).from_), .num ((dAt xs i).to_), encCons (dAt xs i).cons] := by rw [dAt_get h, rGet_map _ _ _ h]; rfl
theorem decls_len (xs : List DeclL) : (xs.map rowD).length = xs.length := by simp
theorem decls_at {xs : List DeclL} (h : Rd w D (encDecls xs) (.slice a n c)) : xs.length = n ∧ n ≤ c ∧ n ≤ 9223372036854775807 ∧ ∀ i, i < n → ∃ b o, a = some ⟨b, o, none⟩ ∧ D b ∧
    ∃ a2 n2 c2, w.cell? ⟨b, o + i * 3, none⟩ = some (.int .i64 ((dAt xs i).from_)) ∧ w.cell? ⟨b, o + i * 3 + 1, none⟩ = some (.int .i64 ((dAt xs i).to_)) ∧ w.cell? ⟨b, o + i * 3 + 2, none⟩ = some (.slice a2 n2 c2) ∧ Rd w D (encCons (dAt xs i).cons) (.slice a2 n2 c2) := by
  obtain ⟨h1, h2, h3, h4⟩ := rows_at (s := 3) (rows := (xs.map rowD)) h
  rw [decls_len] at h1
  refine ⟨h1, h2, h3, fun i hi => ?_⟩
  obtain ⟨b, o, e, hd, hc⟩ := h4 i hi
  rw [decls_row xs i (by omega)] at hc
  obtain ⟨u0, d0, r0⟩ := hc 0 (by omega)
  rw [Nat.add_zero] at d0
  obtain rfl := Rd.num_inv (z := (dAt xs i).from_) r0
  obtain ⟨u1, d1, r1⟩ := hc 1 (by omega)
  obtain rfl := Rd.num_inv (z := (dAt xs i).to_) r1
  obtain ⟨u2, d2, r2⟩ := hc 2 (by omega)
  obtain ⟨a2, n2, c2, rfl, _, _⟩ := arr_slice (rows := _) r2
  exact ⟨b, o, e, hd, a2, n2, c2, d0, d1, d2, r2⟩
theorem exprs_row (xs : List ExprL) (i : Nat) (h : i < xs.length) : rGet (rowsE xs) i = [.num ((eAt xs i).op), .num ((eAt xs i).num), encExprs (eAt xs i).kids] := by rw [eAt_get h, rowsE_map, rGet_map _ _ _ h, rowE_eq]
theorem exprs_len (xs : List ExprL) : (rowsE xs).length = xs.length := by rw [rowsE_map]; simp
theorem exprs_at {xs : List ExprL} (h : Rd w D (encExprs xs) (.slice a n c)) : xs.length = n ∧ n ≤ c ∧ n ≤ 9223372036854775807 ∧ ∀ i, i < n → ∃ b o, a = some ⟨b, o, none⟩ ∧ D b ∧
    ∃ a2 n2 c2, w.cell? ⟨b, o + i * 3, none⟩ = some (.int .i64 ((eAt xs i).op)) ∧ w.cell? ⟨b, o + i * 3 + 1, none⟩ = some (.int .i64 ((eAt xs i).num)) ∧ w.cell? ⟨b, o + i * 3 + 2, none⟩ = some (.slice a2 n2 c2) ∧ Rd w D (encExprs (eAt xs i).kids) (.slice a2 n2 c2) := by
  obtain ⟨h1, h2, h3, h4⟩ := rows_at (s := 3) (rows := (rowsE xs)) h
  rw [exprs_len] at h1
  refine ⟨h1, h2, h3, fun i hi => ?_⟩
  obtain ⟨b, o, e, hd, hc⟩ := h4 i hi
  rw [exprs_row xs i (by omega)] at hc
  obtain ⟨u0, d0, r0⟩ := hc 0 (by omega)
  rw [Nat.add_zero] at d0
  obtain rfl := Rd.num_inv (z := (eAt xs i).op) r0
  obtain ⟨u1, d1, r1⟩ := hc 1 (by omega)
  obtain rfl := Rd.num_inv (z := (eAt xs i).num) r1
  obtain ⟨u2, d2, r2⟩ := hc 2 (by omega)
  obtain ⟨a2, n2, c2, rfl, _, _⟩ := arr_slice (rows := _) r2
  exact ⟨b, o, e, hd, a2, n2, c2, d0, d1, d2, r2⟩
theorem funcs_row (xs : List FuncL) (i : Nat) (h : i < xs.length) : rGet (xs.map rowF) i = [encInts (fAt xs i).params, .num ((fAt xs i).result), .num ((fAt xs i).body.op), .num ((fAt xs i).body.num), encExprs (fAt xs i).body.kids] := by rw [fAt_get h, rGet_map _ _ _ h]; rfl
theorem funcs_len (xs : List FuncL) : (xs.map rowF).length = xs.length := by simp
theorem funcs_at {xs : List FuncL} (h : Rd w D (encFuncs xs) (.slice a n c)) : xs.length = n ∧ n ≤ c ∧ n ≤ 9223372036854775807 ∧ ∀ i, i < n → ∃ b o, a = some ⟨b, o, none⟩ ∧ D b ∧
    ∃ a0 n0 c0 a4 n4 c4, w.cell? ⟨b, o + i * 5, none⟩ = some (.slice a0 n0 c0) ∧ w.cell? ⟨b, o + i * 5 + 1, none⟩ = some (.int .i64 ((fAt xs i).result)) ∧ w.cell? ⟨b, o + i * 5 + 2, none⟩ = some (.int .i64 ((fAt xs i).body.op)) ∧ w.cell? ⟨b, o + i * 5 + 3, none⟩ = some (.int .i64 ((fAt xs i).body.num)) ∧ w.cell? ⟨b, o + i * 5 + 4, none⟩ = some (.slice a4 n4 c4) ∧ Rd w D (encInts (fAt xs i).params) (.slice a0 n0 c0) ∧ Rd w D (encExprs (fAt xs i).body.kids) (.slice a4 n4 c4) := by
  obtain ⟨h1, h2, h3, h4⟩ := rows_at (s := 5) (rows := (xs.map rowF)) h
  rw [funcs_len] at h1
  refine ⟨h1, h2, h3, fun i hi => ?_⟩
  obtain ⟨b, o, e, hd, hc⟩ := h4 i hi
  rw [funcs_row xs i (by omega)] at hc
  obtain ⟨u0, d0, r0⟩ := hc 0 (by omega)
  rw [Nat.add_zero] at d0
  obtain ⟨a0, n0, c0, rfl, _, _⟩ := arr_slice (rows := _) r0
  obtain ⟨u1, d1, r1⟩ := hc 1 (by omega)
  obtain rfl := Rd.num_inv (z := (fAt xs i).result) r1
  obtain ⟨u2, d2, r2⟩ := hc 2 (by omega)
  obtain rfl := Rd.num_inv (z := (fAt xs i).body.op) r2
  obtain ⟨u3, d3, r3⟩ := hc 3 (by omega)
  obtain rfl := Rd.num_inv (z := (fAt xs i).body.num) r3
  obtain ⟨u4, d4, r4⟩ := hc 4 (by omega)
  obtain ⟨a4, n4, c4, rfl, _, _⟩ := arr_slice (rows := _) r4
  exact ⟨b, o, e, hd, a0, n0, c0, a4, n4, c4, d0, d1, d2, d3, d4, r0, r4⟩
theorem sigs_row (xs : List SigL) (i : Nat) (h : i < xs.length) : rGet (xs.map rowG) i = [encInts (sgAt xs i).params, encInts (sgAt xs i).lent, .num ((sgAt xs i).result)] := by rw [sgAt_get h, rGet_map _ _ _ h]; rfl
theorem sigs_len (xs : List SigL) : (xs.map rowG).length = xs.length := by simp
theorem sigs_at {xs : List SigL} (h : Rd w D (encSigs xs) (.slice a n c)) : xs.length = n ∧ n ≤ c ∧ n ≤ 9223372036854775807 ∧ ∀ i, i < n → ∃ b o, a = some ⟨b, o, none⟩ ∧ D b ∧
    ∃ a0 n0 c0 a1 n1 c1, w.cell? ⟨b, o + i * 3, none⟩ = some (.slice a0 n0 c0) ∧ w.cell? ⟨b, o + i * 3 + 1, none⟩ = some (.slice a1 n1 c1) ∧ w.cell? ⟨b, o + i * 3 + 2, none⟩ = some (.int .i64 ((sgAt xs i).result)) ∧ Rd w D (encInts (sgAt xs i).params) (.slice a0 n0 c0) ∧ Rd w D (encInts (sgAt xs i).lent) (.slice a1 n1 c1) := by
  obtain ⟨h1, h2, h3, h4⟩ := rows_at (s := 3) (rows := (xs.map rowG)) h
  rw [sigs_len] at h1
  refine ⟨h1, h2, h3, fun i hi => ?_⟩
  obtain ⟨b, o, e, hd, hc⟩ := h4 i hi
  rw [sigs_row xs i (by omega)] at hc
  obtain ⟨u0, d0, r0⟩ := hc 0 (by omega)
  rw [Nat.add_zero] at d0
  obtain ⟨a0, n0, c0, rfl, _, _⟩ := arr_slice (rows := _) r0
  obtain ⟨u1, d1, r1⟩ := hc 1 (by omega)
  obtain ⟨a1, n1, c1, rfl, _, _⟩ := arr_slice (rows := _) r1
  obtain ⟨u2, d2, r2⟩ := hc 2 (by omega)
  obtain rfl := Rd.num_inv (z := (sgAt xs i).result) r2
  exact ⟨b, o, e, hd, a0, n0, c0, a1, n1, c1, d0, d1, d2, r0, r1⟩
end

section
variable {D : Nat → Prop} {w : World} {a : Option Addr} {n c : Nat}
theorem Rd.toInts {xs : List Int} (h : Rd w D (encInts xs) (.slice a n c)) : IntsL w D a n xs := by
  obtain ⟨h1, _, _, h4⟩ := ints_at h
  refine ⟨h1, fun hn => ?_⟩
  obtain ⟨b, o, e, hd, _⟩ := h4 0 hn
  subst e
  refine ⟨b, o, rfl, hd, fun i hi => ?_⟩
  obtain ⟨b', o', e, _, hc⟩ := h4 i hi
  injection e with e
  injection e with e1 e2
  subst e1 e2
  exact hc
theorem IntsL.toRd {xs : List Int} (h : IntsL w D a n xs) (hc : n ≤ c) (hm : n ≤ 9223372036854775807) : Rd w D (encInts xs) (.slice a n c) := by
  obtain ⟨h1, h2⟩ := h
  subst h1
  rcases Nat.eq_zero_or_pos xs.length with h0 | h0
  · have : xs = [] := List.eq_nil_of_length_eq_zero h0
    subst this
    exact .nil 1 a c
  · obtain ⟨b, o, rfl, hd, hcell⟩ := h2 h0
    have q := Rd.arr (w := w) (D := D) 1 (xs.map rowI) b o c (fun i _ => .int .i64 (iAt xs i)) hd (by simpa using h0) (by omega) (by simpa using hc) (by simpa using hm)
      (fun i hi => by rw [ints_row xs i (by simpa using hi)]; rfl) (fun i j hi hj => by
        obtain rfl : j = 0 := by omega
        rw [Nat.mul_one, Nat.add_zero]; exact hcell i (by simpa using hi))
      (fun i j hi hj => by
        obtain rfl : j = 0 := by omega
        rw [rAt, ints_row xs i (by simpa using hi)]; exact .num _)
    rw [ints_len] at q
    exact q
theorem Rd.toCons {xs : List (List Int)} (h : Rd w D (encCons xs) (.slice a n c)) : ConsR w D a n xs := by
  obtain ⟨h1, _, _, h4⟩ := cons_at h
  refine ⟨h1, fun hn => ?_⟩
  obtain ⟨b, o, e, hd, _⟩ := h4 0 hn
  subst e
  refine ⟨b, o, rfl, hd, fun i hi => ?_⟩
  obtain ⟨b', o', e, _, a2, n2, c2, hc, hr⟩ := h4 i hi
  injection e with e
  injection e with e1 e2
  subst e1 e2
  exact ⟨a2, n2, c2, hc, (ints_at hr).2.1, hr.toInts⟩
theorem Rd.toDecls {xs : List DeclL} (h : Rd w D (encDecls xs) (.slice a n c)) : DeclsR w D a n xs := by
  obtain ⟨h1, _, _, h4⟩ := decls_at h
  refine ⟨h1, fun hn => ?_⟩
  obtain ⟨b, o, e, hd, _⟩ := h4 0 hn
  subst e
  refine ⟨b, o, rfl, hd, fun i hi => ?_⟩
  obtain ⟨b', o', e, _, a2, n2, c2, hc0, hc1, hc, hr⟩ := h4 i hi
  injection e with e
  injection e with e1 e2
  subst e1 e2
  exact ⟨hc0, hc1, a2, n2, c2, hc, (cons_at hr).2.1, hr.toCons⟩
end
end Go.Proofs.YtkapldpmjkdmcaaGreat
/- Rows that grow by append, whose elements need only be readable; literals. -/
namespace Go.Proofs.YtkapldpmjkdmcaaGreat
open Go.RowKit

/-- The slice v, that grows by append, holds n elements that can be read; its own row lies from base on, all that it leads to lies in other blocks, of D. -/
def AccR (w : World) (base : Nat) (D : Nat → Prop) (T : TypeId) (s : Nat) (v : Value) (rows : List (List Dat)) : Prop :=
  ∃ (xs : List Value), w.ownsRow base T s v rows.length xs ∧ (∀ i, i < rows.length → (rGet rows i).length = s) ∧
    ∀ i j, i < rows.length → j < s → ∃ u, xs[i * s + j]? = some u ∧ Rd w (fun k => D k ∧ v.ownBlock ≠ some k ∧ k < w.heap.size) (rAt rows i j) u

section
variable {S D D' : Nat → Prop} {w w' : World} {v : Value} {base : Nat} {T : TypeId} {s : Nat} {rows : List (List Dat)}
theorem AccR.nil (w : World) (base : Nat) (D : Nat → Prop) (T : TypeId) (s : Nat) : AccR w base D T s (.slice none 0 0) [] :=
  ⟨[], World.ownsRow_nil w base T s, by simp, by simp⟩
theorem AccR.made (w : World) (D : Nat → Prop) (T : TypeId) (s : Nat) : AccR (w.alloc (.cells #[] T)) w.heap.size D T s (.slice (some ⟨w.heap.size, 0, none⟩) 0 0) [] :=
  ⟨[], World.ownsRow_made w #[] 0 (Nat.le_refl _) (by simp [maxLen]) (by simp), by simp, by simp⟩
/-- A literal: the cells that a new block holds. -/
theorem AccR.lit (w : World) (D : Nat → Prop) (T : TypeId) (s : Nat) (cs : Array Value) (rows : List (List Dat)) (n : Nat) (hn : n = rows.length) (hm : n ≤ 9223372036854775807) (hcs : cs.size = n * s)
    (hl : ∀ i, i < rows.length → (rGet rows i).length = s) (hr : ∀ i j, i < rows.length → j < s → ∃ u, cs[i * s + j]? = some u ∧ Rd w D (rAt rows i j) u) :
    AccR (w.alloc (.cells cs T)) w.heap.size D T s (.slice (some ⟨w.heap.size, 0, none⟩) n n) rows := by
  subst hn
  refine ⟨cs.toList, ⟨by simpa using hcs, .inr ⟨w.heap.size, _, cs, rfl, Nat.le_refl _, heap_alloc_new w _, Nat.le_refl _, by simpa only [maxLen] using hm, hcs, List.take_of_length_le (by simp [hcs])⟩⟩, hl, fun i j hi hj => ?_⟩
  obtain ⟨u, hu, ho⟩ := hr i j hi hj
  refine ⟨u, by simpa using hu, (ho.lt.mono (fun k hk => ⟨hk.1, ?_, ?_⟩)).ext ((Ext.refl (fun _ => False) w).alloc _) (fun _ _ h => h)⟩
  · intro h; simp only [Value.ownBlock, Option.some.injEq] at h; omega
  · simp; omega
theorem AccR.mono (h : AccR w base D T s v rows) (hs : ∀ k, D k → D' k) : AccR w base D' T s v rows := by
  obtain ⟨xs, h1, h2, h5⟩ := h
  exact ⟨xs, h1, h2, fun i j hi hj => by obtain ⟨u, hu, ho⟩ := h5 i j hi hj; exact ⟨u, hu, ho.mono (fun k hk => ⟨hs _ hk.1, hk.2⟩)⟩⟩
theorem AccR.lower (h : AccR w base D T s v rows) {base' : Nat} (hb : base' ≤ base) : AccR w base' D T s v rows := by
  obtain ⟨xs, h1, h2, h5⟩ := h
  refine ⟨xs, ⟨h1.1, ?_⟩, h2, h5⟩
  rcases h1.2 with h | ⟨g, cap, cur, e, hg, rest⟩
  · exact .inl h
  · exact .inr ⟨g, cap, cur, e, by omega, rest⟩
theorem AccR.ext (h : AccR w base D T s v rows) (hx : Ext S w w') (hs : ∀ k, k < w.heap.size → (D k ∨ base ≤ k) → ¬ S k) : AccR w' base D T s v rows := by
  obtain ⟨xs, h1, h2, h5⟩ := h
  refine ⟨xs, ⟨h1.1, ?_⟩, h2, fun i j hi hj => ?_⟩
  · rcases h1.2 with h | ⟨g, cap, cur, e, hb, hg, rest⟩
    · exact .inl h
    · have hlt : g < w.heap.size := (Array.getElem?_eq_some_iff.1 hg).1
      exact .inr ⟨g, cap, cur, e, hb, (hx.block g hlt (hs g hlt (.inr hb))).trans hg, rest⟩
  · obtain ⟨u, hu, ho⟩ := h5 i j hi hj
    exact ⟨u, hu, (ho.ext hx (fun k hk => hs k hk.2.2 (.inl hk.1))).mono (fun k hk => ⟨hk.1, hk.2.1, Nat.lt_of_lt_of_le hk.2.2 hx.size⟩)⟩
theorem AccR.keep (h : AccR w base D T s v rows) (hx : Keep w w') : AccR w' base D T s v rows := h.ext hx (fun _ _ _ h => h)
/-- As a slice that can be read. -/
theorem AccR.read (h : AccR w base D T s v rows) (hs0 : 0 < s) : ∃ a c, v = .slice a rows.length c ∧ rows.length ≤ c ∧ rows.length ≤ 9223372036854775807 ∧ Rd w (fun k => D k ∨ base ≤ k) (.arr s rows) v := by
  obtain ⟨xs, h1, h2, h5⟩ := h
  rcases h1.2 with ⟨e, h0⟩ | ⟨g, cap, cur, e, hb, hg, hnc, hmax, hsz, htake⟩
  · have : rows = [] := List.eq_nil_of_length_eq_zero h0
    subst this
    subst e
    exact ⟨none, 0, rfl, Nat.le_refl _, by simp, .nil _ _ _⟩
  · subst e
    have hm : rows.length ≤ 9223372036854775807 := by simp only [maxLen] at hmax; omega
    refine ⟨_, cap, rfl, hnc, hm, ?_⟩
    rcases Nat.eq_zero_or_pos rows.length with h0 | h0
    · have : rows = [] := List.eq_nil_of_length_eq_zero h0
      subst this
      exact .nil _ _ _
    refine .arr s rows g 0 cap (fun i j => xs.getD (i * s + j) undef) (.inr hb) h0 hs0 hnc hm h2 (fun i j hi hj => ?_) (fun i j hi hj => ?_)
    · obtain ⟨u, hu, ho⟩ := h5 i j hi hj
      have := h1.cells (g := g) rfl (i * s + j) u hu
      rw [Addr.add_lit] at this
      rw [Nat.add_assoc, this]
      simp [List.getD, hu]
    · obtain ⟨u, hu, ho⟩ := h5 i j hi hj
      have : xs.getD (i * s + j) undef = u := by simp [List.getD, hu]
      show Rd w _ _ (xs.getD (i * s + j) undef)
      rw [this]
      exact ho.mono (fun k hk => .inl hk.1)

/-- Behind an append of some elements. -/
theorem AccR.push {v' : Value} {rs : List (List Dat)} {news : List Value} (h : AccR w base D T s v rows)
    (hr : ∀ i, i < rs.length → (rGet rs i).length = s) (hnew : ∀ i j, i < rs.length → j < s → ∃ u, news[i * s + j]? = some u ∧ Rd w (fun k => D k ∧ v.ownBlock ≠ some k) (rAt rs i j) u)
    (hown' : ∀ xs, w.ownsRow base T s v rows.length xs → w'.ownsRow base T s v' (rows.length + rs.length) (xs ++ news)) (hg : w.grownBy w' v.ownBlock) (hv : v'.ownBlock = v.ownBlock ∨ v'.ownBlock = some w.heap.size) : AccR w' base D T s v' (rows ++ rs) := by
  obtain ⟨xs, h1, h2, h5⟩ := h
  have hl : xs.length = rows.length * s := h1.1
  have hx : Ext (fun k => v.ownBlock = some k) w w' := ⟨hg.os, hg.tape, hg.output, hg.size, fun k hk hn => hg.block k hk (fun e => hn e.symm)⟩
  have hblk : ∀ k, k < w.heap.size → v.ownBlock ≠ some k → v'.ownBlock ≠ some k := by
    intro k hk hne
    rcases hv with e | e
    · rw [e]; exact hne
    · rw [e]; intro h; injection h with h; omega
  have hlen : (rows ++ rs).length = rows.length + rs.length := by simp
  have hrg : ∀ i, i < rows.length → rGet (rows ++ rs) i = rGet rows i := by intro i hi; simp [rGet, List.getD, List.getElem?_append_left hi]
  have hrl : ∀ i, rows.length ≤ i → rGet (rows ++ rs) i = rGet rs (i - rows.length) := by intro i hi; simp [rGet, List.getD, List.getElem?_append_right hi]
  refine ⟨xs ++ news, by rw [hlen]; exact hown' xs h1, ?_, ?_⟩
  · intro i hi
    rw [hlen] at hi
    by_cases e : i < rows.length
    · rw [hrg i e, h2 i e]
    · rw [hrl i (by omega), hr _ (by omega)]
  · intro i j hi hj
    rw [hlen] at hi
    by_cases e : i < rows.length
    · obtain ⟨u, hu, ho⟩ := h5 i j e hj
      refine ⟨u, ?_, ?_⟩
      · rw [List.getElem?_append_left (by rw [hl]; exact idx_lt e hj)]; exact hu
      · rw [rAt, hrg i e]
        exact (ho.ext hx (fun k hk h => hk.2.1 h)).mono (fun k hk => ⟨hk.1, hblk k hk.2.2 hk.2.1, Nat.lt_of_lt_of_le hk.2.2 hg.size⟩)
    · obtain ⟨i', rfl⟩ : ∃ i', i = rows.length + i' := ⟨i - rows.length, by omega⟩
      obtain ⟨u, hu, ho⟩ := hnew i' j (by omega) hj
      have e1 : (rows.length + i') * s + j = rows.length * s + (i' * s + j) := by rw [Nat.add_mul, Nat.add_assoc]
      refine ⟨u, ?_, ?_⟩
      · rw [e1, List.getElem?_append_right (by rw [hl]; omega), hl, Nat.add_sub_cancel_left]; exact hu
      · rw [rAt, hrl _ (by omega), Nat.add_sub_cancel_left]
        exact (ho.lt.ext hx (fun k hk h => hk.1.2 h)).mono (fun k hk => ⟨hk.1.1, hblk k hk.2 hk.1.2, Nat.lt_of_lt_of_le hk.2 hg.size⟩)

/-- A store into one of its cells. -/
theorem AccR.put {b : Nat} {i j : Nat} {d : Dat} {u : Value} (h : AccR w base D T s v rows) (hb : v.ownBlock = some b) (hi : i < rows.length) (hj : j < s) (hu : Rd w (fun k => D k ∧ k ≠ b) d u) :
    AccR (w.setCell ⟨b, i * s + j, none⟩ u) base D T s v (upd rows i j d) := by
  obtain ⟨xs, h1, h2, h5⟩ := h
  have hlt := idx_lt hi hj
  have hx : Ext (fun k => k = b) w (w.setCell ⟨b, i * s + j, none⟩ u) := (Ext.refl (fun k => k = b) w).setCell (p := ⟨b, i * s + j, none⟩) (.inr rfl) _
  have hsz : w.heap.size ≤ (w.setCell ⟨b, i * s + j, none⟩ u).heap.size := hx.size
  have hlen : j < (rGet rows i).length := by rw [h2 i hi]; exact hj
  rcases h1.2 with ⟨e, h0⟩ | ⟨g, cap, cur, e, hbb, hg, hnc, hmax, hsz2, htake⟩
  · subst e; simp [Value.ownBlock] at hb
  · subst e
    simp only [Value.ownBlock, Option.some.injEq] at hb
    subst hb
    have hle : rows.length * s ≤ cur.size := by rw [hsz2]; exact Nat.mul_le_mul_right s hnc
    refine ⟨xs.set (i * s + j) u, ⟨by rw [upd_len, List.length_set]; exact h1.1, .inr ⟨g, cap, cur.setIfInBounds (i * s + j) u, by rw [upd_len], hbb, ?_, by rw [upd_len]; exact hnc, hmax, by simpa using hsz2, ?_⟩⟩, ?_, ?_⟩
    · simp [World.setCell, Array.getElem?_modify, hg]
    · rw [upd_len, Array.toList_setIfInBounds, ← htake, List.take_set]
    · intro k hk
      rw [upd_len] at hk
      rw [rGet_upd hi]
      by_cases e : k = i
      · rw [if_pos e, List.length_set, h2 i hi]
      · rw [if_neg e, h2 k hk]
    · intro k l hk hl
      rw [upd_len] at hk
      rw [rAt_upd hi hlen]
      by_cases e : k = i ∧ l = j
      · rw [if_pos e]
        obtain ⟨rfl, rfl⟩ := e
        refine ⟨u, by rw [List.getElem?_set_self]; rw [h1.1]; exact hlt, (hu.lt.ext hx (fun m hm h => hm.1.2 h)).mono (fun m hm => ⟨hm.1.1, ?_, by omega⟩)⟩
        intro h; simp only [Value.ownBlock, Option.some.injEq] at h; exact hm.1.2 h.symm
      · rw [if_neg e]
        obtain ⟨u', hu', ho⟩ := h5 k l hk hl
        refine ⟨u', ?_, (ho.ext hx (fun m hm h => hm.2.1 (by rw [h]; rfl))).mono (fun m hm => ⟨hm.1, hm.2.1, by omega⟩)⟩
        rw [List.getElem?_set_ne]
        · exact hu'
        · intro h; exact e (idx_inj hl hj h.symm)
/-- Where a row with elements lies. -/
theorem AccR.open (h : AccR w base D T s v rows) (h0 : 0 < rows.length) : ∃ b c, v = .slice (some ⟨b, 0, none⟩) rows.length c ∧ base ≤ b ∧ b < w.heap.size ∧ rows.length ≤ c ∧ c ≤ 9223372036854775807 ∧ (∀ o, w.frozen? ⟨b, o, none⟩ = false) ∧
    ∀ i j, i < rows.length → j < s → ∃ u, w.cell? ⟨b, i * s + j, none⟩ = some u ∧ Rd w (fun k => D k ∧ k ≠ b ∧ k < w.heap.size) (rAt rows i j) u := by
  obtain ⟨xs, h1, h2, h5⟩ := h
  rcases h1.2 with ⟨e, he⟩ | ⟨g, cap, cur, e, hb, hg, hnc, hmax, hsz, htake⟩
  · omega
  · subst e
    refine ⟨g, cap, rfl, hb, (Array.getElem?_eq_some_iff.1 hg).1, hnc, hmax, fun o => by simp [World.frozen?, hg], fun i j hi hj => ?_⟩
    obtain ⟨u, hu, ho⟩ := h5 i j hi hj
    have := h1.cells (g := g) rfl (i * s + j) u hu
    rw [Addr.add_lit, Nat.zero_add] at this
    refine ⟨u, this, ho.mono (fun k hk => ⟨hk.1, ?_, hk.2.2⟩)⟩
    intro e; exact hk.2.1 (by rw [e]; rfl)
end

/-- The rest of a slice. -/
theorem Rd.suffix {w : World} {D : Nat → Prop} {s : Nat} {rows : List (List Dat)} {b o n c m : Nat} (h : Rd w D (.arr s rows) (.slice (some ⟨b, o, none⟩) n c)) (hm : m ≤ n) : Rd w D (.arr s (rows.drop m)) (.slice (some ⟨b, o + m * s, none⟩) (n - m) (c - m)) := by
  have hget : ∀ i, rGet (rows.drop m) i = rGet rows (m + i) := fun i => by simp [rGet, List.getD, List.getElem?_drop]
  cases h with
  | nil => simp; exact .nil s _ _
  | arr s rows b o c vs hD h0 hs0 hc hmm hs hcell hr =>
    rcases Nat.eq_zero_or_pos (rows.length - m) with e | e
    · have : rows.drop m = [] := List.drop_eq_nil_of_le (by omega)
      rw [this, e]
      exact .nil s _ _
    · have q := Rd.arr (w := w) (D := D) s (rows.drop m) b (o + m * s) (c - m) (fun i j => vs (m + i) j) hD (by simpa using e) hs0 (by simp; omega) (by simp; omega)
        (fun i hi => by rw [hget]; exact hs _ (by simp at hi; omega)) (fun i j hi hj => by
          have := hcell (m + i) j (by simp at hi; omega) hj
          rw [Nat.add_mul] at this
          rw [show o + m * s + i * s + j = o + (m * s + i * s) + j by omega]; exact this)
        (fun i j hi hj => by rw [rAt, hget]; exact hr (m + i) j (by simp at hi; omega) hj)
      rw [List.length_drop] at q
      exact q

/-- A declaration is written over. -/
theorem AccR.putD {w : World} {base : Nat} {D : Nat → Prop} {T : TypeId} {v : Value} {ds : List DeclL} {b k : Nat} {f t : Int} {cs : List (List Int)} {u : Value} (h : AccR w base D T 3 v (ds.map rowD)) (hb : v.ownBlock = some b) (hk : k < ds.length)
    (hu : Rd w (fun k => D k ∧ k ≠ b) (encCons cs) u) :
    AccR (((w.setCell ⟨b, k * 3, none⟩ (.int .i64 f)).setCell ⟨b, k * 3 + 1, none⟩ (.int .i64 t)).setCell ⟨b, k * 3 + 2, none⟩ u) base D T 3 v ((ds.set k ⟨f, t, cs⟩).map rowD) := by
  have hl : k < (ds.map rowD).length := by simpa using hk
  have x1 : Ext (fun m => m = b) w (w.setCell ⟨b, k * 3, none⟩ (.int .i64 f)) := (Ext.refl (fun m => m = b) w).setCell (p := ⟨b, k * 3, none⟩) (.inr rfl) _
  have x2 : Ext (fun m => m = b) w ((w.setCell ⟨b, k * 3, none⟩ (.int .i64 f)).setCell ⟨b, k * 3 + 1, none⟩ (.int .i64 t)) := x1.setCell (p := ⟨b, k * 3 + 1, none⟩) (.inr rfl) _
  have h1 := h.put (i := k) (j := 0) (d := .num f) hb hl (by omega) (.num f)
  have h2 := h1.put (i := k) (j := 1) (d := .num t) hb (by rw [upd_len]; exact hl) (by omega) (.num t)
  have h3 := h2.put (i := k) (j := 2) (d := encCons cs) hb (by rw [upd_len, upd_len]; exact hl) (by omega) (hu.ext x2 (fun m hm h => hm.2 h))
  have e : upd (upd (upd (ds.map rowD) k 0 (.num f)) k 1 (.num t)) k 2 (encCons cs) = (ds.set k ⟨f, t, cs⟩).map rowD := by
    have r0 := decls_row ds k hk
    simp only [upd]
    rw [rGet_set (by simpa using hk), rGet_set (by simpa using hk), if_pos rfl, if_pos rfl, r0]
    simp [List.map_set, rowD]
  rw [e] at h3
  exact h3
end Go.Proofs.YtkapldpmjkdmcaaGreat
/- Literals: integers, constructors, declarations that have just been written down. -/
namespace Go.Proofs.YtkapldpmjkdmcaaGreat
open Go.RowKit

theorem Rd.litD (w : World) (D : Nat → Prop) (T : TypeId) (s : Nat) (cs : Array Value) (rows : List (List Dat)) (n : Nat) (hB : D w.heap.size) (hn : n = rows.length) (hm : n ≤ 9223372036854775807) (hs0 : 0 < s) (hcs : cs.size = n * s)
    (hl : ∀ i, i < rows.length → (rGet rows i).length = s) (hr : ∀ i j, i < rows.length → j < s → ∃ u, cs[i * s + j]? = some u ∧ Rd w D (rAt rows i j) u) :
    Rd (w.alloc (.cells cs T)) D (.arr s rows) (.slice (some ⟨w.heap.size, 0, none⟩) n n) := by
  subst hn
  rcases Nat.eq_zero_or_pos rows.length with h0 | h0
  · have : rows = [] := List.eq_nil_of_length_eq_zero h0
    subst this
    exact .nil s _ _
  refine .arr s rows w.heap.size 0 rows.length (fun i j => cs.getD (i * s + j) undef) hB h0 hs0 (Nat.le_refl _) hm hl (fun i j hi hj => ?_) (fun i j hi hj => ?_)
  · obtain ⟨u, hu, _⟩ := hr i j hi hj
    rw [cell_of_row _ w.heap.size _ cs T (0, 0) (heap_alloc_new w _), Nat.zero_add]
    obtain ⟨hlt, e⟩ := Array.getElem?_eq_some_iff.1 hu
    simp [Array.getD, hlt]
  · obtain ⟨u, hu, ho⟩ := hr i j hi hj
    obtain ⟨hlt, e⟩ := Array.getElem?_eq_some_iff.1 hu
    have : cs.getD (i * s + j) undef = u := by simp [Array.getD, hlt, e]
    show Rd _ _ _ (cs.getD (i * s + j) undef)
    rw [this]
    exact ho.ext ((Ext.refl (fun _ => False) w).alloc _) (fun _ _ h => h)

theorem lit_intsD (w : World) (D : Nat → Prop) (T : TypeId) (xs : List Int) (cs : Array Value) (n : Nat) (hB : D w.heap.size) (hc : cs = (xs.map (Value.int .i64)).toArray) (hn : n = xs.length) (hm : n ≤ 1000) :
    Rd (w.alloc (.cells cs T)) D (encInts xs) (.slice (some ⟨w.heap.size, 0, none⟩) n n) := by
  subst hc hn
  refine Rd.litD w D T 1 _ (xs.map rowI) _ hB (by simp) (by omega) (by omega) (by simp) (fun i hi => by rw [ints_row xs i (by simpa using hi)]; rfl) (fun i j hi hj => ?_)
  obtain rfl : j = 0 := by omega
  have hi' : i < xs.length := by simpa using hi
  refine ⟨.int .i64 (iAt xs i), by simp [hi', iAt], ?_⟩
  rw [rAt, ints_row xs i hi']
  exact .num _

theorem lit_ints (w : World) (B : Nat) (T : TypeId) (xs : List Int) (cs : Array Value) (n : Nat) (hB : B ≤ w.heap.size) (hc : cs = (xs.map (Value.int .i64)).toArray) (hn : n = xs.length) (hm : n ≤ 1000) :
    Rd (w.alloc (.cells cs T)) (fun k => B ≤ k) (encInts xs) (.slice (some ⟨w.heap.size, 0, none⟩) n n) := lit_intsD w _ T xs cs n hB hc hn hm

/-- The values us read as the lists cs. -/
def AllC (w : World) (D : Nat → Prop) : List (List Int) → List Value → Prop
  | [], us => us = []
  | c :: cs, us => ∃ u us', us = u :: us' ∧ Rd w D (encInts c) u ∧ AllC w D cs us'
theorem AllC.len {w : World} {D : Nat → Prop} {cs : List (List Int)} {us : List Value} (h : AllC w D cs us) : us.length = cs.length := by
  induction cs generalizing us with
  | nil => have : us = [] := h; simp [this]
  | cons c cs ih => obtain ⟨u, us', rfl, _, h2⟩ := h; simp [ih h2]
theorem AllC.at {w : World} {D : Nat → Prop} {cs : List (List Int)} {us : List Value} (h : AllC w D cs us) (i : Nat) (hi : i < cs.length) : ∃ u, us[i]? = some u ∧ Rd w D (encInts (cAt cs i)) u := by
  induction cs generalizing us i with
  | nil => simp at hi
  | cons c cs ih =>
    obtain ⟨u, us', rfl, h1, h2⟩ := h
    rcases i with _ | i
    · exact ⟨u, rfl, h1⟩
    · obtain ⟨u', e, h3⟩ := ih h2 i (by simpa using hi)
      exact ⟨u', by simpa using e, h3⟩
theorem lit_consD (w : World) (D : Nat → Prop) (T : TypeId) (xs : List (List Int)) (us : List Value) (n : Nat) (hB : D w.heap.size) (h : AllC w D xs us) (hn : n = xs.length) (hm : n ≤ 1000) :
    Rd (w.alloc (.cells us.toArray T)) D (encCons xs) (.slice (some ⟨w.heap.size, 0, none⟩) n n) := by
  subst hn
  refine Rd.litD w D T 1 _ (xs.map rowC) _ hB (by simp) (by omega) (by omega) (by simp [h.len]) (fun i hi => by rw [cons_row xs i (by simpa using hi)]; rfl) (fun i j hi hj => ?_)
  obtain rfl : j = 0 := by omega
  have hi' : i < xs.length := by simpa using hi
  obtain ⟨u, hu, hr⟩ := h.at i hi'
  refine ⟨u, by simpa using hu, ?_⟩
  rw [rAt, cons_row xs i hi']
  exact hr

theorem lit_cons (w : World) (B : Nat) (T : TypeId) (xs : List (List Int)) (us : List Value) (n : Nat) (hB : B ≤ w.heap.size) (h : AllC w (fun k => B ≤ k) xs us) (hn : n = xs.length) (hm : n ≤ 1000) :
    Rd (w.alloc (.cells us.toArray T)) (fun k => B ≤ k) (encCons xs) (.slice (some ⟨w.heap.size, 0, none⟩) n n) := lit_consD w _ T xs us n hB h hn hm

/-- The cells us, three each, read as declarations. -/
def AllD (w : World) (D : Nat → Prop) : List DeclL → List Value → Prop
  | [], us => us = []
  | d :: ds, us => ∃ u us', us = .int .i64 d.from_ :: .int .i64 d.to_ :: u :: us' ∧ Rd w D (encCons d.cons) u ∧ AllD w D ds us'
theorem AllD.len {w : World} {D : Nat → Prop} {cs : List DeclL} {us : List Value} (h : AllD w D cs us) : us.length = cs.length * 3 := by
  induction cs generalizing us with
  | nil => have : us = [] := h; simp [this]
  | cons c cs ih => obtain ⟨u, us', rfl, _, h2⟩ := h; simp [ih h2, Nat.add_mul]
theorem AllD.at {w : World} {D : Nat → Prop} {cs : List DeclL} {us : List Value} (h : AllD w D cs us) (i : Nat) (hi : i < cs.length) : us[i * 3]? = some (.int .i64 (dAt cs i).from_) ∧ us[i * 3 + 1]? = some (.int .i64 (dAt cs i).to_) ∧ ∃ u, us[i * 3 + 2]? = some u ∧ Rd w D (encCons (dAt cs i).cons) u := by
  induction cs generalizing us i with
  | nil => simp at hi
  | cons c cs ih =>
    obtain ⟨u, us', rfl, h1, h2⟩ := h
    rcases i with _ | i
    · exact ⟨rfl, rfl, u, rfl, h1⟩
    · obtain ⟨e0, e1, u', e, h3⟩ := ih h2 i (by simpa using hi)
      have q : (i + 1) * 3 = i * 3 + 3 := by omega
      have qd : dAt (c :: cs) (i + 1) = dAt cs i := by simp [dAt, List.getD]
      rw [qd]
      refine ⟨?_, ?_, u', ?_, h3⟩
      · rw [q]; simpa using e0
      · rw [q, show i * 3 + 3 + 1 = i * 3 + 1 + 3 by omega]; simpa using e1
      · rw [q, show i * 3 + 3 + 2 = i * 3 + 2 + 3 by omega]; simpa using e
theorem AllD.rd {w : World} {D : Nat → Prop} {cs : List DeclL} {us : List Value} (h : AllD w D cs us) : ∀ i j, i < (cs.map rowD).length → j < 3 → ∃ u, us.toArray[i * 3 + j]? = some u ∧ Rd w D (rAt (cs.map rowD) i j) u := by
  intro i j hi hj
  have hi' : i < cs.length := by simpa using hi
  obtain ⟨e0, e1, u, e2, hr⟩ := h.at i hi'
  rw [rAt, decls_row cs i hi']
  rcases j with _ | _ | _ | j
  · exact ⟨_, by simpa using e0, .num _⟩
  · exact ⟨_, by simpa using e1, .num _⟩
  · exact ⟨u, by simpa using e2, hr⟩
  · omega
theorem lit_declsD (w : World) (D : Nat → Prop) (T : TypeId) (ds : List DeclL) (us : List Value) (n : Nat) (hB : D w.heap.size) (h : AllD w D ds us) (hn : n = ds.length) (hm : n ≤ 1000) :
    Rd (w.alloc (.cells us.toArray T)) D (encDecls ds) (.slice (some ⟨w.heap.size, 0, none⟩) n n) := by
  subst hn
  exact Rd.litD w D T 3 us.toArray (ds.map rowD) ds.length hB (by simp) (by omega) (by omega) (by simp [h.len]) (fun i hi => by rw [decls_row ds i (by simpa using hi)]; rfl) h.rd
theorem lit_decls (w : World) (B : Nat) (T : TypeId) (ds : List DeclL) (us : List Value) (n : Nat) (hB : B ≤ w.heap.size) (h : AllD w (fun k => B ≤ k) ds us) (hn : n = ds.length) (hm : n ≤ 1000) :
    AccR (w.alloc (.cells us.toArray T)) B (fun k => B ≤ k) T 3 (.slice (some ⟨w.heap.size, 0, none⟩) n n) (ds.map rowD) := by
  subst hn
  exact (AccR.lit w (fun k => B ≤ k) T 3 us.toArray (ds.map rowD) ds.length (by simp) (by omega) (by simp [h.len]) (fun i hi => by rw [decls_row ds i (by simpa using hi)]; rfl) h.rd).lower hB
theorem Rd.nilC (w : World) (D : Nat → Prop) (a : Option Addr) (c : Nat) : Rd w D (encCons []) (.slice a 0 c) := .nil 1 a c
theorem Rd.k {w w' : World} {D : Nat → Prop} {d : Dat} {v : Value} (h : Rd w D d v) (hx : Keep w w') : Rd w' D d v := h.ext hx (fun _ _ h => h)
theorem boxk {w w2 : World} {cs : Array Value} {T : TypeId} (h : Keep (w.alloc (.cells cs T)) w2) (i : Nat) : w2.cell? ⟨w.heap.size, i, none⟩ = cs[i]? := by
  rw [h.cell (by simp) (fun h => h), cell_of_row _ w.heap.size i cs T (0, 0) (heap_alloc_new w _)]
theorem Keep.at {w w' : World} (k : Keep w.drew w') {p : Addr} {v : Value} (h : w.cell? p = some v) : w'.cell? p = some v := by
  have hb : p.block < w.drew.heap.size := World.block_lt_of_cell? _ _ h
  rw [k.cell hb (fun h => h)]; exact h
theorem Keep.al (w : World) (o : Obj) : Keep w (w.alloc o) := (Ext.refl _ w).alloc o
end Go.Proofs.YtkapldpmjkdmcaaGreat
/- The reader of pseudo-random numbers, with a bound of the blocks that it lies in. -/
namespace Go.Proofs.YtkapldpmjkdmcaaGreat
open Go.RowKit

/-- Block g is a reader at the place p; it and its code lie in blocks below B. -/
def Rdx (w : World) (B g : Nat) (p : Int) : Prop :=
  ∃ a len cap z, w.heap[g]? = some (.cells #[.slice a len cap, .int .i64 p] 174 (0, 0)) ∧ len ≤ 2000 ∧ Byt w a len z ∧ (∀ x, a = some x → 0 < len → x.block ≠ g ∧ x.block < B) ∧ 0 ≤ p ∧ g < B
theorem Rdx.rdr {w : World} {B g : Nat} {p : Int} (h : Rdx w B g p) : Rdr w g p := by
  obtain ⟨a, len, cap, z, hg, hl, hb, hne, hp0, _⟩ := h
  exact ⟨a, len, cap, z, hg, hl, hb, fun x hx h0 => (hne x hx h0).1, hp0⟩
theorem Rdx.gB {w : World} {B g : Nat} {p : Int} (h : Rdx w B g p) : g < B := by
  obtain ⟨_, _, _, _, _, _, _, _, _, h⟩ := h
  exact h
theorem Rdx.ext {S : Nat → Prop} {w w' : World} {B g : Nat} {p : Int} (h : Rdx w B g p) (hx : Ext S w w') (hs : ∀ k, k < B → ¬ S k) : Rdx w' B g p := by
  obtain ⟨a, len, cap, z, hg, hl, hb, hne, hp0, hgB⟩ := h
  have hlt : g < w.heap.size := (Array.getElem?_eq_some_iff.1 hg).1
  exact ⟨a, len, cap, z, (hx.block g hlt (hs g hgB)).trans hg, hl, hb.ext hx (fun x hax hl0 => hs _ (hne x hax hl0).2), hne, hp0, hgB⟩
theorem Rdx.keep {w w' : World} {B g : Nat} {p : Int} (h : Rdx w B g p) (hx : Keep w w') : Rdx w' B g p := h.ext hx (fun _ _ h => h)

theorem pickX (B g : Nat) (p n : Int) (w : World) (h : Rdx w B g p) (hp : p ≤ 1000000000000) (hn : n ≤ 1000000) :
    Calls Tryz.prog 158 #[.pointer (some ⟨g, 0, none⟩), .int .i64 n] w fun e w' => ∃ v : Int, e = .returned (.int .i64 v) ∧ (1 ≤ n → 0 ≤ v ∧ v < n) ∧ (n < 1 → v = 0) ∧
      Rdx w' B g (p + 1) ∧ Ext (· = g) w w' := by
  refine (pick_set g p n w h.rdr hp hn).mono ?_
  rintro e w' ⟨v, rfl, h1, h2, m, rfl⟩
  have hx : Ext (· = g) w ((w.setCell ⟨g, 1, none⟩ (.int .i64 (p + 1))).drewN m) := ((Ext.refl (· = g) w).setCell (p := ⟨g, 1, none⟩) (.inr rfl) _).drewN m
  refine ⟨v, rfl, h1, h2, ?_, hx⟩
  obtain ⟨a, len, cap, z, hg, hl, hb, hne, hp0, hgB⟩ := h
  refine ⟨a, len, cap, z, ?_, hl, hb.ext hx (fun x hx h0 => (hne x hx h0).1), hne, by omega, hgB⟩
  show (w.setCell ⟨g, 1, none⟩ (.int .i64 (p + 1))).heap[g]? = _
  simp [World.setCell, Array.getElem?_modify, hg]

set_option maxHeartbeats 400000 in
theorem oneX (B g : Nat) (p : Int) (a : Option Addr) (len cap : Nat) (xs : List Int) (D : Nat → Prop) (w : World) (h : Rdx w B g p) (hp : p ≤ 1000000000000) (hi : IntsL w D a len xs) (hl : 1 ≤ len) (hl2 : len ≤ 1000) (hD : ¬ D g) :
    Calls Tryz.prog 112 #[.pointer (some ⟨g, 0, none⟩), .slice a len cap] w fun e w' => ∃ v, v ∈ xs ∧ e = .returned (.int .i64 v) ∧
      Rdx w' B g (p + 1) ∧ Ext (· = g) w w' := by
  refine calls_k fun Q hQ => ?_
  obtain ⟨hlen, hc⟩ := hi
  obtain ⟨b, o, rfl, hd, hc⟩ := hc (by omega)
  have hbg : b ≠ g := fun e => hD (e ▸ hd)
  go_enter Tryz.func112, Tryz.ntmps112
  go_wp2_with fail
  refine (pickX B g p _ w h hp (by omega)).mono ?_
  rintro e w1 ⟨v, rfl, hv, _, hr, hx⟩
  obtain ⟨hv0, hv1⟩ := hv (by omega)
  obtain ⟨i, rfl⟩ := Int.eq_ofNat_of_zero_le hv0
  have hi : i < len := by omega
  have c0 := hc i hi
  have hc1 := (hx.cell (p := ⟨b, o + i, none⟩) (World.block_lt_of_cell? w _ c0) hbg).trans c0
  clear hc hv c0
  go_wp2_with fail
  exact fin_ hQ ⟨iAt xs i, by rw [iAt_get (by omega)]; exact List.getElem_mem _, rfl, hr, hx⟩

/-- one of a list that has just been written down. -/
theorem oneL (B g : Nat) (p : Int) (l : List Int) (n c : Nat) (T : TypeId) (cs : Array Value) (w : World) (h : Rdx w B g p) (hp : p ≤ 1000000000000) (hcs : cs = (l.map (Value.int .i64)).toArray) (hn : n = l.length)
    (hl : 1 ≤ n) (hl2 : n ≤ 1000) :
    Calls Tryz.prog 112 #[.pointer (some ⟨g, 0, none⟩), .slice (some ⟨w.heap.size, 0, none⟩) n c] (w.alloc (.cells cs T)) fun e w' => ∃ v, v ∈ l ∧ e = .returned (.int .i64 v) ∧
      Rdx w' B g (p + 1) ∧ Ext (· = g) w w' := by
  have hg := h.rdr.lt
  have hi := (lit_intsD w (fun k => k = w.heap.size) T l cs n rfl hcs hn hl2).toInts
  refine (oneX B g p _ n c l _ _ (h.keep (Keep.al _ _)) hp hi hl hl2 (by omega)).mono ?_
  rintro e w' ⟨v, h1, h2, h3, h4⟩
  exact ⟨v, h1, h2, h3, (Keep.to (Keep.al _ _)).trans h4⟩

theorem newReaderX (a : Option Addr) (len cap : Nat) (z : Nat → Int) (w : World) (h : Byt w a len z) (hlc : len ≤ cap) (hl : len ≤ 1048576) :
    Calls Tryz.prog 69 #[.slice a len cap] w fun e w' => ∃ g, w.heap.size ≤ g ∧ e = .returned (.pointer (some ⟨g, 0, none⟩)) ∧ Rdx w' w'.heap.size g 0 ∧ Keep w w' := by
  refine (newReader_any a len cap z w h hlc hl).mono ?_
  rintro e w' ⟨g, h1, rfl, h3, h4⟩
  have hg := h3.lt
  refine ⟨g, h1, rfl, ?_, h4⟩
  obtain ⟨a', len', cap', z', hg', hl', hb, hne, hp0⟩ := h3
  refine ⟨a', len', cap', z', hg', hl', hb, fun x hx h0 => ⟨hne x hx h0, ?_⟩, hp0, hg⟩
  obtain ⟨x', e, hxb, _⟩ := hb h0
  rw [hx] at e
  injection e with e
  subst e
  exact hxb
end Go.Proofs.YtkapldpmjkdmcaaGreat
/- Types, in plain Lean: what valid declarations are, and lemmas on lists. No program. -/
namespace Go.Proofs.YtkapldpmjkdmcaaGreat

theorem iAt_eq {xs : List Int} {i : Nat} (h : i < xs.length) : iAt xs i = xs[i] := by simp [iAt, List.getElem?_eq_getElem h]
theorem cAt_eq {xs : List (List Int)} {i : Nat} (h : i < xs.length) : cAt xs i = xs[i] := by simp [cAt, List.getElem?_eq_getElem h]
theorem iAll {xs : List Int} {p : Int → Bool} : xs.all p = true ↔ ∀ i, i < xs.length → p (iAt xs i) = true := by
  rw [List.all_eq_true]
  constructor
  · intro h i hi; rw [iAt_eq hi]; exact h _ (List.getElem_mem _)
  · intro h x hx
    obtain ⟨i, hi, rfl⟩ := List.getElem_of_mem hx
    rw [← iAt_eq hi]; exact h i hi
theorem cAll {xs : List (List Int)} {p : List Int → Bool} : xs.all p = true ↔ ∀ i, i < xs.length → p (cAt xs i) = true := by
  rw [List.all_eq_true]
  constructor
  · intro h i hi; rw [cAt_eq hi]; exact h _ (List.getElem_mem _)
  · intro h x hx
    obtain ⟨i, hi, rfl⟩ := List.getElem_of_mem hx
    rw [← cAt_eq hi]; exact h i hi
theorem nAll {n : Nat} {p : Nat → Bool} : (List.range n).all p = true ↔ ∀ i, i < n → p i = true := by
  simp [List.all_eq_true]
theorem iAll_false {xs : List Int} {p : Int → Bool} {i : Nat} (hi : i < xs.length) (h : p (iAt xs i) = false) : xs.all p = false := by
  cases hx : xs.all p
  · rfl
  · rw [iAll] at hx; rw [hx i hi] at h; cases h
theorem cAll_false {xs : List (List Int)} {p : List Int → Bool} {i : Nat} (hi : i < xs.length) (h : p (cAt xs i) = false) : xs.all p = false := by
  cases hx : xs.all p
  · rfl
  · rw [cAll] at hx; rw [hx i hi] at h; cases h
theorem nAll_false {n : Nat} {p : Nat → Bool} {i : Nat} (hi : i < n) (h : p i = false) : (List.range n).all p = false := by
  cases hx : (List.range n).all p
  · rfl
  · rw [nAll] at hx; rw [hx i hi] at h; cases h

def isT (n : Nat) (t : Int) : Bool := decide (0 ≤ t ∧ t ≤ (n : Int))
def allT (n : Nat) (xs : List Int) : Bool := xs.all (isT n)
/-- The fields of a constructor are right. -/
def conOk (n : Nat) (c : List Int) : Bool := decide (c.length ≤ 3) && allT n c
def sameArrow (d e : DeclL) : Bool := decide (d.cons.length = 0) && decide (d.from_ = e.from_) && decide (d.to_ = e.to_)
def declOk (ds : List DeclL) (k : Nat) : Bool :=
  if 0 < (dAt ds k).cons.length then decide ((dAt ds k).cons.length ≤ 3 ∧ (dAt ds k).from_ = 0 ∧ (dAt ds k).to_ = 0) && (dAt ds k).cons.all (conOk ds.length)
  else isT ds.length (dAt ds k).from_ && isT ds.length (dAt ds k).to_ && (List.range k).all fun i => !sameArrow (dAt ds i) (dAt ds k)
def typesOk (ds : List DeclL) : Bool := decide (ds.length ≤ 4) && (List.range ds.length).all (declOk ds)
end Go.Proofs.YtkapldpmjkdmcaaGreat
/- Slices of the call's own: rows of cells that are known whole; integers, constructors and declarations in them; make. -/
namespace Go.Proofs.YtkapldpmjkdmcaaGreat
open Go.RowKit

section
variable {S D D' : Nat → Prop} {w w' : World} {b N : Nat} {T : TypeId} {f : Nat → Value}
theorem row_ext (h : w.rowIs b T N f) (hx : Ext S w w') (hs : ¬ S b) : w'.rowIs b T N f := h.of_block (hx.block b h.lt hs)
end

/-- make of n elements of s cells each: a new row of zero values; of the world behind it no more is said than what a walk wants. -/
theorem wpList_makeN {P : Program} (w : World) {ops : Array Oper} {rest : List Oper} {o : Oper} {a : Act} {Q : Exit → Act → World → Prop}
    (hg : o.guard = none) (l c : Operand) (t : TypeId) (hop : o.op = Op.makeSlice t l c)
    (e : TypeId) (z : Value) (zs : Array Value) (s bytes : Nat) (h1 : P.underlying t = some (.slice e)) (hinfo : (P.info? e).map (fun i => (i.zero, i.size, i.bytes)) = some (some z, s, bytes)) (hzs : z.cells = zs) (hsz : zs.size = s)
    (n : Nat) (hl : a.eval l = .int .i64 (n : Int)) (hc : a.eval c = .int .i64 (n : Int)) (b2 : bytes * n ≤ 281474976710656) (b3 : n ≤ 9223372036854775807)
    (hK : ∀ w', w'.rowIs w.heap.size e (n * s) (fun i => zs.getD (i % s) undef) → Keep w w' → w'.heap.size = w.heap.size + 1 → wpList P ops Q rest (a.put o.dst (.slice (some ⟨w.heap.size, 0, none⟩) n n)) w') :
    wpList P ops Q (o :: rest) a w := by
  refine wpList_plain hg fun K hK' => ?_
  obtain ⟨i, hi, hzz⟩ := Option.map_eq_some_iff.1 hinfo
  simp only [Prod.mk.injEq] at hzz
  obtain ⟨hz, hs, hb⟩ := hzz
  have hb' : (i.bytes : Int) * (n : Int) ≤ 281474976710656 := by
    have h : ((bytes * n : Nat) : Int) ≤ 281474976710656 := by omega
    rw [Int.natCast_mul] at h
    rw [hb]; exact h
  have hrun := run_make (P := P) w t e i z h1 hi hz .i64 .i64 n n (by omega) (Int.le_refl _) hb' (by omega)
  simp only [Int.toNat_natCast, hs, hzs] at hrun
  unfold Oper.wp
  simp [execOp, hop, hl, hc, hrun, Result.andThen]
  refine hK' _ _ (hK _ ?_ ((Ext.refl _ w).alloc _) (by simp))
  refine ⟨_, heap_alloc_new w _, size_madeCells _ _, fun j hj => ?_⟩
  have hs0 : 0 < s := by
    rcases Nat.eq_zero_or_pos s with h | h
    · rw [h] at hj; omega
    · exact h
  have hjs : j % s < zs.size := by rw [hsz]; exact Nat.mod_lt _ hs0
  have e1 : zs[j % s]! = zs.getD (j % s) undef := by
    rw [getElem!_pos zs (j % s) hjs]
    simp [Array.getD, hjs]
  simp only [madeCells, hsz]
  rw [Array.getElem?_map, Array.getElem?_range]
  simp only [hj, if_true, Option.map_some]
  rw [e1]

/-- A slice of integers of the call's own, in a block of D. -/
def OwnInts (w : World) (D : Nat → Prop) (a : Option Addr) (n : Nat) (xs : List Int) : Prop :=
  xs.length = n ∧ (0 < n → ∃ b N f, a = some ⟨b, 0, none⟩ ∧ D b ∧ n ≤ N ∧ w.rowIs b 3 N f ∧ ∀ i, i < n → f i = .int .i64 (iAt xs i))
def OwnCons (w : World) (D : Nat → Prop) (a : Option Addr) (n : Nat) (cs : List (List Int)) : Prop :=
  cs.length = n ∧ (0 < n → ∃ b N f, a = some ⟨b, 0, none⟩ ∧ D b ∧ n ≤ N ∧ w.rowIs b 155 N f ∧ ∀ i, i < n → ∃ a' m c, f i = .slice a' m c ∧ m ≤ c ∧ OwnInts w D a' m (cAt cs i))
def OwnDecls (w : World) (D : Nat → Prop) (a : Option Addr) (n : Nat) (ds : List DeclL) : Prop :=
  ds.length = n ∧ (0 < n → ∃ b N f, a = some ⟨b, 0, none⟩ ∧ D b ∧ n * 3 ≤ N ∧ w.rowIs b 125 N f ∧ ∀ i, i < n → f (i * 3) = .int .i64 (dAt ds i).from_ ∧ f (i * 3 + 1) = .int .i64 (dAt ds i).to_ ∧
    ∃ a' m c, f (i * 3 + 2) = .slice a' m c ∧ m ≤ c ∧ OwnCons w D a' m (dAt ds i).cons)

section
variable {S D D' : Nat → Prop} {w w' : World} {a : Option Addr} {n : Nat}
theorem OwnInts.ext {xs : List Int} (h : OwnInts w D a n xs) (hx : Ext S w w') (hs : ∀ k, D k → ¬ S k) : OwnInts w' D a n xs := by
  refine ⟨h.1, fun hn => ?_⟩
  obtain ⟨b, N, f, rfl, hd, hN, hr, hc⟩ := h.2 hn
  exact ⟨b, N, f, rfl, hd, hN, row_ext hr hx (hs _ hd), hc⟩
theorem OwnInts.mono {xs : List Int} (h : OwnInts w D a n xs) (hs : ∀ k, D k → D' k) : OwnInts w D' a n xs := by
  refine ⟨h.1, fun hn => ?_⟩
  obtain ⟨b, N, f, rfl, hd, hN, hr, hc⟩ := h.2 hn
  exact ⟨b, N, f, rfl, hs _ hd, hN, hr, hc⟩
theorem OwnInts.read {xs : List Int} (h : OwnInts w D a n xs) : IntsL w D a n xs := by
  refine ⟨h.1, fun hn => ?_⟩
  obtain ⟨b, N, f, rfl, hd, hN, hr, hc⟩ := h.2 hn
  exact ⟨b, 0, rfl, hd, fun i hi => by rw [Nat.zero_add, hr.cell (by omega), hc i hi]⟩
theorem OwnCons.ext {cs : List (List Int)} (h : OwnCons w D a n cs) (hx : Ext S w w') (hs : ∀ k, D k → ¬ S k) : OwnCons w' D a n cs := by
  refine ⟨h.1, fun hn => ?_⟩
  obtain ⟨b, N, f, rfl, hd, hN, hr, hc⟩ := h.2 hn
  refine ⟨b, N, f, rfl, hd, hN, row_ext hr hx (hs _ hd), fun i hi => ?_⟩
  obtain ⟨a', m, c, h1, h2, h3⟩ := hc i hi
  exact ⟨a', m, c, h1, h2, h3.ext hx hs⟩
theorem OwnCons.mono {cs : List (List Int)} (h : OwnCons w D a n cs) (hs : ∀ k, D k → D' k) : OwnCons w D' a n cs := by
  refine ⟨h.1, fun hn => ?_⟩
  obtain ⟨b, N, f, rfl, hd, hN, hr, hc⟩ := h.2 hn
  refine ⟨b, N, f, rfl, hs _ hd, hN, hr, fun i hi => ?_⟩
  obtain ⟨a', m, c, h1, h2, h3⟩ := hc i hi
  exact ⟨a', m, c, h1, h2, h3.mono hs⟩
theorem OwnCons.read {cs : List (List Int)} (h : OwnCons w D a n cs) : ConsR w D a n cs := by
  refine ⟨h.1, fun hn => ?_⟩
  obtain ⟨b, N, f, rfl, hd, hN, hr, hc⟩ := h.2 hn
  refine ⟨b, 0, rfl, hd, fun i hi => ?_⟩
  obtain ⟨a', m, c, h1, h2, h3⟩ := hc i hi
  exact ⟨a', m, c, by rw [Nat.zero_add, hr.cell (by omega), h1], h2, h3.read⟩
theorem OwnDecls.ext {ds : List DeclL} (h : OwnDecls w D a n ds) (hx : Ext S w w') (hs : ∀ k, D k → ¬ S k) : OwnDecls w' D a n ds := by
  refine ⟨h.1, fun hn => ?_⟩
  obtain ⟨b, N, f, rfl, hd, hN, hr, hc⟩ := h.2 hn
  refine ⟨b, N, f, rfl, hd, hN, row_ext hr hx (hs _ hd), fun i hi => ?_⟩
  obtain ⟨h0, h1, a', m, c, h2, h3, h4⟩ := hc i hi
  exact ⟨h0, h1, a', m, c, h2, h3, h4.ext hx hs⟩
theorem OwnDecls.mono {ds : List DeclL} (h : OwnDecls w D a n ds) (hs : ∀ k, D k → D' k) : OwnDecls w D' a n ds := by
  refine ⟨h.1, fun hn => ?_⟩
  obtain ⟨b, N, f, rfl, hd, hN, hr, hc⟩ := h.2 hn
  refine ⟨b, N, f, rfl, hs _ hd, hN, hr, fun i hi => ?_⟩
  obtain ⟨h0, h1, a', m, c, h2, h3, h4⟩ := hc i hi
  exact ⟨h0, h1, a', m, c, h2, h3, h4.mono hs⟩
theorem OwnDecls.read {ds : List DeclL} (h : OwnDecls w D a n ds) : DeclsR w D a n ds := by
  refine ⟨h.1, fun hn => ?_⟩
  obtain ⟨b, N, f, rfl, hd, hN, hr, hc⟩ := h.2 hn
  refine ⟨b, 0, rfl, hd, fun i hi => ?_⟩
  obtain ⟨h0, h1, a', m, c, h2, h3, h4⟩ := hc i hi
  exact ⟨by rw [Nat.zero_add, hr.cell (by omega), h0], by rw [Nat.zero_add, hr.cell (by omega), h1], a', m, c, by rw [Nat.zero_add, hr.cell (by omega), h2], h3, h4.read⟩
end
end Go.Proofs.YtkapldpmjkdmcaaGreat
