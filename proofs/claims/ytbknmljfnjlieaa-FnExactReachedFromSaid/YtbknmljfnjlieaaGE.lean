/- From the reading of an expression that came in to data that can be read, whose numbers are in range. -/
import Derived.Test.YtbknmljfnjlieaaEnt2
import Derived.Test.YtbknmljfnjlieaaWalkM
import Derived.Test.YtbknmljfnjlieaaTyI5
import Derived.Test.YtbknmljfnjlieaaProgPlain
namespace Go.Proofs.Ytbknmljfnjlieaa
open Go.RowKit Go.ChangeShapes Go.WideShapes Go.Deep

theorem allEs_of {P : Int → Int → Prop} {es : List ExprL} (h : ∀ j, j < es.length → allE P (eAt es j)) : allEs P es := by
  induction es with
  | nil => trivial
  | cons e es ih => exact ⟨h 0 (by simp), ih (fun j hj => by have := h (j + 1) (by simpa using hj); simpa [eAt] using this)⟩

section
variable {H : Type} {enc : TypeId × Value → H} {w : World} {base : Nat} {held : Bool}
theorem ent3_rowExpr (fuel : Nat) (cs : List Value) (x : DataW H × List MemPlace) (ihExpr : ∀ fuel' v y, fuel' < fuel → DataW.trod enc Try.prog w base (fun _ => true) held fuel' 27 [v] = some y → ∃ a n c xs, v = .slice a n c ∧ Rd w (fun _ => True) (encExprs xs) (.slice a n c) ∧ allEs fitN xs)
    (h : DataW.trod enc Try.prog w base (fun _ => true) held fuel 29 cs = some x) : ∃ d : ExprL, (rowE d).length = 3 ∧ allE fitN d ∧ ∀ j, j < 3 → ∃ u, cs[j]? = some u ∧ Rd w (fun _ => True) (dGet (rowE d) j) u := by
  obtain ⟨ys, m, hfu, _, hcl, hyl, hf⟩ := DataW.trod_struct Try.underlying29 h
  have h0 := hf 0 _ rfl
  have h1 := hf 1 _ rfl
  have h2 := hf 2 _ rfl
  have hN : cs.length = 3 := by rw [hcl]; kernel_rfl
  obtain ⟨v0, v1, v2, rfl⟩ := len3 hN
  have hY : ys.length = 3 := by rw [hyl]; rfl
  obtain ⟨y0, y1, y2, rfl⟩ := len3 hY
  simp at h0
  rw [show Try.prog.cellsOf 3 = 1 from by kernel_rfl] at h0
  simp at h0
  obtain ⟨z0, e0, _⟩ := DataW.trod_int Try.underlying3 h0
  simp at e0
  subst e0
  simp at h1
  rw [show Try.prog.cellsOf 3 = 1 from by kernel_rfl] at h1
  simp at h1
  obtain ⟨z1, e1, wf1⟩ := DataW.trod_int Try.underlying3 h1
  simp at e1
  subst e1
  simp at h2
  rw [show Try.prog.cellsOf 27 = 1 from by kernel_rfl] at h2
  simp at h2
  obtain ⟨a2, n2, c2, xs2, rfl, r2, q2⟩ := ihExpr m _ _ (by omega) h2
  refine ⟨ExprL.mk z0 z1 xs2, rfl, ⟨int_fits wf1.2, q2⟩, fun j hj => ?_⟩
  rcases j with _ | _ | _ | j
  · exact ⟨_, rfl, .num _⟩
  · exact ⟨_, rfl, .num _⟩
  · exact ⟨_, rfl, r2⟩
  · omega

theorem ent3_Expr_n (N : Nat) : ∀ (fuel : Nat), fuel < N → ∀ (v : Value) (y : DataW H × List MemPlace), DataW.trod enc Try.prog w base (fun _ => true) held fuel 27 [v] = some y → ∃ a n c xs, v = .slice a n c ∧ Rd w (fun _ => True) (encExprs xs) (.slice a n c) ∧ allEs fitN xs := by
  induction N with
  | zero => intro fuel h; omega
  | succ N ihN =>
  intro fuel hN v y h
  obtain ⟨a, n, c, rfl, hnc, hm, hel⟩ := ent2_slice 3 (by omega) Try.underlying27 (by kernel_rfl) h
  rcases Nat.eq_zero_or_pos n with rfl | hn
  · exact ⟨a, 0, c, [], rfl, .nil _ _ _, trivial⟩
  obtain ⟨b, o, rfl, hel2⟩ := hel hn
  obtain ⟨l, hl, hp⟩ := ent_choose n (fun i (d : ExprL) => (rowE d).length = 3 ∧ allE fitN d ∧ ∀ j, j < 3 → ∃ u, w.cell? ⟨b, o + i * 3 + j, none⟩ = some u ∧ Rd w (fun _ => True) (dGet (rowE d) j) u) (fun i hi => by
    obtain ⟨cs, fu, y, hfu, hlen, hcell, hy⟩ := hel2 i hi
    obtain ⟨d, h1, hq, h2⟩ := ent3_rowExpr fu cs y (fun fu2 v y hfu2 hq => ihN fu2 (by omega) v y hq) hy
    exact ⟨d, h1, hq, fun j hj => by rw [hcell j hj]; exact h2 j hj⟩) (default : ExprL)
  refine ⟨_, n, c, l, rfl, ?_, allEs_of (fun j hj => by rw [eAt_get hj]; have := (hp j (by omega)).2.1; simpa [List.getD, List.getElem?_eq_getElem hj] using this)⟩
  refine ent2_build (s := 3) (rows := (rowsE l)) (by omega) (by rw [exprs_len]; exact hl) hn hnc hm (fun i hi => ?_)
  have hg : rGet (rowsE l) i = rowE (eAt l i) := by rw [rGet_lt (by rw [exprs_len]; omega), eAt_get (by omega)]; simp [rowsE_map]
  rw [hg]
  refine ⟨(hp i hi).1, fun j hj => ?_⟩
  rw [rAt, hg]
  exact (hp i hi).2.2 j hj
theorem ent3_Expr (fuel : Nat) (v : Value) (y : DataW H × List MemPlace) (h : DataW.trod enc Try.prog w base (fun _ => true) held fuel 27 [v] = some y) : ∃ a n c xs, v = .slice a n c ∧ Rd w (fun _ => True) (encExprs xs) (.slice a n c) ∧ allEs fitN xs := ent3_Expr_n _ fuel (Nat.lt_succ_self _) v y h

set_option maxRecDepth 100000 in
theorem ent3_valExpr {r : Reach} {b0 : Nat} {v : Value} {d : DataW H} {p : List MemPlace} (hv : Value.okWide Try.prog w r b0 29 v) (h : DataW.Trod enc Try.prog w base (fun _ => true) held 29 v d p) :
    ∃ (op num : Int) (es : List ExprL) (a : Option Addr) (n c : Nat), v = .agg #[.int .i64 op, .int .i64 num, .slice a n c] ∧ Rd w (fun _ => True) (encExprs es) (.slice a n c) ∧ allE fitN (.mk op num es) := by
  obtain ⟨cs, rfl, hsz⟩ := okWide_struct Try.underlying29 hv
  rw [show Try.prog.cellsOf 29 = 3 from by kernel_rfl] at hsz
  obtain ⟨fuel, hf⟩ := h
  obtain ⟨d, h1, hq, h2⟩ := ent3_rowExpr fuel cs.toList _ (fun fu v y _ hq => ent3_Expr fu v y hq) hf
  obtain ⟨u0, u1, u2, e⟩ := len3 (l := cs.toList) (by simpa using hsz)
  rw [e] at h2
  rw [rowE_eq] at h2
  obtain ⟨_, q0, r0⟩ := h2 0 (by omega)
  obtain ⟨_, q1, r1⟩ := h2 1 (by omega)
  obtain ⟨_, q2, r2⟩ := h2 2 (by omega)
  simp at q0 q1 q2
  subst q0 q1 q2
  have e0 := Rd.num_inv (z := d.op) r0
  have e1 := Rd.num_inv (z := d.num) r1
  replace r2 : Rd w (fun _ => True) (encExprs d.kids) u2 := r2
  obtain ⟨a, n, c, e2, _⟩ := arr_slice r2
  subst e0 e1 e2
  exact ⟨d.op, d.num, d.kids, a, n, c, by rw [← Array.toArray_toList (xs := cs), e], r2, by cases d; exact hq⟩
end
end Go.Proofs.Ytbknmljfnjlieaa
/- From the reading of a program that came in to data that can be read, whose numbers are in range. -/
namespace Go.Proofs.Ytbknmljfnjlieaa
open Go.RowKit Go.ChangeShapes Go.WideShapes Go.Deep

section
variable {H : Type} {enc : TypeId × Value → H} {w : World} {base : Nat} {held : Bool}
theorem ent4_rowFunc (fuel : Nat) (cs : List Value) (x : DataW H × List MemPlace) (ihInt : ∀ fuel' v y, fuel' < fuel → DataW.trod enc Try.prog w base (fun _ => true) held fuel' 26 [v] = some y → ∃ a n c xs, v = .slice a n c ∧ Rd w (fun _ => True) (encInts xs) (.slice a n c)) (ihExpr : ∀ fuel' v y, fuel' < fuel → DataW.trod enc Try.prog w base (fun _ => true) held fuel' 27 [v] = some y → ∃ a n c xs, v = .slice a n c ∧ Rd w (fun _ => True) (encExprs xs) (.slice a n c) ∧ allEs fitN xs)
    (h : DataW.trod enc Try.prog w base (fun _ => true) held fuel 119 cs = some x) : ∃ d : FuncL, (rowF d).length = 5 ∧ allE fitN d.body ∧ ∀ j, j < 5 → ∃ u, cs[j]? = some u ∧ Rd w (fun _ => True) (dGet (rowF d) j) u := by
  obtain ⟨ys, m, hfu, _, hcl, hyl, hf⟩ := DataW.trod_struct Try.underlying119 h
  have h0 := hf 0 _ rfl
  have h1 := hf 1 _ rfl
  have h2 := hf 2 _ rfl
  have hN : cs.length = 5 := by rw [hcl]; kernel_rfl
  obtain ⟨v0, v1, v2, v3, v4, rfl⟩ := len5 hN
  have hY : ys.length = 3 := by rw [hyl]; rfl
  obtain ⟨y0, y1, y2, rfl⟩ := len3 hY
  simp at h0
  rw [show Try.prog.cellsOf 26 = 1 from by kernel_rfl] at h0
  simp at h0
  obtain ⟨a0, n0, c0, xs0, rfl, r0⟩ := ihInt m _ _ (by omega) h0
  simp at h1
  rw [show Try.prog.cellsOf 3 = 1 from by kernel_rfl] at h1
  simp at h1
  obtain ⟨z1, e1, _⟩ := DataW.trod_int Try.underlying3 h1
  simp at e1
  subst e1
  simp at h2
  rw [show Try.prog.cellsOf 29 = 3 from by kernel_rfl] at h2
  simp at h2
  obtain ⟨x2, hx2a, hxq, hx2b⟩ := ent3_rowExpr m _ _ (fun fu v y hfu' hq => ihExpr fu v y (by omega) hq) h2
  refine ⟨⟨xs0, z1, x2⟩, rfl, hxq, fun j hj => ?_⟩
  rcases j with _ | _ | _ | _ | _ | j
  · exact ⟨_, rfl, r0⟩
  · exact ⟨_, rfl, .num _⟩
  · obtain ⟨u, hu, hr⟩ := hx2b 0 (by omega)
    refine ⟨u, hu, ?_⟩
    rw [show dGet (rowF ⟨xs0, z1, x2⟩) 2 = dGet (rowE x2) 0 from by cases x2; rfl]
    exact hr
  · obtain ⟨u, hu, hr⟩ := hx2b 1 (by omega)
    refine ⟨u, hu, ?_⟩
    rw [show dGet (rowF ⟨xs0, z1, x2⟩) 3 = dGet (rowE x2) 1 from by cases x2; rfl]
    exact hr
  · obtain ⟨u, hu, hr⟩ := hx2b 2 (by omega)
    refine ⟨u, hu, ?_⟩
    rw [show dGet (rowF ⟨xs0, z1, x2⟩) 4 = dGet (rowE x2) 2 from by cases x2; rfl]
    exact hr
  · omega
theorem ent4_Func (fuel : Nat) (v : Value) (y : DataW H × List MemPlace) (h : DataW.trod enc Try.prog w base (fun _ => true) held fuel 23 [v] = some y) : ∃ a n c xs, v = .slice a n c ∧ Rd w (fun _ => True) (encFuncs xs) (.slice a n c) ∧ fitP xs := by
  obtain ⟨a, n, c, rfl, hnc, hm, hel⟩ := ent2_slice 5 (by omega) Try.underlying23 (by kernel_rfl) h
  rcases Nat.eq_zero_or_pos n with rfl | hn
  · exact ⟨a, 0, c, [], rfl, .nil _ _ _, fun i hi => absurd hi (by simp)⟩
  obtain ⟨b, o, rfl, hel2⟩ := hel hn
  obtain ⟨l, hl, hp⟩ := ent_choose n (fun i (d : FuncL) => (rowF d).length = 5 ∧ allE fitN d.body ∧ ∀ j, j < 5 → ∃ u, w.cell? ⟨b, o + i * 5 + j, none⟩ = some u ∧ Rd w (fun _ => True) (dGet (rowF d) j) u) (fun i hi => by
    obtain ⟨cs, fu, y, hfu, hlen, hcell, hy⟩ := hel2 i hi
    obtain ⟨d, h1, hq, h2⟩ := ent4_rowFunc fu cs y (fun fu v y _ hq => ent2_Int fu v y hq) (fun fu v y _ hq => ent3_Expr fu v y hq) hy
    exact ⟨d, h1, hq, fun j hj => by rw [hcell j hj]; exact h2 j hj⟩) (default : FuncL)
  refine ⟨_, n, c, l, rfl, ?_, fun i hi => by rw [fAt_get hi]; have := (hp i (by omega)).2.1; simpa [List.getD, List.getElem?_eq_getElem hi] using this⟩
  refine ent2_build (s := 5) (rows := (l.map rowF)) (by omega) (by rw [funcs_len]; exact hl) hn hnc hm (fun i hi => ?_)
  have hg : rGet (l.map rowF) i = rowF (fAt l i) := by rw [rGet_lt (by rw [funcs_len]; omega), fAt_get (by omega)]; simp
  rw [hg]
  refine ⟨(hp i hi).1, fun j hj => ?_⟩
  rw [rAt, hg]
  exact (hp i hi).2.2 j hj

set_option maxRecDepth 100000 in
theorem ent4_valProgram {r : Reach} {b0 : Nat} {v : Value} {d : DataW H} {p : List MemPlace} (hv : Value.okWide Try.prog w r b0 25 v) (h : DataW.Trod enc Try.prog w base (fun _ => true) held 25 v d p) :
    ∃ (ds : List DeclL) (fs : List FuncL) (a : Option Addr) (n c : Nat) (a' : Option Addr) (n' c' : Nat), v = .agg #[.slice a n c, .slice a' n' c'] ∧ Rd w (fun _ => True) (encDecls ds) (.slice a n c) ∧ Rd w (fun _ => True) (encFuncs fs) (.slice a' n' c') ∧ fitP fs := by
  obtain ⟨cs, rfl, hsz⟩ := okWide_struct Try.underlying25 hv
  rw [show Try.prog.cellsOf 25 = 2 from by kernel_rfl] at hsz
  obtain ⟨fuel, hf⟩ := h
  obtain ⟨u0, u1, e⟩ := len2 (l := cs.toList) (by simpa using hsz)
  replace hf : DataW.trod enc Try.prog w base (fun _ => true) held fuel 25 cs.toList = some (d, p) := hf
  rw [e] at hf
  obtain ⟨ys, m, hfu, _, hcl, hyl, hg⟩ := DataW.trod_struct Try.underlying25 hf
  have h0 := hg 0 _ rfl
  have h1 := hg 1 _ rfl
  obtain ⟨y0, y1, rfl⟩ := len2 (l := ys) (by rw [hyl]; rfl)
  simp at h0 h1
  rw [show Try.prog.cellsOf 22 = 1 from by kernel_rfl] at h0
  rw [show Try.prog.cellsOf 23 = 1 from by kernel_rfl] at h1
  simp at h0 h1
  obtain ⟨a, n, c, ds, rfl, r0⟩ := ent2_Decl _ _ _ h0
  obtain ⟨a', n', c', fs, rfl, r1, hq⟩ := ent4_Func _ _ _ h1
  exact ⟨ds, fs, a, n, c, a', n', c', by rw [← Array.toArray_toList (xs := cs), e], r0, r1, hq⟩
end
end Go.Proofs.Ytbknmljfnjlieaa
