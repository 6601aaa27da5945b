/- From the reading of a program that came in to data that can be read, whose numbers are in range. -/
import Derived.Test.YtbknmljfnjlieaaEnt3
import Derived.Test.YtbknmljfnjlieaaProgPlain
namespace Go.Proofs.Ytbknmljfnjlieaa
open Go.RowKit Go.ChangeShapes Go.WideShapes Go.Deep

section
variable {H : Type} {enc : TypeId × Value → H} {w : World} {base : Nat} {held : Bool}
theorem ent4_rowFunc (fuel : Nat) (cs : List Value) (x : DataW H × List MemPlace) (ihInt : ∀ fuel' v y, fuel' < fuel → DataW.trod enc Try.prog w base (fun _ => true) held fuel' 26 [v] = some y → ∃ a n c xs, v = .slice a n c ∧ Rd w (fun _ => True) (encInts xs) (.slice a n c)) (ihExpr : ∀ fuel' v y, fuel' < fuel → DataW.trod enc Try.prog w base (fun _ => true) held fuel' 27 [v] = some y → ∃ a n c xs, v = .slice a n c ∧ Rd w (fun _ => True) (encExprs xs) (.slice a n c) ∧ allEs fitN xs)
    (h : DataW.trod enc Try.prog w base (fun _ => true) held fuel 119 cs = some x) : ∃ d : FuncL, (rowF d).length = 5 ∧ allE fitN d.body ∧ ∀ j, j < 5 → ∃ u, cs[j]? = some u ∧ Rd w (fun _ => True) (dGet (rowF d) j) u := by
  obtain ⟨ys, m, hfu, _, hcl, hyl, hf⟩ := DataW.trod_struct Try.underlying119 h
  have h0 := hf 0 _ rfl
  have h1 := hf 1 _ rfl
  have h2 := hf 2 _ rfl
  have hN : cs.length = 5 := by rw [hcl]; kernel_rfl
  obtain ⟨v0, v1, v2, v3, v4, rfl⟩ := len5 hN
  have hY : ys.length = 3 := by rw [hyl]; rfl
  obtain ⟨y0, y1, y2, rfl⟩ := len3 hY
  simp at h0
  rw [show Try.prog.cellsOf 26 = 1 from by kernel_rfl] at h0
  simp at h0
  obtain ⟨a0, n0, c0, xs0, rfl, r0⟩ := ihInt m _ _ (by omega) h0
  simp at h1
  rw [show Try.prog.cellsOf 3 = 1 from by kernel_rfl] at h1
  simp at h1
  obtain ⟨z1, e1, _⟩ := DataW.trod_int Try.underlying3 h1
  simp at e1
  subst e1
  simp at h2
  rw [show Try.prog.cellsOf 29 = 3 from by kernel_rfl] at h2
  simp at h2
  obtain ⟨x2, hx2a, hxq, hx2b⟩ := ent3_rowExpr m _ _ (fun fu v y hfu' hq => ihExpr fu v y (by omega) hq) h2
  refine ⟨⟨xs0, z1, x2⟩, rfl, hxq, fun j hj => ?_⟩
  rcases j with _ | _ | _ | _ | _ | j
  · exact ⟨_, rfl, r0⟩
  · exact ⟨_, rfl, .num _⟩
  · obtain ⟨u, hu, hr⟩ := hx2b 0 (by omega)
    refine ⟨u, hu, ?_⟩
    rw [show dGet (rowF ⟨xs0, z1, x2⟩) 2 = dGet (rowE x2) 0 from by cases x2; rfl]
    exact hr
  · obtain ⟨u, hu, hr⟩ := hx2b 1 (by omega)
    refine ⟨u, hu, ?_⟩
    rw [show dGet (rowF ⟨xs0, z1, x2⟩) 3 = dGet (rowE x2) 1 from by cases x2; rfl]
    exact hr
  · obtain ⟨u, hu, hr⟩ := hx2b 2 (by omega)
    refine ⟨u, hu, ?_⟩
    rw [show dGet (rowF ⟨xs0, z1, x2⟩) 4 = dGet (rowE x2) 2 from by cases x2; rfl]
    exact hr
  · omega
theorem ent4_Func (fuel : Nat) (v : Value) (y : DataW H × List MemPlace) (h : DataW.trod enc Try.prog w base (fun _ => true) held fuel 23 [v] = some y) : ∃ a n c xs, v = .slice a n c ∧ Rd w (fun _ => True) (encFuncs xs) (.slice a n c) ∧ fitP xs := by
  obtain ⟨a, n, c, rfl, hnc, hm, hel⟩ := ent2_slice 5 (by omega) Try.underlying23 (by kernel_rfl) h
  rcases Nat.eq_zero_or_pos n with rfl | hn
  · exact ⟨a, 0, c, [], rfl, .nil _ _ _, fun i hi => absurd hi (by simp)⟩
  obtain ⟨b, o, rfl, hel2⟩ := hel hn
  obtain ⟨l, hl, hp⟩ := ent_choose n (fun i (d : FuncL) => (rowF d).length = 5 ∧ allE fitN d.body ∧ ∀ j, j < 5 → ∃ u, w.cell? ⟨b, o + i * 5 + j, none⟩ = some u ∧ Rd w (fun _ => True) (dGet (rowF d) j) u) (fun i hi => by
    obtain ⟨cs, fu, y, hfu, hlen, hcell, hy⟩ := hel2 i hi
    obtain ⟨d, h1, hq, h2⟩ := ent4_rowFunc fu cs y (fun fu v y _ hq => ent2_Int fu v y hq) (fun fu v y _ hq => ent3_Expr fu v y hq) hy
    exact ⟨d, h1, hq, fun j hj => by rw [hcell j hj]; exact h2 j hj⟩) (default : FuncL)
  refine ⟨_, n, c, l, rfl, ?_, fun i hi => by rw [fAt_get hi]; have := (hp i (by omega)).2.1; simpa [List.getD, List.getElem?_eq_getElem hi] using this⟩
  refine ent2_build (s := 5) (rows := (l.map rowF)) (by omega) (by rw [funcs_len]; exact hl) hn hnc hm (fun i hi => ?_)
  have hg : rGet (l.map rowF) i = rowF (fAt l i) := by rw [rGet_lt (by rw [funcs_len]; omega), fAt_get (by omega)]; simp
  rw [hg]
  refine ⟨(hp i hi).1, fun j hj => ?_⟩
  rw [rAt, hg]
  exact (hp i hi).2.2 j hj

set_option maxRecDepth 100000 in
theorem ent4_valProgram {r : Reach} {b0 : Nat} {v : Value} {d : DataW H} {p : List MemPlace} (hv : Value.okWide Try.prog w r b0 25 v) (h : DataW.Trod enc Try.prog w base (fun _ => true) held 25 v d p) :
    ∃ (ds : List DeclL) (fs : List FuncL) (a : Option Addr) (n c : Nat) (a' : Option Addr) (n' c' : Nat), v = .agg #[.slice a n c, .slice a' n' c'] ∧ Rd w (fun _ => True) (encDecls ds) (.slice a n c) ∧ Rd w (fun _ => True) (encFuncs fs) (.slice a' n' c') ∧ fitP fs := by
  obtain ⟨cs, rfl, hsz⟩ := okWide_struct Try.underlying25 hv
  rw [show Try.prog.cellsOf 25 = 2 from by kernel_rfl] at hsz
  obtain ⟨fuel, hf⟩ := h
  obtain ⟨u0, u1, e⟩ := len2 (l := cs.toList) (by simpa using hsz)
  replace hf : DataW.trod enc Try.prog w base (fun _ => true) held fuel 25 cs.toList = some (d, p) := hf
  rw [e] at hf
  obtain ⟨ys, m, hfu, _, hcl, hyl, hg⟩ := DataW.trod_struct Try.underlying25 hf
  have h0 := hg 0 _ rfl
  have h1 := hg 1 _ rfl
  obtain ⟨y0, y1, rfl⟩ := len2 (l := ys) (by rw [hyl]; rfl)
  simp at h0 h1
  rw [show Try.prog.cellsOf 22 = 1 from by kernel_rfl] at h0
  rw [show Try.prog.cellsOf 23 = 1 from by kernel_rfl] at h1
  simp at h0 h1
  obtain ⟨a, n, c, ds, rfl, r0⟩ := ent2_Decl _ _ _ h0
  obtain ⟨a', n', c', fs, rfl, r1, hq⟩ := ent4_Func _ _ _ h1
  exact ⟨ds, fs, a, n, c, a', n', c', by rw [← Array.toArray_toList (xs := cs), e], r0, r1, hq⟩
end
end Go.Proofs.Ytbknmljfnjlieaa
