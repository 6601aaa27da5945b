/- From the reading of arguments that came in to data that can be read: for all types of data. -/
import Derived.Test.YtmekdccgjgfiaaaQBF
import Derived.Test.YtmekdccgjgfiaaaQAC
import Derived.Test.YtmekdccgjgfiaaaQAY
import Derived.Test.YtmekdccgjgfiaaaQBB
namespace Go.Proofs.Ytmekdccgjgfiaaa
open Go.RowKit Go.ChangeShapes Go.WideShapes Go.Deep

section
variable {H : Type} {enc : TypeId × Value → H} {P : Program} {w : World} {base : Nat} {held : Bool}

theorem len1 {α : Type} {l : List α} (h : l.length = 1) : ∃ a, l = [a] := by match l, h with | [a], _ => exact ⟨a, rfl⟩
theorem len2 {α : Type} {l : List α} (h : l.length = 2) : ∃ a b, l = [a, b] := by match l, h with | [a, b], _ => exact ⟨a, b, rfl⟩
theorem len3 {α : Type} {l : List α} (h : l.length = 3) : ∃ a b c, l = [a, b, c] := by match l, h with | [a, b, c], _ => exact ⟨a, b, c, rfl⟩
theorem len4 {α : Type} {l : List α} (h : l.length = 4) : ∃ a b c d, l = [a, b, c, d] := by match l, h with | [a, b, c, d], _ => exact ⟨a, b, c, d, rfl⟩
theorem len5 {α : Type} {l : List α} (h : l.length = 5) : ∃ a b c d e, l = [a, b, c, d, e] := by match l, h with | [a, b, c, d, e], _ => exact ⟨a, b, c, d, e, rfl⟩
theorem ent2_slice {t e : TypeId} {fuel : Nat} {v : Value} {x : DataW H × List MemPlace} (s : Nat) (hs0 : 0 < s) (ht : P.underlying t = some (.slice e)) (hc : P.cellsOf e = s)
    (h : DataW.trod enc P w base (fun _ => true) held fuel t [v] = some x) : ∃ a n c, v = .slice a n c ∧ n ≤ c ∧ n ≤ 9223372036854775807 ∧ (0 < n → ∃ b o, a = some ⟨b, o, none⟩ ∧
      ∀ i, i < n → ∃ cs fuel' y, fuel' < fuel ∧ cs.length = s ∧ (∀ j, j < s → w.cell? ⟨b, o + i * s + j, none⟩ = cs[j]?) ∧ DataW.trod enc P w base (fun _ => true) held fuel' e cs = some y) := by
  rcases DataW.trod_slice ht h with ⟨hcs, _⟩ | ⟨ad, len, cap, elems, rest, n', hf, hcs, _, _, hl, hm, hlen, hel, _, _⟩
  · simp at hcs
    subst hcs
    exact ⟨none, 0, 0, rfl, Nat.le_refl _, by omega, fun h => absurd h (by omega)⟩
  · simp at hcs
    subst hcs
    refine ⟨_, _, _, rfl, hl, by simp only [maxLen] at hm; omega, fun hn => ?_⟩
    have hget : ∀ i, i < len → ∃ cs' y, w.cells? base (ad.add (i * P.cellsOf e)) (P.cellsOf e) = some cs' ∧ DataW.trod enc P w base (fun _ => true) held n' e cs' = some y := by
      intro i hi
      have := hel i hi
      rw [List.getElem?_eq_getElem (by omega), Option.bind_eq_some_iff] at this
      obtain ⟨cs', h1, h2⟩ := this
      exact ⟨cs', _, h1, h2⟩
    obtain ⟨b, o, rfl⟩ : ∃ b o, ad = ⟨b, o, none⟩ := by
      obtain ⟨cs', _, hcs', _⟩ := hget 0 (by omega)
      rw [hc] at hcs'
      obtain ⟨_, hlen, hat⟩ := World.cells?_some hcs'
      have h0 := hat 0 hs0
      rw [show (ad.add (0 * s)).add 0 = ad from by simp [Addr.add], List.getElem?_eq_getElem (by omega)] at h0
      exact addr_plain h0
    refine ⟨b, o, rfl, fun i hi => ?_⟩
    obtain ⟨cs', y, hcs', hy⟩ := hget i hi
    rw [hc] at hcs'
    obtain ⟨_, hlen, hat⟩ := World.cells?_some hcs'
    refine ⟨cs', n', y, by omega, hlen, fun j hj => ?_, hy⟩
    have := hat j hj
    rw [Addr.add_lit, Addr.add_lit] at this
    exact this
theorem ent2_build {s : Nat} {rows : List (List Dat)} {b o n c : Nat} (hs0 : 0 < s) (hn : rows.length = n) (h0 : 0 < n) (hc : n ≤ c) (hm : n ≤ 9223372036854775807)
    (hr : ∀ i, i < n → (rGet rows i).length = s ∧ ∀ j, j < s → ∃ u, w.cell? ⟨b, o + i * s + j, none⟩ = some u ∧ Rd w (fun _ => True) (rAt rows i j) u) : Rd w (fun _ => True) (.arr s rows) (.slice (some ⟨b, o, none⟩) n c) := by
  subst hn
  refine .arr s rows b o c (fun i j => (w.cell? ⟨b, o + i * s + j, none⟩).getD undef) trivial h0 hs0 hc hm (fun i hi => (hr i hi).1) (fun i j hi hj => ?_) (fun i j hi hj => ?_)
  · obtain ⟨u, hu, _⟩ := (hr i hi).2 j hj
    rw [hu]; rfl
  · obtain ⟨u, hu, hr'⟩ := (hr i hi).2 j hj
    show Rd _ _ _ ((w.cell? ⟨b, o + i * s + j, none⟩).getD undef)
    rw [hu]; exact hr'
end

section
variable {H : Type} {enc : TypeId × Value → H} {w : World} {base : Nat} {held : Bool}

theorem ent2_Int (fuel : Nat) (v : Value) (y : DataW H × List MemPlace) (h : DataW.trod enc Try.prog w base (fun _ => true) held fuel 26 [v] = some y) : ∃ a n c xs, v = .slice a n c ∧ Rd w (fun _ => True) (encInts xs) (.slice a n c) := by
  obtain ⟨a, n, c, rfl, hnc, hm, hel⟩ := ent2_slice 1 (by omega) Try.underlying26 (by kernel_rfl) h
  obtain ⟨_, xs, hxs, _⟩ := ent_ints Try.underlying26 Try.underlying3 (by kernel_rfl) h
  exact ⟨a, n, c, xs, rfl, hxs.toRd hnc hm⟩

theorem ent2_rowCon (fuel : Nat) (cs : List Value) (x : DataW H × List MemPlace) (ihInt : ∀ fuel' v y, fuel' < fuel → DataW.trod enc Try.prog w base (fun _ => true) held fuel' 26 [v] = some y → ∃ a n c xs, v = .slice a n c ∧ Rd w (fun _ => True) (encInts xs) (.slice a n c))
    (h : DataW.trod enc Try.prog w base (fun _ => true) held fuel 133 cs = some x) : ∃ d : (List Int), (rowC d).length = 1 ∧ ∀ j, j < 1 → ∃ u, cs[j]? = some u ∧ Rd w (fun _ => True) (dGet (rowC d) j) u := by
  obtain ⟨ys, m, hfu, _, hcl, hyl, hf⟩ := DataW.trod_struct Try.underlying133 h
  have h0 := hf 0 _ rfl
  have hN : cs.length = 1 := by rw [hcl]; kernel_rfl
  obtain ⟨v0, rfl⟩ := len1 hN
  have hY : ys.length = 1 := by rw [hyl]; rfl
  obtain ⟨y0, rfl⟩ := len1 hY
  simp at h0
  rw [show Try.prog.cellsOf 26 = 1 from by kernel_rfl] at h0
  simp at h0
  obtain ⟨a0, n0, c0, xs0, rfl, r0⟩ := ihInt m _ _ (by omega) h0
  refine ⟨xs0, rfl, fun j hj => ?_⟩
  rcases j with _ | j
  · exact ⟨_, rfl, r0⟩
  · omega
theorem ent2_Con (fuel : Nat) (v : Value) (y : DataW H × List MemPlace) (h : DataW.trod enc Try.prog w base (fun _ => true) held fuel 69 [v] = some y) : ∃ a n c xs, v = .slice a n c ∧ Rd w (fun _ => True) (encCons xs) (.slice a n c) := by
  obtain ⟨a, n, c, rfl, hnc, hm, hel⟩ := ent2_slice 1 (by omega) Try.underlying69 (by kernel_rfl) h
  rcases Nat.eq_zero_or_pos n with rfl | hn
  · exact ⟨a, 0, c, [], rfl, .nil _ _ _⟩
  obtain ⟨b, o, rfl, hel2⟩ := hel hn
  obtain ⟨l, hl, hp⟩ := ent_choose n (fun i (d : (List Int)) => (rowC d).length = 1 ∧ ∀ j, j < 1 → ∃ u, w.cell? ⟨b, o + i * 1 + j, none⟩ = some u ∧ Rd w (fun _ => True) (dGet (rowC d) j) u) (fun i hi => by
    obtain ⟨cs, fu, y, hfu, hlen, hcell, hy⟩ := hel2 i hi
    obtain ⟨d, h1, h2⟩ := ent2_rowCon fu cs y (fun fu v y _ hq => ent2_Int fu v y hq) hy
    exact ⟨d, h1, fun j hj => by rw [hcell j hj]; exact h2 j hj⟩) ([] : List Int)
  refine ⟨_, n, c, l, rfl, ?_⟩
  refine ent2_build (s := 1) (rows := (l.map rowC)) (by omega) (by rw [cons_len]; exact hl) hn hnc hm (fun i hi => ?_)
  have hg : rGet (l.map rowC) i = rowC (cAt l i) := by rw [rGet_lt (by rw [cons_len]; omega), cAt_get (by omega)]; simp
  rw [hg]
  refine ⟨(hp i hi).1, fun j hj => ?_⟩
  rw [rAt, hg]
  exact (hp i hi).2 j hj

theorem ent2_rowDecl (fuel : Nat) (cs : List Value) (x : DataW H × List MemPlace) (ihCon : ∀ fuel' v y, fuel' < fuel → DataW.trod enc Try.prog w base (fun _ => true) held fuel' 69 [v] = some y → ∃ a n c xs, v = .slice a n c ∧ Rd w (fun _ => True) (encCons xs) (.slice a n c))
    (h : DataW.trod enc Try.prog w base (fun _ => true) held fuel 71 cs = some x) : ∃ d : DeclL, (rowD d).length = 3 ∧ ∀ j, j < 3 → ∃ u, cs[j]? = some u ∧ Rd w (fun _ => True) (dGet (rowD d) j) u := by
  obtain ⟨ys, m, hfu, _, hcl, hyl, hf⟩ := DataW.trod_struct Try.underlying71 h
  have h0 := hf 0 _ rfl
  have h1 := hf 1 _ rfl
  have h2 := hf 2 _ rfl
  have hN : cs.length = 3 := by rw [hcl]; kernel_rfl
  obtain ⟨v0, v1, v2, rfl⟩ := len3 hN
  have hY : ys.length = 3 := by rw [hyl]; rfl
  obtain ⟨y0, y1, y2, rfl⟩ := len3 hY
  simp at h0
  rw [show Try.prog.cellsOf 3 = 1 from by kernel_rfl] at h0
  simp at h0
  obtain ⟨z0, e0, _⟩ := DataW.trod_int Try.underlying3 h0
  simp at e0
  subst e0
  simp at h1
  rw [show Try.prog.cellsOf 3 = 1 from by kernel_rfl] at h1
  simp at h1
  obtain ⟨z1, e1, _⟩ := DataW.trod_int Try.underlying3 h1
  simp at e1
  subst e1
  simp at h2
  rw [show Try.prog.cellsOf 69 = 1 from by kernel_rfl] at h2
  simp at h2
  obtain ⟨a2, n2, c2, xs2, rfl, r2⟩ := ihCon m _ _ (by omega) h2
  refine ⟨⟨z0, z1, xs2⟩, rfl, fun j hj => ?_⟩
  rcases j with _ | _ | _ | j
  · exact ⟨_, rfl, .num _⟩
  · exact ⟨_, rfl, .num _⟩
  · exact ⟨_, rfl, r2⟩
  · omega
theorem ent2_Decl (fuel : Nat) (v : Value) (y : DataW H × List MemPlace) (h : DataW.trod enc Try.prog w base (fun _ => true) held fuel 22 [v] = some y) : ∃ a n c xs, v = .slice a n c ∧ Rd w (fun _ => True) (encDecls xs) (.slice a n c) := by
  obtain ⟨a, n, c, rfl, hnc, hm, hel⟩ := ent2_slice 3 (by omega) Try.underlying22 (by kernel_rfl) h
  rcases Nat.eq_zero_or_pos n with rfl | hn
  · exact ⟨a, 0, c, [], rfl, .nil _ _ _⟩
  obtain ⟨b, o, rfl, hel2⟩ := hel hn
  obtain ⟨l, hl, hp⟩ := ent_choose n (fun i (d : DeclL) => (rowD d).length = 3 ∧ ∀ j, j < 3 → ∃ u, w.cell? ⟨b, o + i * 3 + j, none⟩ = some u ∧ Rd w (fun _ => True) (dGet (rowD d) j) u) (fun i hi => by
    obtain ⟨cs, fu, y, hfu, hlen, hcell, hy⟩ := hel2 i hi
    obtain ⟨d, h1, h2⟩ := ent2_rowDecl fu cs y (fun fu v y _ hq => ent2_Con fu v y hq) hy
    exact ⟨d, h1, fun j hj => by rw [hcell j hj]; exact h2 j hj⟩) (default : DeclL)
  refine ⟨_, n, c, l, rfl, ?_⟩
  refine ent2_build (s := 3) (rows := (l.map rowD)) (by omega) (by rw [decls_len]; exact hl) hn hnc hm (fun i hi => ?_)
  have hg : rGet (l.map rowD) i = rowD (dAt l i) := by rw [rGet_lt (by rw [decls_len]; omega), dAt_get (by omega)]; simp
  rw [hg]
  refine ⟨(hp i hi).1, fun j hj => ?_⟩
  rw [rAt, hg]
  exact (hp i hi).2 j hj



theorem ent2_rowStep (fuel : Nat) (cs : List Value) (x : DataW H × List MemPlace) (ihInt : ∀ fuel' v y, fuel' < fuel → DataW.trod enc Try.prog w base (fun _ => true) held fuel' 26 [v] = some y → ∃ a n c xs, v = .slice a n c ∧ Rd w (fun _ => True) (encInts xs) (.slice a n c)) (ihBlock : ∀ fuel' v y, fuel' < fuel → DataW.trod enc Try.prog w base (fun _ => true) held fuel' 76 [v] = some y → ∃ a n c xs, v = .slice a n c ∧ Rd w (fun _ => True) (encBlocks xs) (.slice a n c))
    (h : DataW.trod enc Try.prog w base (fun _ => true) held fuel 78 cs = some x) : ∃ d : StepL, (rowS d).length = 5 ∧ ∀ j, j < 5 → ∃ u, cs[j]? = some u ∧ Rd w (fun _ => True) (dGet (rowS d) j) u := by
  obtain ⟨ys, m, hfu, _, hcl, hyl, hf⟩ := DataW.trod_struct Try.underlying78 h
  have h0 := hf 0 _ rfl
  have h1 := hf 1 _ rfl
  have h2 := hf 2 _ rfl
  have h3 := hf 3 _ rfl
  have h4 := hf 4 _ rfl
  have hN : cs.length = 5 := by rw [hcl]; kernel_rfl
  obtain ⟨v0, v1, v2, v3, v4, rfl⟩ := len5 hN
  have hY : ys.length = 5 := by rw [hyl]; rfl
  obtain ⟨y0, y1, y2, y3, y4, rfl⟩ := len5 hY
  simp at h0
  rw [show Try.prog.cellsOf 3 = 1 from by kernel_rfl] at h0
  simp at h0
  obtain ⟨z0, e0, _⟩ := DataW.trod_int Try.underlying3 h0
  simp at e0
  subst e0
  simp at h1
  rw [show Try.prog.cellsOf 3 = 1 from by kernel_rfl] at h1
  simp at h1
  obtain ⟨z1, e1, _⟩ := DataW.trod_int Try.underlying3 h1
  simp at e1
  subst e1
  simp at h2
  rw [show Try.prog.cellsOf 3 = 1 from by kernel_rfl] at h2
  simp at h2
  obtain ⟨z2, e2, _⟩ := DataW.trod_int Try.underlying3 h2
  simp at e2
  subst e2
  simp at h3
  rw [show Try.prog.cellsOf 26 = 1 from by kernel_rfl] at h3
  simp at h3
  obtain ⟨a3, n3, c3, xs3, rfl, r3⟩ := ihInt m _ _ (by omega) h3
  simp at h4
  rw [show Try.prog.cellsOf 76 = 1 from by kernel_rfl] at h4
  simp at h4
  obtain ⟨a4, n4, c4, xs4, rfl, r4⟩ := ihBlock m _ _ (by omega) h4
  refine ⟨StepL.mk z0 z1 z2 xs3 xs4, rfl, fun j hj => ?_⟩
  rcases j with _ | _ | _ | _ | _ | j
  · exact ⟨_, rfl, .num _⟩
  · exact ⟨_, rfl, .num _⟩
  · exact ⟨_, rfl, .num _⟩
  · exact ⟨_, rfl, r3⟩
  · exact ⟨_, rfl, r4⟩
  · omega
theorem ent2_rowBlock (fuel : Nat) (cs : List Value) (x : DataW H × List MemPlace) (ihStep : ∀ fuel' v y, fuel' < fuel → DataW.trod enc Try.prog w base (fun _ => true) held fuel' 27 [v] = some y → ∃ a n c xs, v = .slice a n c ∧ Rd w (fun _ => True) (encSteps xs) (.slice a n c))
    (h : DataW.trod enc Try.prog w base (fun _ => true) held fuel 29 cs = some x) : ∃ d : BlockL, (rowB d).length = 2 ∧ ∀ j, j < 2 → ∃ u, cs[j]? = some u ∧ Rd w (fun _ => True) (dGet (rowB d) j) u := by
  obtain ⟨ys, m, hfu, _, hcl, hyl, hf⟩ := DataW.trod_struct Try.underlying29 h
  have h0 := hf 0 _ rfl
  have h1 := hf 1 _ rfl
  have hN : cs.length = 2 := by rw [hcl]; kernel_rfl
  obtain ⟨v0, v1, rfl⟩ := len2 hN
  have hY : ys.length = 2 := by rw [hyl]; rfl
  obtain ⟨y0, y1, rfl⟩ := len2 hY
  simp at h0
  rw [show Try.prog.cellsOf 27 = 1 from by kernel_rfl] at h0
  simp at h0
  obtain ⟨a0, n0, c0, xs0, rfl, r0⟩ := ihStep m _ _ (by omega) h0
  simp at h1
  rw [show Try.prog.cellsOf 3 = 1 from by kernel_rfl] at h1
  simp at h1
  obtain ⟨z1, e1, _⟩ := DataW.trod_int Try.underlying3 h1
  simp at e1
  subst e1
  refine ⟨BlockL.mk xs0 z1, rfl, fun j hj => ?_⟩
  rcases j with _ | _ | j
  · exact ⟨_, rfl, r0⟩
  · exact ⟨_, rfl, .num _⟩
  · omega
theorem ent2_SB_n (N : Nat) : (∀ (fuel : Nat), fuel < N → ∀ (v : Value) (y : DataW H × List MemPlace), DataW.trod enc Try.prog w base (fun _ => true) held fuel 27 [v] = some y → ∃ a n c xs, v = .slice a n c ∧ Rd w (fun _ => True) (encSteps xs) (.slice a n c)) ∧
    (∀ (fuel : Nat), fuel < N → ∀ (v : Value) (y : DataW H × List MemPlace), DataW.trod enc Try.prog w base (fun _ => true) held fuel 76 [v] = some y → ∃ a n c xs, v = .slice a n c ∧ Rd w (fun _ => True) (encBlocks xs) (.slice a n c)) := by
  induction N with
  | zero => exact ⟨fun fuel h => by omega, fun fuel h => by omega⟩
  | succ N ihN =>
  obtain ⟨ihS, ihB⟩ := ihN
  refine ⟨?_, ?_⟩
  · intro fuel hN v y h
    obtain ⟨a, n, c, rfl, hnc, hm, hel⟩ := ent2_slice 5 (by omega) Try.underlying27 (by kernel_rfl) h
    rcases Nat.eq_zero_or_pos n with rfl | hn
    · exact ⟨a, 0, c, [], rfl, .nil _ _ _⟩
    obtain ⟨b, o, rfl, hel2⟩ := hel hn
    obtain ⟨l, hl, hp⟩ := ent_choose n (fun i (d : StepL) => (rowS d).length = 5 ∧ ∀ j, j < 5 → ∃ u, w.cell? ⟨b, o + i * 5 + j, none⟩ = some u ∧ Rd w (fun _ => True) (dGet (rowS d) j) u) (fun i hi => by
      obtain ⟨cs, fu, y, hfu, hlen, hcell, hy⟩ := hel2 i hi
      obtain ⟨d, h1, h2⟩ := ent2_rowStep fu cs y (fun fu v y _ hq => ent2_Int fu v y hq) (fun fu2 v y hfu2 hq => ihB fu2 (by omega) v y hq) hy
      exact ⟨d, h1, fun j hj => by rw [hcell j hj]; exact h2 j hj⟩) (default : StepL)
    refine ⟨_, n, c, l, rfl, ?_⟩
    refine ent2_build (s := 5) (rows := (rowsS l)) (by omega) (by rw [steps_len]; exact hl) hn hnc hm (fun i hi => ?_)
    have hg : rGet (rowsS l) i = rowS (sAt l i) := by rw [rGet_lt (by rw [steps_len]; omega), sAt_get (by omega)]; simp [rowsS_map]
    rw [hg]
    refine ⟨(hp i hi).1, fun j hj => ?_⟩
    rw [rAt, hg]
    exact (hp i hi).2 j hj
  · intro fuel hN v y h
    obtain ⟨a, n, c, rfl, hnc, hm, hel⟩ := ent2_slice 2 (by omega) Try.underlying76 (by kernel_rfl) h
    rcases Nat.eq_zero_or_pos n with rfl | hn
    · exact ⟨a, 0, c, [], rfl, .nil _ _ _⟩
    obtain ⟨b, o, rfl, hel2⟩ := hel hn
    obtain ⟨l, hl, hp⟩ := ent_choose n (fun i (d : BlockL) => (rowB d).length = 2 ∧ ∀ j, j < 2 → ∃ u, w.cell? ⟨b, o + i * 2 + j, none⟩ = some u ∧ Rd w (fun _ => True) (dGet (rowB d) j) u) (fun i hi => by
      obtain ⟨cs, fu, y, hfu, hlen, hcell, hy⟩ := hel2 i hi
      obtain ⟨d, h1, h2⟩ := ent2_rowBlock fu cs y (fun fu2 v y hfu2 hq => ihS fu2 (by omega) v y hq) hy
      exact ⟨d, h1, fun j hj => by rw [hcell j hj]; exact h2 j hj⟩) (default : BlockL)
    refine ⟨_, n, c, l, rfl, ?_⟩
    refine ent2_build (s := 2) (rows := (rowsB l)) (by omega) (by rw [blocks_len]; exact hl) hn hnc hm (fun i hi => ?_)
    have hg : rGet (rowsB l) i = rowB (bAt l i) := by rw [rGet_lt (by rw [blocks_len]; omega), bAt_get (by omega)]; simp [rowsB_map]
    rw [hg]
    refine ⟨(hp i hi).1, fun j hj => ?_⟩
    rw [rAt, hg]
    exact (hp i hi).2 j hj
theorem ent2_Step (fuel : Nat) (v : Value) (y : DataW H × List MemPlace) (h : DataW.trod enc Try.prog w base (fun _ => true) held fuel 27 [v] = some y) : ∃ a n c xs, v = .slice a n c ∧ Rd w (fun _ => True) (encSteps xs) (.slice a n c) := ent2_SB_n (fuel + 1) |>.1 fuel (Nat.lt_succ_self _) v y h
theorem ent2_Block (fuel : Nat) (v : Value) (y : DataW H × List MemPlace) (h : DataW.trod enc Try.prog w base (fun _ => true) held fuel 76 [v] = some y) : ∃ a n c xs, v = .slice a n c ∧ Rd w (fun _ => True) (encBlocks xs) (.slice a n c) := ent2_SB_n (fuel + 1) |>.2 fuel (Nat.lt_succ_self _) v y h

theorem ent2_rowRoutine (fuel : Nat) (cs : List Value) (x : DataW H × List MemPlace) (ihInt : ∀ fuel' v y, fuel' < fuel → DataW.trod enc Try.prog w base (fun _ => true) held fuel' 26 [v] = some y → ∃ a n c xs, v = .slice a n c ∧ Rd w (fun _ => True) (encInts xs) (.slice a n c)) (ihStep : ∀ fuel' v y, fuel' < fuel → DataW.trod enc Try.prog w base (fun _ => true) held fuel' 27 [v] = some y → ∃ a n c xs, v = .slice a n c ∧ Rd w (fun _ => True) (encSteps xs) (.slice a n c))
    (h : DataW.trod enc Try.prog w base (fun _ => true) held fuel 74 cs = some x) : ∃ d : RoutL, (rowR d).length = 5 ∧ ∀ j, j < 5 → ∃ u, cs[j]? = some u ∧ Rd w (fun _ => True) (dGet (rowR d) j) u := by
  obtain ⟨ys, m, hfu, _, hcl, hyl, hf⟩ := DataW.trod_struct Try.underlying74 h
  have h0 := hf 0 _ rfl
  have h1 := hf 1 _ rfl
  have h2 := hf 2 _ rfl
  have h3 := hf 3 _ rfl
  have hN : cs.length = 5 := by rw [hcl]; kernel_rfl
  obtain ⟨v0, v1, v2, v3, v4, rfl⟩ := len5 hN
  have hY : ys.length = 4 := by rw [hyl]; rfl
  obtain ⟨y0, y1, y2, y3, rfl⟩ := len4 hY
  simp at h0
  rw [show Try.prog.cellsOf 26 = 1 from by kernel_rfl] at h0
  simp at h0
  obtain ⟨a0, n0, c0, xs0, rfl, r0⟩ := ihInt m _ _ (by omega) h0
  simp at h1
  rw [show Try.prog.cellsOf 26 = 1 from by kernel_rfl] at h1
  simp at h1
  obtain ⟨a1, n1, c1, xs1, rfl, r1⟩ := ihInt m _ _ (by omega) h1
  simp at h2
  rw [show Try.prog.cellsOf 3 = 1 from by kernel_rfl] at h2
  simp at h2
  obtain ⟨z2, e2, _⟩ := DataW.trod_int Try.underlying3 h2
  simp at e2
  subst e2
  simp at h3
  rw [show Try.prog.cellsOf 29 = 2 from by kernel_rfl] at h3
  simp at h3
  obtain ⟨x3, hx3⟩ := ent2_rowBlock m _ _ (fun fu v y hfu' hq => ihStep fu v y (by omega) hq) h3
  refine ⟨⟨xs0, xs1, z2, x3⟩, rfl, fun j hj => ?_⟩
  rcases j with _ | _ | _ | _ | _ | j
  · exact ⟨_, rfl, r0⟩
  · exact ⟨_, rfl, r1⟩
  · exact ⟨_, rfl, .num _⟩
  · obtain ⟨u, hu, hr⟩ := hx3.2 0 (by omega)
    refine ⟨u, hu, ?_⟩
    rw [show dGet (rowR ⟨xs0, xs1, z2, x3⟩) 3 = dGet (rowB x3) 0 from by cases x3; rfl]
    exact hr
  · obtain ⟨u, hu, hr⟩ := hx3.2 1 (by omega)
    refine ⟨u, hu, ?_⟩
    rw [show dGet (rowR ⟨xs0, xs1, z2, x3⟩) 4 = dGet (rowB x3) 1 from by cases x3; rfl]
    exact hr
  · omega
theorem ent2_Routine (fuel : Nat) (v : Value) (y : DataW H × List MemPlace) (h : DataW.trod enc Try.prog w base (fun _ => true) held fuel 23 [v] = some y) : ∃ a n c xs, v = .slice a n c ∧ Rd w (fun _ => True) (encRouts xs) (.slice a n c) := by
  obtain ⟨a, n, c, rfl, hnc, hm, hel⟩ := ent2_slice 5 (by omega) Try.underlying23 (by kernel_rfl) h
  rcases Nat.eq_zero_or_pos n with rfl | hn
  · exact ⟨a, 0, c, [], rfl, .nil _ _ _⟩
  obtain ⟨b, o, rfl, hel2⟩ := hel hn
  obtain ⟨l, hl, hp⟩ := ent_choose n (fun i (d : RoutL) => (rowR d).length = 5 ∧ ∀ j, j < 5 → ∃ u, w.cell? ⟨b, o + i * 5 + j, none⟩ = some u ∧ Rd w (fun _ => True) (dGet (rowR d) j) u) (fun i hi => by
    obtain ⟨cs, fu, y, hfu, hlen, hcell, hy⟩ := hel2 i hi
    obtain ⟨d, h1, h2⟩ := ent2_rowRoutine fu cs y (fun fu v y _ hq => ent2_Int fu v y hq) (fun fu v y _ hq => ent2_Step fu v y hq) hy
    exact ⟨d, h1, fun j hj => by rw [hcell j hj]; exact h2 j hj⟩) (default : RoutL)
  refine ⟨_, n, c, l, rfl, ?_⟩
  refine ent2_build (s := 5) (rows := (l.map rowR)) (by omega) (by rw [routs_len]; exact hl) hn hnc hm (fun i hi => ?_)
  have hg : rGet (l.map rowR) i = rowR (rtAt l i) := by rw [rGet_lt (by rw [routs_len]; omega), rtAt_get (by omega)]; simp
  rw [hg]
  refine ⟨(hp i hi).1, fun j hj => ?_⟩
  rw [rAt, hg]
  exact (hp i hi).2 j hj


set_option maxRecDepth 100000 in
theorem ent2_valBlock {r : Reach} {b0 : Nat} {v : Value} {d : DataW H} {p : List MemPlace} (hv : Value.okWide Try.prog w r b0 29 v) (h : DataW.Trod enc Try.prog w base (fun _ => true) held 29 v d p) :
    ∃ (ss : List StepL) (res : Int) (a : Option Addr) (n c : Nat), v = .agg #[.slice a n c, .int .i64 res] ∧ Rd w (fun _ => True) (encSteps ss) (.slice a n c) := by
  obtain ⟨cs, rfl, hsz⟩ := okWide_struct Try.underlying29 hv
  rw [show Try.prog.cellsOf 29 = 2 from by kernel_rfl] at hsz
  obtain ⟨fuel, hf⟩ := h
  obtain ⟨d, h1, h2⟩ := ent2_rowBlock fuel cs.toList _ (fun fu v y _ hq => ent2_Step fu v y hq) hf
  obtain ⟨u0, u1, e⟩ := len2 (l := cs.toList) (by simpa using hsz)
  rw [e] at h2
  rw [rowB_eq] at h2
  obtain ⟨_, q0, r0⟩ := h2 0 (by omega)
  obtain ⟨_, q1, r1⟩ := h2 1 (by omega)
  simp at q0 q1
  subst q0 q1
  have e1 := Rd.num_inv (z := d.result) r1
  replace r0 : Rd w (fun _ => True) (encSteps d.steps) u0 := r0
  obtain ⟨a, n, c, e2, _⟩ := arr_slice r0
  subst e1 e2
  exact ⟨d.steps, d.result, a, n, c, by rw [← Array.toArray_toList (xs := cs), e], r0⟩


set_option maxRecDepth 100000 in
theorem ent2_valNormal {r : Reach} {b0 : Nat} {v : Value} {d : DataW H} {p : List MemPlace} (hv : Value.okWide Try.prog w r b0 25 v) (h : DataW.Trod enc Try.prog w base (fun _ => true) held 25 v d p) :
    ∃ (ds : List DeclL) (fs : List RoutL) (a : Option Addr) (n c : Nat) (a' : Option Addr) (n' c' : Nat), v = .agg #[.slice a n c, .slice a' n' c'] ∧ Rd w (fun _ => True) (encDecls ds) (.slice a n c) ∧ Rd w (fun _ => True) (encRouts fs) (.slice a' n' c') := by
  obtain ⟨cs, rfl, hsz⟩ := okWide_struct Try.underlying25 hv
  rw [show Try.prog.cellsOf 25 = 2 from by kernel_rfl] at hsz
  obtain ⟨fuel, hf⟩ := h
  obtain ⟨u0, u1, e⟩ := len2 (l := cs.toList) (by simpa using hsz)
  replace hf : DataW.trod enc Try.prog w base (fun _ => true) held fuel 25 cs.toList = some (d, p) := hf
  rw [e] at hf
  obtain ⟨ys, m, hfu, _, hcl, hyl, hg⟩ := DataW.trod_struct Try.underlying25 hf
  have h0 := hg 0 _ rfl
  have h1 := hg 1 _ rfl
  obtain ⟨y0, y1, rfl⟩ := len2 (l := ys) (by rw [hyl]; rfl)
  simp at h0 h1
  rw [show Try.prog.cellsOf 22 = 1 from by kernel_rfl] at h0
  rw [show Try.prog.cellsOf 23 = 1 from by kernel_rfl] at h1
  simp at h0 h1
  obtain ⟨a, n, c, ds, rfl, r0⟩ := ent2_Decl _ _ _ h0
  obtain ⟨a', n', c', fs, rfl, r1⟩ := ent2_Routine _ _ _ h1
  exact ⟨ds, fs, a, n, c, a', n', c', by rw [← Array.toArray_toList (xs := cs), e], r0, r1⟩

end
end Go.Proofs.Ytmekdccgjgfiaaa
/- From the reading of an expression that came in to data that can be read, whose numbers are in range. -/
namespace Go.Proofs.Ytmekdccgjgfiaaa
open Go.RowKit Go.ChangeShapes Go.WideShapes Go.Deep

theorem allEs_of {P : Int → Int → Prop} {es : List ExprL} (h : ∀ j, j < es.length → allE P (eAt es j)) : allEs P es := by
  induction es with
  | nil => trivial
  | cons e es ih => exact ⟨h 0 (by simp), ih (fun j hj => by have := h (j + 1) (by simpa using hj); simpa [eAt] using this)⟩

section
variable {H : Type} {enc : TypeId × Value → H} {w : World} {base : Nat} {held : Bool}
end
end Go.Proofs.Ytmekdccgjgfiaaa
/- From the reading of blocks and normal forms that came in to data that can be read, whose steps' numbers are in range. -/
namespace Go.Proofs.Ytmekdccgjgfiaaa
open Go.RowKit Go.ChangeShapes Go.WideShapes Go.Deep

mutual
/-- Numbers of steps are integers. -/
def fitS : StepL → Prop
  | .mk op num _ _ ks => fitN op num ∧ fitBs ks
def fitSs : List StepL → Prop
  | [] => True
  | s :: ss => fitS s ∧ fitSs ss
def fitB : BlockL → Prop
  | .mk ss _ => fitSs ss
def fitBs : List BlockL → Prop
  | [] => True
  | b :: bs => fitB b ∧ fitBs bs
end
def fitRs (rs : List RoutL) : Prop := ∀ i, i < rs.length → fitSs (rtAt rs i).body.steps
theorem fitSs_of {ss : List StepL} (h : ∀ j, j < ss.length → fitS (sAt ss j)) : fitSs ss := by
  induction ss with
  | nil => trivial
  | cons e es ih => exact ⟨h 0 (by simp), ih (fun j hj => by have := h (j + 1) (by simpa using hj); simpa [sAt] using this)⟩
theorem fitBs_of {bs : List BlockL} (h : ∀ j, j < bs.length → fitB (bAt bs j)) : fitBs bs := by
  induction bs with
  | nil => trivial
  | cons e es ih => exact ⟨h 0 (by simp), ih (fun j hj => by have := h (j + 1) (by simpa using hj); simpa [bAt] using this)⟩
mutual
theorem okS_of : ∀ s : StepL, fitS s → szR (rowS s) ≤ 1048576 → okS s
  | .mk op num into args ks, h, hz => by
    have hl : (args.map rowI).length = args.length := by simp
    simp only [rowS, szR, szD, encInts, List.length_map] at hz
    exact ⟨h.1, by omega, okBs_of ks h.2 (by omega)⟩
theorem okSs_of' : ∀ ss : List StepL, fitSs ss → szRR (rowsS ss) ≤ 1048576 → okSs ss
  | [], _, _ => trivial
  | s :: ss, h, hz => by
    rw [rowsS, szRR] at hz
    exact ⟨okS_of s h.1 (by omega), okSs_of' ss h.2 (by omega)⟩
theorem okB_of : ∀ b : BlockL, fitB b → szR (rowB b) ≤ 1048576 → okB b
  | .mk ss r, h, hz => by
    simp only [rowB, szR, szD] at hz
    exact okSs_of' ss h (by omega)
theorem okBs_of : ∀ bs : List BlockL, fitBs bs → szRR (rowsB bs) ≤ 1048576 → okBs bs
  | [], _, _ => trivial
  | b :: bs, h, hz => by
    rw [rowsB, szRR] at hz
    exact ⟨okB_of b h.1 (by omega), okBs_of bs h.2 (by omega)⟩
end
theorem okSs_of {ss : List StepL} (h : fitSs ss) (hz : szD (encSteps ss) ≤ 1048576) : okSs ss :=
  okSs_of' ss h (by rw [encSteps, szD] at hz; omega)
def okRs (rs : List RoutL) : Prop := ∀ i, i < rs.length → okSs (rtAt rs i).body.steps
theorem szRR_rows_le {α : Type} (f : α → List Dat) (l : List α) {x : α} (hx : x ∈ l) : szR (f x) ≤ szRR (l.map f) := by
  induction l with
  | nil => cases hx
  | cons y l ih =>
    rw [List.map_cons, szRR]
    rcases List.mem_cons.1 hx with rfl | h
    · omega
    · have := ih h; omega
theorem okRs_of {rs : List RoutL} (h : fitRs rs) (hz : szD (encRouts rs) ≤ 1048576) : okRs rs := fun i hi => by
  refine okSs_of (h i hi) ?_
  have h1 := szRR_rows_le rowR rs (x := rtAt rs i) (by rw [rtAt_get hi]; exact List.getElem_mem hi)
  rw [encRouts, szD] at hz
  rw [rowR] at h1
  simp only [szR] at h1
  omega

section
variable {H : Type} {enc : TypeId × Value → H} {w : World} {base : Nat} {held : Bool}
theorem ent5_rowStep (fuel : Nat) (cs : List Value) (x : DataW H × List MemPlace) (ihInt : ∀ fuel' v y, fuel' < fuel → DataW.trod enc Try.prog w base (fun _ => true) held fuel' 26 [v] = some y → ∃ a n c xs, v = .slice a n c ∧ Rd w (fun _ => True) (encInts xs) (.slice a n c)) (ihBlock : ∀ fuel' v y, fuel' < fuel → DataW.trod enc Try.prog w base (fun _ => true) held fuel' 76 [v] = some y → ∃ a n c xs, v = .slice a n c ∧ Rd w (fun _ => True) (encBlocks xs) (.slice a n c) ∧ fitBs xs)
    (h : DataW.trod enc Try.prog w base (fun _ => true) held fuel 78 cs = some x) : ∃ d : StepL, (rowS d).length = 5 ∧ fitS d ∧ ∀ j, j < 5 → ∃ u, cs[j]? = some u ∧ Rd w (fun _ => True) (dGet (rowS d) j) u := by
  obtain ⟨ys, m, hfu, _, hcl, hyl, hf⟩ := DataW.trod_struct Try.underlying78 h
  have h0 := hf 0 _ rfl
  have h1 := hf 1 _ rfl
  have h2 := hf 2 _ rfl
  have h3 := hf 3 _ rfl
  have h4 := hf 4 _ rfl
  have hN : cs.length = 5 := by rw [hcl]; kernel_rfl
  obtain ⟨v0, v1, v2, v3, v4, rfl⟩ := len5 hN
  have hY : ys.length = 5 := by rw [hyl]; rfl
  obtain ⟨y0, y1, y2, y3, y4, rfl⟩ := len5 hY
  simp at h0
  rw [show Try.prog.cellsOf 3 = 1 from by kernel_rfl] at h0
  simp at h0
  obtain ⟨z0, e0, _⟩ := DataW.trod_int Try.underlying3 h0
  simp at e0
  subst e0
  simp at h1
  rw [show Try.prog.cellsOf 3 = 1 from by kernel_rfl] at h1
  simp at h1
  obtain ⟨z1, e1, wf1⟩ := DataW.trod_int Try.underlying3 h1
  simp at e1
  subst e1
  simp at h2
  rw [show Try.prog.cellsOf 3 = 1 from by kernel_rfl] at h2
  simp at h2
  obtain ⟨z2, e2, _⟩ := DataW.trod_int Try.underlying3 h2
  simp at e2
  subst e2
  simp at h3
  rw [show Try.prog.cellsOf 26 = 1 from by kernel_rfl] at h3
  simp at h3
  obtain ⟨a3, n3, c3, xs3, rfl, r3⟩ := ihInt m _ _ (by omega) h3
  simp at h4
  rw [show Try.prog.cellsOf 76 = 1 from by kernel_rfl] at h4
  simp at h4
  obtain ⟨a4, n4, c4, xs4, rfl, r4, q4⟩ := ihBlock m _ _ (by omega) h4
  refine ⟨StepL.mk z0 z1 z2 xs3 xs4, rfl, ⟨int_fits wf1.2, q4⟩, fun j hj => ?_⟩
  rcases j with _ | _ | _ | _ | _ | j
  · exact ⟨_, rfl, .num _⟩
  · exact ⟨_, rfl, .num _⟩
  · exact ⟨_, rfl, .num _⟩
  · exact ⟨_, rfl, r3⟩
  · exact ⟨_, rfl, r4⟩
  · omega
theorem ent5_rowBlock (fuel : Nat) (cs : List Value) (x : DataW H × List MemPlace) (ihStep : ∀ fuel' v y, fuel' < fuel → DataW.trod enc Try.prog w base (fun _ => true) held fuel' 27 [v] = some y → ∃ a n c xs, v = .slice a n c ∧ Rd w (fun _ => True) (encSteps xs) (.slice a n c) ∧ fitSs xs)
    (h : DataW.trod enc Try.prog w base (fun _ => true) held fuel 29 cs = some x) : ∃ d : BlockL, (rowB d).length = 2 ∧ fitB d ∧ ∀ j, j < 2 → ∃ u, cs[j]? = some u ∧ Rd w (fun _ => True) (dGet (rowB d) j) u := by
  obtain ⟨ys, m, hfu, _, hcl, hyl, hf⟩ := DataW.trod_struct Try.underlying29 h
  have h0 := hf 0 _ rfl
  have h1 := hf 1 _ rfl
  have hN : cs.length = 2 := by rw [hcl]; kernel_rfl
  obtain ⟨v0, v1, rfl⟩ := len2 hN
  have hY : ys.length = 2 := by rw [hyl]; rfl
  obtain ⟨y0, y1, rfl⟩ := len2 hY
  simp at h0
  rw [show Try.prog.cellsOf 27 = 1 from by kernel_rfl] at h0
  simp at h0
  obtain ⟨a0, n0, c0, xs0, rfl, r0, q0⟩ := ihStep m _ _ (by omega) h0
  simp at h1
  rw [show Try.prog.cellsOf 3 = 1 from by kernel_rfl] at h1
  simp at h1
  obtain ⟨z1, e1, _⟩ := DataW.trod_int Try.underlying3 h1
  simp at e1
  subst e1
  refine ⟨BlockL.mk xs0 z1, rfl, q0, fun j hj => ?_⟩
  rcases j with _ | _ | j
  · exact ⟨_, rfl, r0⟩
  · exact ⟨_, rfl, .num _⟩
  · omega
theorem ent5_SB_n (N : Nat) : (∀ (fuel : Nat), fuel < N → ∀ (v : Value) (y : DataW H × List MemPlace), DataW.trod enc Try.prog w base (fun _ => true) held fuel 27 [v] = some y → ∃ a n c xs, v = .slice a n c ∧ Rd w (fun _ => True) (encSteps xs) (.slice a n c) ∧ fitSs xs) ∧
    (∀ (fuel : Nat), fuel < N → ∀ (v : Value) (y : DataW H × List MemPlace), DataW.trod enc Try.prog w base (fun _ => true) held fuel 76 [v] = some y → ∃ a n c xs, v = .slice a n c ∧ Rd w (fun _ => True) (encBlocks xs) (.slice a n c) ∧ fitBs xs) := by
  induction N with
  | zero => exact ⟨fun fuel h => by omega, fun fuel h => by omega⟩
  | succ N ihN =>
  obtain ⟨ihS, ihB⟩ := ihN
  refine ⟨?_, ?_⟩
  · intro fuel hN v y h
    obtain ⟨a, n, c, rfl, hnc, hm, hel⟩ := ent2_slice 5 (by omega) Try.underlying27 (by kernel_rfl) h
    rcases Nat.eq_zero_or_pos n with rfl | hn
    · exact ⟨a, 0, c, [], rfl, .nil _ _ _, trivial⟩
    obtain ⟨b, o, rfl, hel2⟩ := hel hn
    obtain ⟨l, hl, hp⟩ := ent_choose n (fun i (d : StepL) => (rowS d).length = 5 ∧ fitS d ∧ ∀ j, j < 5 → ∃ u, w.cell? ⟨b, o + i * 5 + j, none⟩ = some u ∧ Rd w (fun _ => True) (dGet (rowS d) j) u) (fun i hi => by
      obtain ⟨cs, fu, y, hfu, hlen, hcell, hy⟩ := hel2 i hi
      obtain ⟨d, h1, hq, h2⟩ := ent5_rowStep fu cs y (fun fu v y _ hq => ent2_Int fu v y hq) (fun fu2 v y hfu2 hq => ihB fu2 (by omega) v y hq) hy
      exact ⟨d, h1, hq, fun j hj => by rw [hcell j hj]; exact h2 j hj⟩) (default : StepL)
    refine ⟨_, n, c, l, rfl, ?_, fitSs_of (fun j hj => by rw [sAt_get hj]; have := (hp j (by omega)).2.1; simpa [List.getD, List.getElem?_eq_getElem hj] using this)⟩
    refine ent2_build (s := 5) (rows := (rowsS l)) (by omega) (by rw [steps_len]; exact hl) hn hnc hm (fun i hi => ?_)
    have hg : rGet (rowsS l) i = rowS (sAt l i) := by rw [rGet_lt (by rw [steps_len]; omega), sAt_get (by omega)]; simp [rowsS_map]
    rw [hg]
    refine ⟨(hp i hi).1, fun j hj => ?_⟩
    rw [rAt, hg]
    exact (hp i hi).2.2 j hj
  · intro fuel hN v y h
    obtain ⟨a, n, c, rfl, hnc, hm, hel⟩ := ent2_slice 2 (by omega) Try.underlying76 (by kernel_rfl) h
    rcases Nat.eq_zero_or_pos n with rfl | hn
    · exact ⟨a, 0, c, [], rfl, .nil _ _ _, trivial⟩
    obtain ⟨b, o, rfl, hel2⟩ := hel hn
    obtain ⟨l, hl, hp⟩ := ent_choose n (fun i (d : BlockL) => (rowB d).length = 2 ∧ fitB d ∧ ∀ j, j < 2 → ∃ u, w.cell? ⟨b, o + i * 2 + j, none⟩ = some u ∧ Rd w (fun _ => True) (dGet (rowB d) j) u) (fun i hi => by
      obtain ⟨cs, fu, y, hfu, hlen, hcell, hy⟩ := hel2 i hi
      obtain ⟨d, h1, hq, h2⟩ := ent5_rowBlock fu cs y (fun fu2 v y hfu2 hq => ihS fu2 (by omega) v y hq) hy
      exact ⟨d, h1, hq, fun j hj => by rw [hcell j hj]; exact h2 j hj⟩) (default : BlockL)
    refine ⟨_, n, c, l, rfl, ?_, fitBs_of (fun j hj => by rw [bAt_get hj]; have := (hp j (by omega)).2.1; simpa [List.getD, List.getElem?_eq_getElem hj] using this)⟩
    refine ent2_build (s := 2) (rows := (rowsB l)) (by omega) (by rw [blocks_len]; exact hl) hn hnc hm (fun i hi => ?_)
    have hg : rGet (rowsB l) i = rowB (bAt l i) := by rw [rGet_lt (by rw [blocks_len]; omega), bAt_get (by omega)]; simp [rowsB_map]
    rw [hg]
    refine ⟨(hp i hi).1, fun j hj => ?_⟩
    rw [rAt, hg]
    exact (hp i hi).2.2 j hj
theorem ent5_Step (fuel : Nat) (v : Value) (y : DataW H × List MemPlace) (h : DataW.trod enc Try.prog w base (fun _ => true) held fuel 27 [v] = some y) : ∃ a n c xs, v = .slice a n c ∧ Rd w (fun _ => True) (encSteps xs) (.slice a n c) ∧ fitSs xs := ent5_SB_n (fuel + 1) |>.1 fuel (Nat.lt_succ_self _) v y h
theorem ent5_Block (fuel : Nat) (v : Value) (y : DataW H × List MemPlace) (h : DataW.trod enc Try.prog w base (fun _ => true) held fuel 76 [v] = some y) : ∃ a n c xs, v = .slice a n c ∧ Rd w (fun _ => True) (encBlocks xs) (.slice a n c) ∧ fitBs xs := ent5_SB_n (fuel + 1) |>.2 fuel (Nat.lt_succ_self _) v y h

theorem ent5_rowRoutine (fuel : Nat) (cs : List Value) (x : DataW H × List MemPlace) (ihInt : ∀ fuel' v y, fuel' < fuel → DataW.trod enc Try.prog w base (fun _ => true) held fuel' 26 [v] = some y → ∃ a n c xs, v = .slice a n c ∧ Rd w (fun _ => True) (encInts xs) (.slice a n c)) (ihStep : ∀ fuel' v y, fuel' < fuel → DataW.trod enc Try.prog w base (fun _ => true) held fuel' 27 [v] = some y → ∃ a n c xs, v = .slice a n c ∧ Rd w (fun _ => True) (encSteps xs) (.slice a n c) ∧ fitSs xs)
    (h : DataW.trod enc Try.prog w base (fun _ => true) held fuel 74 cs = some x) : ∃ d : RoutL, (rowR d).length = 5 ∧ fitSs d.body.steps ∧ ∀ j, j < 5 → ∃ u, cs[j]? = some u ∧ Rd w (fun _ => True) (dGet (rowR d) j) u := by
  obtain ⟨ys, m, hfu, _, hcl, hyl, hf⟩ := DataW.trod_struct Try.underlying74 h
  have h0 := hf 0 _ rfl
  have h1 := hf 1 _ rfl
  have h2 := hf 2 _ rfl
  have h3 := hf 3 _ rfl
  have hN : cs.length = 5 := by rw [hcl]; kernel_rfl
  obtain ⟨v0, v1, v2, v3, v4, rfl⟩ := len5 hN
  have hY : ys.length = 4 := by rw [hyl]; rfl
  obtain ⟨y0, y1, y2, y3, rfl⟩ := len4 hY
  simp at h0
  rw [show Try.prog.cellsOf 26 = 1 from by kernel_rfl] at h0
  simp at h0
  obtain ⟨a0, n0, c0, xs0, rfl, r0⟩ := ihInt m _ _ (by omega) h0
  simp at h1
  rw [show Try.prog.cellsOf 26 = 1 from by kernel_rfl] at h1
  simp at h1
  obtain ⟨a1, n1, c1, xs1, rfl, r1⟩ := ihInt m _ _ (by omega) h1
  simp at h2
  rw [show Try.prog.cellsOf 3 = 1 from by kernel_rfl] at h2
  simp at h2
  obtain ⟨z2, e2, _⟩ := DataW.trod_int Try.underlying3 h2
  simp at e2
  subst e2
  simp at h3
  rw [show Try.prog.cellsOf 29 = 2 from by kernel_rfl] at h3
  simp at h3
  obtain ⟨x3, hx3a, hxq, hx3b⟩ := ent5_rowBlock m _ _ (fun fu v y hfu' hq => ihStep fu v y (by omega) hq) h3
  refine ⟨⟨xs0, xs1, z2, x3⟩, rfl, by cases x3; exact hxq, fun j hj => ?_⟩
  rcases j with _ | _ | _ | _ | _ | j
  · exact ⟨_, rfl, r0⟩
  · exact ⟨_, rfl, r1⟩
  · exact ⟨_, rfl, .num _⟩
  · obtain ⟨u, hu, hr⟩ := hx3b 0 (by omega)
    refine ⟨u, hu, ?_⟩
    rw [show dGet (rowR ⟨xs0, xs1, z2, x3⟩) 3 = dGet (rowB x3) 0 from by cases x3; rfl]
    exact hr
  · obtain ⟨u, hu, hr⟩ := hx3b 1 (by omega)
    refine ⟨u, hu, ?_⟩
    rw [show dGet (rowR ⟨xs0, xs1, z2, x3⟩) 4 = dGet (rowB x3) 1 from by cases x3; rfl]
    exact hr
  · omega
theorem ent5_Routine (fuel : Nat) (v : Value) (y : DataW H × List MemPlace) (h : DataW.trod enc Try.prog w base (fun _ => true) held fuel 23 [v] = some y) : ∃ a n c xs, v = .slice a n c ∧ Rd w (fun _ => True) (encRouts xs) (.slice a n c) ∧ fitRs xs := by
  obtain ⟨a, n, c, rfl, hnc, hm, hel⟩ := ent2_slice 5 (by omega) Try.underlying23 (by kernel_rfl) h
  rcases Nat.eq_zero_or_pos n with rfl | hn
  · exact ⟨a, 0, c, [], rfl, .nil _ _ _, fun i hi => absurd hi (by simp)⟩
  obtain ⟨b, o, rfl, hel2⟩ := hel hn
  obtain ⟨l, hl, hp⟩ := ent_choose n (fun i (d : RoutL) => (rowR d).length = 5 ∧ fitSs d.body.steps ∧ ∀ j, j < 5 → ∃ u, w.cell? ⟨b, o + i * 5 + j, none⟩ = some u ∧ Rd w (fun _ => True) (dGet (rowR d) j) u) (fun i hi => by
    obtain ⟨cs, fu, y, hfu, hlen, hcell, hy⟩ := hel2 i hi
    obtain ⟨d, h1, hq, h2⟩ := ent5_rowRoutine fu cs y (fun fu v y _ hq => ent2_Int fu v y hq) (fun fu v y _ hq => ent5_Step fu v y hq) hy
    exact ⟨d, h1, hq, fun j hj => by rw [hcell j hj]; exact h2 j hj⟩) (default : RoutL)
  refine ⟨_, n, c, l, rfl, ?_, fun j hj => by rw [rtAt_get hj]; have := (hp j (by omega)).2.1; simpa [List.getD, List.getElem?_eq_getElem hj] using this⟩
  refine ent2_build (s := 5) (rows := (l.map rowR)) (by omega) (by rw [routs_len]; exact hl) hn hnc hm (fun i hi => ?_)
  have hg : rGet (l.map rowR) i = rowR (rtAt l i) := by rw [rGet_lt (by rw [routs_len]; omega), rtAt_get (by omega)]; simp
  rw [hg]
  refine ⟨(hp i hi).1, fun j hj => ?_⟩
  rw [rAt, hg]
  exact (hp i hi).2.2 j hj
set_option maxRecDepth 100000 in
theorem ent5_valBlock {r : Reach} {b0 : Nat} {v : Value} {d : DataW H} {p : List MemPlace} (hv : Value.okWide Try.prog w r b0 29 v) (h : DataW.Trod enc Try.prog w base (fun _ => true) held 29 v d p) :
    ∃ (ss : List StepL) (res : Int) (a : Option Addr) (n c : Nat), v = .agg #[.slice a n c, .int .i64 res] ∧ Rd w (fun _ => True) (encSteps ss) (.slice a n c) ∧ fitSs ss := by
  obtain ⟨cs, rfl, hsz⟩ := okWide_struct Try.underlying29 hv
  rw [show Try.prog.cellsOf 29 = 2 from by kernel_rfl] at hsz
  obtain ⟨fuel, hf⟩ := h
  obtain ⟨d, h1, hq, h2⟩ := ent5_rowBlock fuel cs.toList _ (fun fu v y _ hq => ent5_Step fu v y hq) hf
  obtain ⟨u0, u1, e⟩ := len2 (l := cs.toList) (by simpa using hsz)
  rw [e] at h2
  rw [rowB_eq] at h2
  obtain ⟨_, q0, r0⟩ := h2 0 (by omega)
  obtain ⟨_, q1, r1⟩ := h2 1 (by omega)
  simp at q0 q1
  subst q0 q1
  have e1 := Rd.num_inv (z := d.result) r1
  replace r0 : Rd w (fun _ => True) (encSteps d.steps) u0 := r0
  obtain ⟨a, n, c, e2, _⟩ := arr_slice r0
  subst e1 e2
  exact ⟨d.steps, d.result, a, n, c, by rw [← Array.toArray_toList (xs := cs), e], r0, by cases d; exact hq⟩
set_option maxRecDepth 100000 in
theorem ent5_valNormal {r : Reach} {b0 : Nat} {v : Value} {d : DataW H} {p : List MemPlace} (hv : Value.okWide Try.prog w r b0 25 v) (h : DataW.Trod enc Try.prog w base (fun _ => true) held 25 v d p) :
    ∃ (ds : List DeclL) (fs : List RoutL) (a : Option Addr) (n c : Nat) (a' : Option Addr) (n' c' : Nat), v = .agg #[.slice a n c, .slice a' n' c'] ∧ Rd w (fun _ => True) (encDecls ds) (.slice a n c) ∧ Rd w (fun _ => True) (encRouts fs) (.slice a' n' c') ∧ fitRs fs := by
  obtain ⟨cs, rfl, hsz⟩ := okWide_struct Try.underlying25 hv
  rw [show Try.prog.cellsOf 25 = 2 from by kernel_rfl] at hsz
  obtain ⟨fuel, hf⟩ := h
  obtain ⟨u0, u1, e⟩ := len2 (l := cs.toList) (by simpa using hsz)
  replace hf : DataW.trod enc Try.prog w base (fun _ => true) held fuel 25 cs.toList = some (d, p) := hf
  rw [e] at hf
  obtain ⟨ys, m, hfu, _, hcl, hyl, hg⟩ := DataW.trod_struct Try.underlying25 hf
  have h0 := hg 0 _ rfl
  have h1 := hg 1 _ rfl
  obtain ⟨y0, y1, rfl⟩ := len2 (l := ys) (by rw [hyl]; rfl)
  simp at h0 h1
  rw [show Try.prog.cellsOf 22 = 1 from by kernel_rfl] at h0
  rw [show Try.prog.cellsOf 23 = 1 from by kernel_rfl] at h1
  simp at h0 h1
  obtain ⟨a, n, c, ds, rfl, r0⟩ := ent2_Decl _ _ _ h0
  obtain ⟨a', n', c', fs, rfl, r1, hq⟩ := ent5_Routine _ _ _ h1
  exact ⟨ds, fs, a, n, c, a', n', c', by rw [← Array.toArray_toList (xs := cs), e], r0, r1, hq⟩
end
end Go.Proofs.Ytmekdccgjgfiaaa
