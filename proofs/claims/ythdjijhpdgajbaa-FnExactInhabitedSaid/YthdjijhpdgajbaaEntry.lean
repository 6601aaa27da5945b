/- From the reading of arguments that came in to the words of this seat: integers, constructors, declarations. -/
import Derived.Test.YthdjijhpdgajbaaSizePlain
import Derived.Deep.Slices
import Derived.ChangeSame
import Derived.ChangeSlices
import Derived.ChangeArms
namespace Go.Proofs.Ythdjijhpdgajbaa
open Go.RowKit Go.ChangeShapes Go.WideShapes Go.Deep

theorem addr_plain {w : World} {x : Addr} {v : Value} (h : w.cell? x = some v) : ∃ b o, x = ⟨b, o, none⟩ := by
  obtain ⟨b, o, s⟩ := x
  cases s with
  | none => exact ⟨b, o, rfl⟩
  | some s =>
    exfalso
    unfold World.cell? at h
    split at h <;> simp at h

theorem int_fits {n : Int} (h : (Lit.int .i64 n).wf = true) : -9223372036854775808 ≤ n ∧ n ≤ 9223372036854775807 := by
  simp [Lit.wf, IntKind.min, IntKind.max, IntKind.signed, IntKind.bits] at h
  omega

section
variable {H : Type} {enc : TypeId × Value → H} {P : Program} {w : World} {base : Nat} {held : Bool} {D : Nat → Prop}

theorem ent_ints {t e : TypeId} {fuel : Nat} {a : Option Addr} {n c : Nat} {x : DataW H × List MemPlace} (ht : P.underlying t = some (.slice e)) (he : P.underlying e = some (.int .i64)) (hc : P.cellsOf e = 1)
    (h : DataW.trod enc P w base (fun _ => true) held fuel t [.slice a n c] = some x) : n ≤ c ∧ ∃ xs, IntsL w (fun _ => True) a n xs ∧ xs.length ≤ 9223372036854775807 := by
  rcases open_ints ht he hc h with ⟨hcs, _⟩ | ⟨ad, len, cap, zs, hcs, _, hl, hm, hz, _, hcell, _⟩
  · simp at hcs
    obtain ⟨rfl, rfl, rfl⟩ := hcs
    exact ⟨Nat.le_refl _, [], ⟨rfl, fun h => absurd h (by omega)⟩, by simp⟩
  · simp at hcs
    obtain ⟨rfl, rfl, rfl⟩ := hcs
    simp at hz
    refine ⟨hl, zs.take n, ⟨by simp; omega, fun hn => ?_⟩, by have := hm; simp only [maxLen] at this; simp; omega⟩
    obtain ⟨b, o, rfl⟩ : ∃ b o, ad = ⟨b, o, none⟩ := by
      have := hcell 0 (by omega)
      rw [show ad.add 0 = ad from by simp [Addr.add]] at this
      exact addr_plain this
    refine ⟨b, o, rfl, trivial, fun i hi => ?_⟩
    have := hcell i (by omega)
    rw [Addr.add_lit] at this
    rw [this]
    simp [iAt, hi]

/-- A slice whose elements have one cell or more: the cells of each element. -/
theorem ent_slice {t e : TypeId} {fuel : Nat} {a : Option Addr} {n c : Nat} {x : DataW H × List MemPlace} (s : Nat) (hs0 : 0 < s) (ht : P.underlying t = some (.slice e)) (hc : P.cellsOf e = s)
    (h : DataW.trod enc P w base (fun _ => true) held fuel t [.slice a n c] = some x) : n ≤ c ∧ n ≤ 9223372036854775807 ∧ (0 < n → ∃ b o, a = some ⟨b, o, none⟩ ∧
      ∀ i, i < n → ∃ cs fuel' y, cs.length = s ∧ (∀ j, j < s → w.cell? ⟨b, o + i * s + j, none⟩ = cs[j]?) ∧ DataW.trod enc P w base (fun _ => true) held fuel' e cs = some y) := by
  rcases open_slice ht h with ⟨hcs, _⟩ | ⟨ad, len, cap, m, n', D, Pl, hcs, _, hl, hml, hm, _, hel⟩
  · simp at hcs
    obtain ⟨rfl, rfl, rfl⟩ := hcs
    exact ⟨Nat.le_refl _, by omega, fun h => absurd h (by omega)⟩
  · simp at hcs hm
    obtain ⟨rfl, rfl, rfl⟩ := hcs
    subst hm
    refine ⟨hl, by have := hml; simp only [maxLen] at this; omega, fun hn => ?_⟩
    obtain ⟨b, o, rfl⟩ : ∃ b o, ad = ⟨b, o, none⟩ := by
      obtain ⟨cs', hcs', _⟩ := hel 0 (by omega)
      rw [hc] at hcs'
      obtain ⟨_, hlen, hat⟩ := World.cells?_some hcs'
      have h0 := hat 0 hs0
      rw [show (ad.add (0 * s)).add 0 = ad from by simp [Addr.add], List.getElem?_eq_getElem (by omega)] at h0
      exact addr_plain h0
    refine ⟨b, o, rfl, fun i hi => ?_⟩
    obtain ⟨cs', hcs', hy⟩ := hel i (by omega)
    rw [hc] at hcs'
    obtain ⟨_, hlen, hat⟩ := World.cells?_some hcs'
    refine ⟨cs', n', _, hlen, fun j hj => ?_, hy⟩
    have := hat j hj
    rw [Addr.add_lit, Addr.add_lit] at this
    exact this

theorem ent_choose {α : Type} (n : Nat) (p : Nat → α → Prop) (h : ∀ i, i < n → ∃ x, p i x) (d : α) : ∃ l : List α, l.length = n ∧ ∀ i, i < n → p i (l.getD i d) := by
  induction n with
  | zero => exact ⟨[], rfl, fun i hi => absurd hi (by omega)⟩
  | succ n ih =>
    obtain ⟨l, hl, hp⟩ := ih fun i hi => h i (by omega)
    obtain ⟨x, hx⟩ := h n (by omega)
    refine ⟨l ++ [x], by simp [hl], fun i hi => ?_⟩
    rcases Nat.lt_succ_iff_lt_or_eq.1 hi with h1 | rfl
    · have := hp i h1
      simpa [List.getD, List.getElem?_append_left (show i < l.length by omega)] using this
    · simpa [List.getD, ← hl] using hx

theorem ent_cons {t e ti ei : TypeId} {f0 : Field} {fuel : Nat} {a : Option Addr} {n c : Nat} {x : DataW H × List MemPlace} (ht : P.underlying t = some (.slice e)) (he : P.underlying e = some (.struct #[f0]))
    (hc : P.cellsOf e = 1) (ho : f0.offset = 0) (hft : f0.type = ti) (hfc : P.cellsOf ti = 1) (hti : P.underlying ti = some (.slice ei)) (hei : P.underlying ei = some (.int .i64)) (hec : P.cellsOf ei = 1)
    (h : DataW.trod enc P w base (fun _ => true) held fuel t [.slice a n c] = some x) : n ≤ c ∧ ∃ cs, ConsR w (fun _ => True) a n cs ∧ LensC cs := by
  obtain ⟨hle, hnm, hel⟩ := ent_slice 1 (by omega) ht hc h
  refine ⟨hle, ?_⟩
  rcases Nat.eq_zero_or_pos n with rfl | hn
  · exact ⟨[], ⟨rfl, fun h => absurd h (by omega)⟩, by simp, fun i hi => absurd hi (by simp)⟩
  obtain ⟨b, o, rfl, hel2⟩ := hel hn
  obtain ⟨l, hl, hp⟩ := ent_choose n (fun i xs => ∃ a' m c, w.cell? ⟨b, o + i, none⟩ = some (.slice a' m c) ∧ m ≤ c ∧ IntsL w (fun _ => True) a' m xs ∧ xs.length ≤ 9223372036854775807) (fun i hi => by
    obtain ⟨cs, fuel', y, hlen, hcell, hy⟩ := hel2 i hi
    obtain ⟨ys, n', _, _, hcl, hyl, hf⟩ := DataW.trod_struct he hy
    have h0 := hf 0 f0 rfl
    rw [ho, hft, hfc] at h0
    match cs, hlen with
    | [v], _ =>
      simp only [List.drop_zero, List.take_succ_cons, List.take_zero] at h0
      have hys : ys.length = 1 := by simpa using hyl
      match ys, hys with
      | [y0], _ =>
        simp only [List.getElem?_cons_zero] at h0
        obtain ⟨a', m, c', rfl⟩ : ∃ a' m c', v = .slice a' m c' := by
          rcases open_ints hti hei hec h0 with ⟨hcs, _⟩ | ⟨ad, len, cap, zs, hcs, _⟩ <;> simp at hcs <;> subst hcs <;> exact ⟨_, _, _, rfl⟩
        obtain ⟨hle', xs, hxs⟩ := ent_ints hti hei hec h0
        have h1 := hcell 0 (by omega)
        exact ⟨xs, a', m, c', by simpa using h1, hle', hxs⟩) []
  refine ⟨l, ⟨hl, fun _ => ⟨b, o, rfl, trivial, fun i hi => ?_⟩⟩, by omega, fun i hi => ?_⟩
  · obtain ⟨a', m, c', h1, h2, h3, _⟩ := hp i hi
    exact ⟨a', m, c', h1, h2, h3⟩
  · obtain ⟨a', m, c', h1, h2, h3, h4⟩ := hp i (by omega)
    exact h4

theorem ent_decls {t e tc ec ti ei : TypeId} {g0 g1 g2 f0 : Field} {fuel : Nat} {a : Option Addr} {n c : Nat} {x : DataW H × List MemPlace} (ht : P.underlying t = some (.slice e)) (he : P.underlying e = some (.struct #[g0, g1, g2]))
    (hc : P.cellsOf e = 3) (ho0 : g0.offset = 0) (ho1 : g1.offset = 1) (ho2 : g2.offset = 2) (hg0 : g0.type = ei) (hg1 : g1.type = ei) (hg2 : g2.type = tc) (hcc : P.cellsOf tc = 1)
    (htc : P.underlying tc = some (.slice ec)) (hec' : P.underlying ec = some (.struct #[f0]))
    (hc' : P.cellsOf ec = 1) (ho : f0.offset = 0) (hft : f0.type = ti) (hfc : P.cellsOf ti = 1) (hti : P.underlying ti = some (.slice ei)) (hei : P.underlying ei = some (.int .i64)) (hec : P.cellsOf ei = 1)
    (h : DataW.trod enc P w base (fun _ => true) held fuel t [.slice a n c] = some x) : n ≤ c ∧ ∃ ds, DeclsR w (fun _ => True) a n ds ∧ LensD ds := by
  obtain ⟨hle, hnm, hel⟩ := ent_slice 3 (by omega) ht hc h
  refine ⟨hle, ?_⟩
  rcases Nat.eq_zero_or_pos n with rfl | hn
  · exact ⟨[], ⟨rfl, fun h => absurd h (by omega)⟩, by simp, fun i hi => absurd hi (by simp)⟩
  obtain ⟨b, o, rfl, hel2⟩ := hel hn
  obtain ⟨l, hl, hp⟩ := ent_choose n (fun i (d : DeclL) => w.cell? ⟨b, o + i * 3, none⟩ = some (.int .i64 d.from_) ∧ w.cell? ⟨b, o + i * 3 + 1, none⟩ = some (.int .i64 d.to_) ∧
      ∃ a' m c, w.cell? ⟨b, o + i * 3 + 2, none⟩ = some (.slice a' m c) ∧ m ≤ c ∧ ConsR w (fun _ => True) a' m d.cons ∧ LensC d.cons) (fun i hi => by
    obtain ⟨cs, fuel', y, hlen, hcell, hy⟩ := hel2 i hi
    obtain ⟨ys, n', _, _, hcl, hyl, hf⟩ := DataW.trod_struct he hy
    have h0 := hf 0 g0 rfl
    have h1 := hf 1 g1 rfl
    have h2 := hf 2 g2 rfl
    rw [ho0, hg0, hec] at h0
    rw [ho1, hg1, hec] at h1
    rw [ho2, hg2, hcc] at h2
    match cs, hlen with
    | [v0, v1, v2], _ =>
      have hys : ys.length = 3 := by simpa using hyl
      match ys, hys with
      | [y0, y1, y2], _ =>
        simp at h0 h1 h2
        obtain ⟨z0, e0, _⟩ := DataW.trod_int hei h0
        obtain ⟨z1, e1, _⟩ := DataW.trod_int hei h1
        simp at e0 e1
        subst e0 e1
        obtain ⟨a', m, c', rfl⟩ : ∃ a' m c', v2 = .slice a' m c' := by
          rcases open_slice htc h2 with ⟨hcs, _⟩ | ⟨ad, len, cap, m, n', D, Pl, hcs, _⟩ <;> simp at hcs <;> subst hcs <;> exact ⟨_, _, _, rfl⟩
        obtain ⟨hle', xs, hxs⟩ := ent_cons htc hec' hc' ho hft hfc hti hei hec h2
        have q0 := hcell 0 (by omega)
        have q1 := hcell 1 (by omega)
        have q2 := hcell 2 (by omega)
        exact ⟨⟨z0, z1, xs⟩, by simpa using q0, by simpa using q1, a', m, c', by simpa using q2, hle', hxs⟩) default
  refine ⟨l, ⟨hl, fun _ => ⟨b, o, rfl, trivial, fun i hi => ?_⟩⟩, by omega, fun i hi => ?_⟩
  · obtain ⟨h0, h1, a', m, c', h2, h3, h4, _⟩ := hp i hi
    exact ⟨h0, h1, a', m, c', h2, h3, h4⟩
  · obtain ⟨h0, h1, a', m, c', h2, h3, h4, h5⟩ := hp i (by omega)
    exact h5
end
end Go.Proofs.Ythdjijhpdgajbaa
