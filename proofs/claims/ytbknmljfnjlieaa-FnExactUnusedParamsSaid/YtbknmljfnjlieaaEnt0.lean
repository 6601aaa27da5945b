/- From the reading of arguments that came in to the words of this seat: integers. -/
import Derived.Test.YtbknmljfnjlieaaGA
import Derived.Deep.Slices
import Derived.ChangeSame
import Derived.ChangeSlices
import Derived.ChangeArms
namespace Go.Proofs.Ytbknmljfnjlieaa
open Go.RowKit Go.ChangeShapes Go.WideShapes Go.Deep

theorem addr_plain {w : World} {x : Addr} {v : Value} (h : w.cell? x = some v) : ∃ b o, x = ⟨b, o, none⟩ := by
  obtain ⟨b, o, s⟩ := x
  cases s with
  | none => exact ⟨b, o, rfl⟩
  | some s =>
    exfalso
    unfold World.cell? at h
    split at h <;> simp at h

theorem int_fits {n : Int} (h : (Lit.int .i64 n).wf = true) : -9223372036854775808 ≤ n ∧ n ≤ 9223372036854775807 := by
  simp [Lit.wf, IntKind.min, IntKind.max, IntKind.signed, IntKind.bits] at h
  omega

section
variable {H : Type} {enc : TypeId × Value → H} {P : Program} {w : World} {base : Nat} {held : Bool} {D : Nat → Prop}

theorem ent_ints {t e : TypeId} {fuel : Nat} {a : Option Addr} {n c : Nat} {x : DataW H × List MemPlace} (ht : P.underlying t = some (.slice e)) (he : P.underlying e = some (.int .i64)) (hc : P.cellsOf e = 1)
    (h : DataW.trod enc P w base (fun _ => true) held fuel t [.slice a n c] = some x) : n ≤ c ∧ ∃ xs, IntsL w (fun _ => True) a n xs ∧ xs.length ≤ 9223372036854775807 := by
  rcases open_ints ht he hc h with ⟨hcs, _⟩ | ⟨ad, len, cap, zs, hcs, _, hl, hm, hz, _, hcell, _⟩
  · simp at hcs
    obtain ⟨rfl, rfl, rfl⟩ := hcs
    exact ⟨Nat.le_refl _, [], ⟨rfl, fun h => absurd h (by omega)⟩, by simp⟩
  · simp at hcs
    obtain ⟨rfl, rfl, rfl⟩ := hcs
    simp at hz
    refine ⟨hl, zs.take n, ⟨by simp; omega, fun hn => ?_⟩, by have := hm; simp only [maxLen] at this; simp; omega⟩
    obtain ⟨b, o, rfl⟩ : ∃ b o, ad = ⟨b, o, none⟩ := by
      have := hcell 0 (by omega)
      rw [show ad.add 0 = ad from by simp [Addr.add]] at this
      exact addr_plain this
    refine ⟨b, o, rfl, trivial, fun i hi => ?_⟩
    have := hcell i (by omega)
    rw [Addr.add_lit] at this
    rw [this]
    simp [iAt, hi]

theorem ent_choose {α : Type} (n : Nat) (p : Nat → α → Prop) (h : ∀ i, i < n → ∃ x, p i x) (d : α) : ∃ l : List α, l.length = n ∧ ∀ i, i < n → p i (l.getD i d) := by
  induction n with
  | zero => exact ⟨[], rfl, fun i hi => absurd hi (by omega)⟩
  | succ n ih =>
    obtain ⟨l, hl, hp⟩ := ih fun i hi => h i (by omega)
    obtain ⟨x, hx⟩ := h n (by omega)
    refine ⟨l ++ [x], by simp [hl], fun i hi => ?_⟩
    rcases Nat.lt_succ_iff_lt_or_eq.1 hi with h1 | rfl
    · have := hp i h1
      simpa [List.getD, List.getElem?_append_left (show i < l.length by omega)] using this
    · simpa [List.getD, ← hl] using hx

end
end Go.Proofs.Ytbknmljfnjlieaa
