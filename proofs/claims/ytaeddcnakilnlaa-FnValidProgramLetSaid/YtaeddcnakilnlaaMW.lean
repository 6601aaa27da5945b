/- Plain facts for the laws on free variables. -/
import Derived.Test.YtaeddcnakilnlaaWFreePlain
import Derived.Test.YtaeddcnakilnlaaWLawHelp
import Derived.Test.YtaeddcnakilnlaaWSigs
namespace Go.Proofs.Ytaeddcnakilnlaa
open Go.RowKit

theorem AscI.of {xs : List Int} (h : Asc xs) : AscI xs := by
  intro i hi
  rw [iAt_get (by omega), iAt_get hi]
  exact List.pairwise_iff_getElem.1 h i (i + 1) (by omega) hi (by omega)

theorem fvis_mem (z x op num : Int) (s : List Int) : x ∈ fvis z op num s ↔ x ∈ s ∨ (0 ≤ x ∧ x < z ∧ op = 12 ∧ num = x) := by
  unfold fvis
  by_cases h : isFree z op num = true
  · rw [if_pos h, insL_mem]
    simp only [isFree, Bool.and_eq_true, decide_eq_true_eq] at h
    constructor
    · rintro (rfl | h1)
      · exact .inr ⟨h.1.2, h.2, h.1.1, rfl⟩
      · exact .inl h1
    · rintro (h1 | ⟨_, _, _, rfl⟩)
      · exact .inr h1
      · exact .inl rfl
  · rw [if_neg h]
    constructor
    · exact .inl
    · rintro (h1 | ⟨h1, h2, h3, rfl⟩)
      · exact h1
      · exact absurd (by simp [isFree, h1, h2, h3]) h
mutual
theorem fvisE_mem (z x : Int) : ∀ (e : ExprL) (s : List Int), x ∈ visE (fvis z) e s ↔ x ∈ s ∨ (0 ≤ x ∧ x < z ∧ 0 < mE x e)
  | .mk op num ks, s => by
    rw [visE, fvisEs_mem z x ks, fvis_mem, mE]
    by_cases h : op = 12 ∧ num = x
    · rw [if_pos h]
      constructor
      · rintro ((h1 | ⟨h1, h2, _⟩) | ⟨h1, h2, _⟩)
        · exact .inl h1
        · exact .inr ⟨h1, h2, by omega⟩
        · exact .inr ⟨h1, h2, by omega⟩
      · rintro (h1 | ⟨h1, h2, _⟩)
        · exact .inl (.inl h1)
        · exact .inl (.inr ⟨h1, h2, h⟩)
    · rw [if_neg h]
      constructor
      · rintro ((h1 | ⟨_, _, h3⟩) | ⟨h1, h2, h3⟩)
        · exact .inl h1
        · exact absurd h3 h
        · exact .inr ⟨h1, h2, by omega⟩
      · rintro (h1 | ⟨h1, h2, h3⟩)
        · exact .inl (.inl h1)
        · exact .inr ⟨h1, h2, by omega⟩
theorem fvisEs_mem (z x : Int) : ∀ (es : List ExprL) (s : List Int), x ∈ visEs (fvis z) es s ↔ x ∈ s ∨ (0 ≤ x ∧ x < z ∧ 0 < mEs x es)
  | [], s => by simp [visEs, mEs]
  | e :: es, s => by
    rw [visEs, fvisEs_mem z x es, fvisE_mem z x e, mEs]
    constructor
    · rintro ((h1 | ⟨h1, h2, h3⟩) | ⟨h1, h2, h3⟩)
      · exact .inl h1
      · exact .inr ⟨h1, h2, by omega⟩
      · exact .inr ⟨h1, h2, by omega⟩
    · rintro (h1 | ⟨h1, h2, h3⟩)
      · exact .inl (.inl h1)
      · by_cases h4 : 0 < mE x e
        · exact .inl (.inr ⟨h1, h2, h4⟩)
        · exact .inr ⟨h1, h2, by omega⟩
end
end Go.Proofs.Ytaeddcnakilnlaa
/- Plain facts and cells for the laws on programs. -/
namespace Go.Proofs.Ytaeddcnakilnlaa
open Go.RowKit
theorem sigsOk_three {ds} {sg : List SigL} (h : sigsOk ds sg = true) : 1 ≤ sg.length ∧ sg.length ≤ 4 ∧ (sgAt sg 0).params.length = 0 := by
  rcases Nat.lt_or_ge sg.length 1 with h1 | h1
  · rw [sigsOk_len (.inl h1)] at h; cases h
  · rcases Nat.lt_or_ge 4 sg.length with h2 | h2
    · rw [sigsOk_len (.inr h2)] at h; cases h
    · by_cases h3 : (sgAt sg 0).params.length = 0 ∧ (sgAt sg 0).result = 0
      · exact ⟨h1, h2, h3.1⟩
      · rw [sigsOk_first h3] at h; cases h
theorem withinB_sub {xs ys : List Int} (h : ∀ x ∈ xs, x ∈ ys) : withinB xs ys = true := by
  unfold withinB
  simpa using h
theorem ints_cell {w : World} {D : Nat → Prop} {xs : List Int} {b o n c i : Nat} (h : Rd w D (encInts xs) (.slice (some ⟨b, o, none⟩) n c)) (hi : i < n) : w.cell? ⟨b, o + i, none⟩ = some (.int .i64 (iAt xs i)) := by
  obtain ⟨b', o', e, _, hc⟩ := (ints_at h).2.2.2 i hi
  injection e with e
  injection e with e1 e2
  subst e1; subst e2
  exact hc
theorem funcs_cells {w : World} {D : Nat → Prop} {fs : List FuncL} {b o n c i : Nat} (h : Rd w D (encFuncs fs) (.slice (some ⟨b, o, none⟩) n c)) (hi : i < n) :
    ∃ ap np cp ab nb cb, w.cell? ⟨b, o + i * 5, none⟩ = some (.slice ap np cp) ∧ w.cell? ⟨b, o + i * 5 + 1, none⟩ = some (.int .i64 (fAt fs i).result) ∧ w.cell? ⟨b, o + i * 5 + 2, none⟩ = some (.int .i64 (fAt fs i).body.op) ∧ w.cell? ⟨b, o + i * 5 + 3, none⟩ = some (.int .i64 (fAt fs i).body.num) ∧
      w.cell? ⟨b, o + i * 5 + 4, none⟩ = some (.slice ab nb cb) ∧ Rd w D (encInts (fAt fs i).params) (.slice ap np cp) ∧ Rd w D (encExprs (fAt fs i).body.kids) (.slice ab nb cb) := by
  obtain ⟨b', o', e, _, ap, np, cp, ab, nb, cb, z0, z1, z2, z3, z4, r0, r1⟩ := (funcs_at h).2.2.2 i hi
  injection e with e
  injection e with e1 e2
  subst e1; subst e2
  exact ⟨ap, np, cp, ab, nb, cb, z0, z1, z2, z3, z4, r0, r1⟩
end Go.Proofs.Ytaeddcnakilnlaa
