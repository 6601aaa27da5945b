/- The fields of a constructor that the program returns are those that the reference returns, for all declarations. -/
import Derived.Test.YtcfndpgeanbkjaaExactDeclList
import Derived.Test.YtcfndpgeanbkjaaEntry
import Derived.Test.YtcfndpgeanbkjaaFacts
import Derived.OpenShut
import Derived.ChangeOld
namespace Go.Proofs.Ytcfndpgeanbkjaa.fnExactConFields
open Go.ChangeShapes Go.WideShapes Go.ChangeAt Go.RowKit
set_option linter.unusedVariables false

theorem own : ownKnob Try.prog.godebug = none := by kernel_rfl
theorem laidOut : laidOutB Try.prog = true := by kernel_rfl

set_option maxRecDepth 100000 in
theorem lifted (os : Os) (started : os.Started) (H : Type) (enc : TypeId × Value → H) :
    ReturnsInHanded {} Try.checked os 19 .any (Rows.fnExactConFieldsSpec.pre6 enc Try.prog Try.f19 Rows.fnExactConFieldsRow.domain false) (Rows.fnExactConFieldsSpec.post enc Try.prog Try.f19 false true false false) := by
  refine returnsInHanded_of_change (C := Try.checked) own started (by kernel_rfl) Try.func19
    (ChangeSpec.witness6 (enc := enc) (C := Try.checked) false ⟨#[], #[.slice none 0 0, .int .i64 0], []⟩ 8 (by kernel_rfl) (by kernel_rfl) (by kernel_rfl) (by kernel_rfl)) ?_
  intro W base args ds gs before hval0 hW hcnd _
  have hval : ∀ (j : Nat) t v, Try.f19.params[j]? = some t → args[j]? = some v → Value.okWide Try.prog W .any base t v := hval0
  have hW' := hW
  obtain ⟨p, q, hA0, hV, rfl, hfz, hnd⟩ := hW
  have hA : DataW.TrodAll enc Try.prog W 0 (fun _ => true) true Try.f19.params.toList args.toList ds p := hA0
  rw [Try.params19] at hA hval
  obtain ⟨v0, vs0, d0, ds0, p0, q0, hargs, rfl, rfl, h0, r0⟩ := trodAll_cons hA
  obtain ⟨v1, vs1, d1, ds1, p1, q1, rfl, rfl, rfl, h1, r1⟩ := trodAll_cons r0
  obtain ⟨rfl, rfl, rfl⟩ := trodAll_nil r1
  obtain rfl : args = #[v0, v1] := by cases args; simp_all
  obtain ⟨rfl, rfl⟩ := trodVars_none hV
  have k0 := h0
  have lt0 : ∀ x ∈ p0, x.block < W.heap.size := by obtain ⟨m, hm⟩ := k0; exact DataW.trod_lt m _ _ _ hm
  obtain ⟨a0, len0, cap0, rfl⟩ := okWide_slice Try.underlying42 (hval 0 42 v0 rfl rfl)
  obtain ⟨hle0, ds0, hds0, hl0⟩ : len0 ≤ cap0 ∧ ∃ ds, DeclsR W (fun _ => True) a0 len0 ds ∧ LensD ds := by
    obtain ⟨fuel, hf⟩ := h0
    exact ent_decls Try.underlying42 Try.underlying65 (by kernel_rfl) rfl rfl rfl rfl rfl rfl (by kernel_rfl) Try.underlying63 Try.underlying88 (by kernel_rfl) rfl rfl (by kernel_rfl) Try.underlying26 Try.underlying3 (by kernel_rfl) hf
  obtain ⟨a1, rfl, rfl, rfl, w1⟩ := open_int Try.underlying3 (hval 1 3 v1 rfl rfl) h1
  have b1 := int_fits w1
  clear hA0 hval0
  refine (fnExactConFields_walk a0 len0 cap0 ds0 a1 W hds0 hl0 b1.1 b1.2).mono fun e W' ⟨he, hk⟩ => ?_
  have bel : Below W.heap.size W W' := hk.below (Nat.le_refl _) (fun _ _ h => h)
  subst he
  exact ⟨_, rfl, _, _, _, [], _, [], hW', trodAll_mk1 (shut_bool Try.underlying4 _), (trodAll_cons_mk (Below.trod laidOut (by kernel_rfl) (of_decide_eq_true (by kernel_rfl)) k0 bel lt0) (trodAll_cons_mk (shut_int Try.underlying3 w1) trodAll_mk0)), rfl, bel.frame _, fun h => by cases h⟩

theorem facts : joinedFacts Try.prog 19 Try.f19 Rows.fnExactConFieldsSpec Rows.fnExactConFieldsRow = true := by
  unfold joinedFacts
  repeat' (with_reducible refine and_ok ?_ ?_)
  all_goals (first | with_reducible exact mayEnter_ok | with_reducible exact lifts_fits rfl | with_reducible exact make_fits rfl | (as_aux_lemma => kernel_rfl))

theorem over : Rows.fnExactConFieldsRow.holds Try.pinned (OpenSpec.ofChange Rows.fnExactConFieldsSpec) :=
  OpenClaim.holds_of_wide 19 Try.f19 rfl rfl rfl rfl rfl rfl rfl ⟨rfl, rfl, rfl, rfl, rfl⟩ rfl rfl rfl rfl rfl (by kernel_rfl) Try.func19 facts
    (of_decide_eq_true (by kernel_rfl)) (by unfold Func.isWrapper; first | (rw [if_pos (by decide +kernel)]; kernel_rfl) | (rw [if_neg (by decide +kernel)]; exact ⟨rfl, rfl⟩))
    (fun os started H enc _ => lifted os started H enc)

/-- The statement. -/
theorem proved : Rows.FnExactConFieldsSaid := over
#print axioms proved
end Go.Proofs.Ytcfndpgeanbkjaa.fnExactConFields
