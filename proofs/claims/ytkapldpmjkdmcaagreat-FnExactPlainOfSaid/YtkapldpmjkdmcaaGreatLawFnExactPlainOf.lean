/- The program's PlainOf returns what the reference's returns, for all arguments, and neither changes its arguments nor shares memory with them. -/
import Derived.Test.YtkapldpmjkdmcaaGreatTAZ
import Derived.Test.YtkapldpmjkdmcaaGreatTAQ
import Derived.Test.YtkapldpmjkdmcaaGreatFacts
import Derived.OpenShut
import Derived.ChangeOld
namespace Go.Proofs.YtkapldpmjkdmcaaGreat.fnExactPlainOf
open Go.ChangeShapes Go.WideShapes Go.ChangeAt Go.RowKit
set_option linter.unusedVariables false

theorem own : ownKnob Tryz.prog.godebug = none := by kernel_rfl
theorem laidOut : laidOutB Tryz.prog = true := by kernel_rfl

set_option maxRecDepth 100000 in
theorem lifted (os : Os) (started : os.Started) (H : Type) (enc : TypeId × Value → H) :
    ReturnsInHanded {} Tryz.checked os 3 .any (Rows.fnExactPlainOfSpec.pre6 enc Tryz.prog Tryz.f3 Rows.fnExactPlainOfRow.domain false) (Rows.fnExactPlainOfSpec.post enc Tryz.prog Tryz.f3 false true false false) := by
  refine returnsInHanded_of_change (C := Tryz.checked) own started (by kernel_rfl) Tryz.func3
    (ChangeSpec.witness6 (enc := enc) (C := Tryz.checked) false ⟨#[], #[.agg #[.slice none 0 0, .slice none 0 0]], []⟩ 8 (by kernel_rfl) (by kernel_rfl) (by kernel_rfl) (by kernel_rfl)) ?_
  intro W base args ds gs before hval0 hW hcnd _
  have hval : ∀ (j : Nat) t v, Tryz.f3.params[j]? = some t → args[j]? = some v → Value.okWide Tryz.prog W .any base t v := hval0
  have hW' := hW
  obtain ⟨p, q, hA0, hV, rfl, hfz, hnd⟩ := hW
  have hA : DataW.TrodAll enc Tryz.prog W 0 (fun _ => true) true Tryz.f3.params.toList args.toList ds p := hA0
  rw [Tryz.params3] at hA hval
  obtain ⟨v0, vs0, d0, ds0, p0, q0, hargs, rfl, rfl, h0, r0⟩ := trodAll_cons hA
  obtain ⟨rfl, rfl, rfl⟩ := trodAll_nil r0
  obtain rfl : args = #[v0] := by cases args; simp_all
  obtain ⟨rfl, rfl⟩ := trodVars_none hV
  have k0 := h0
  have lt0 : ∀ x ∈ p0, x.block < W.heap.size := by obtain ⟨m, hm⟩ := k0; exact DataW.trod_lt m _ _ _ hm
  obtain ⟨ds0, fs0, a0, len0, cap0, a0_, len0_, cap0_, rfl, hin0, hin0_, hfit⟩ := ent5_valNormal (hval 0 25 v0 rfl rfl) h0
  clear hA0 hval0
  refine (fnExactPlainOf_walk ds0 fs0 a0 len0 cap0 a0_ len0_ cap0_ W hin0 hin0_ hfit).mono fun e W' ⟨he, hk⟩ => ?_
  have bel : Below W.heap.size W W' := hk.below (Nat.le_refl _) (fun _ _ h => h)
  subst he
  exact ⟨_, rfl, _, _, _, [], _, [], hW', trodAll_mk1 (shut_bool Tryz.underlying4 _), (trodAll_cons_mk (Below.trod laidOut (by kernel_rfl) (of_decide_eq_true (by kernel_rfl)) k0 bel lt0) trodAll_mk0), rfl, bel.frame _, fun h => by cases h⟩

set_option maxHeartbeats 4000000 in
theorem facts : joinedFacts Tryz.prog 3 Tryz.f3 Rows.fnExactPlainOfSpec Rows.fnExactPlainOfRow = true := by
  unfold joinedFacts
  repeat' (with_reducible refine and_ok ?_ ?_)
  all_goals (first | with_reducible exact mayEnter_ok | with_reducible exact lifts_fits rfl | with_reducible exact make_fits rfl | (as_aux_lemma => kernel_rfl))

theorem over : Rows.fnExactPlainOfRow.holds Tryz.pinned (OpenSpec.ofChange Rows.fnExactPlainOfSpec) :=
  OpenClaim.holds_of_wide 3 Tryz.f3 rfl rfl rfl rfl rfl rfl rfl ⟨rfl, rfl, rfl, rfl, rfl⟩ rfl rfl rfl rfl rfl (by kernel_rfl) Tryz.func3 facts
    (of_decide_eq_true (by kernel_rfl)) (by unfold Func.isWrapper; first | (rw [if_pos (by decide +kernel)]; kernel_rfl) | (rw [if_neg (by decide +kernel)]; exact ⟨rfl, rfl⟩))
    (fun os started H enc _ => lifted os started H enc)

/-- The statement. -/
theorem proved : Rows.FnExactPlainOfSaid := over
#print axioms proved
end Go.Proofs.YtkapldpmjkdmcaaGreat.fnExactPlainOf
