/- The drawn law FnArrowOf: the walk. -/
import Derived.Test.YtcfndpgeanbkjaaLawBase
import Derived.Deep.RegionHeld3
import Derived.StillTailTactics
namespace Go.Proofs.Ytcfndpgeanbkjaa
open Go.RowKit

set_option maxHeartbeats 4000000 in
theorem fnArrowOf_walk (a : Option Addr) (len cap : Nat) (z : Nat → Int) (w : World) (h : Byt w a len z) (hlc : len ≤ cap) :
    Calls Try.prog 8 #[.slice a len cap] w fun e w' => e = .returned (.bool true) ∧ Keep w w' := by
  refine calls_k fun Q hQ => ?_
  by_cases hl : len ≤ 1048576
  · go_enter Try.func8, Try.ntmps8
    go_wp2_with fail
    refine (DrawArrowOf_any a len cap z w h hlc hl).mono ?_
    rintro e w1 ⟨v, x, y, rfl, a2, n, c, ds, rfl, hnc, hn6, hR, k1⟩
    have hD := hR.toDecls
    have HL := Lib.hid hD.1
    have hn : n ≤ 1048576 := by omega
    clear h
    rcases arrow_cases ds x y with hc | ⟨i, hc, hi, f1, f2, f3⟩
    · have E : Hid (ifOk ds (arrowL ds x y) = -1) := by show _ = _; rw [hc]; simp [ifOk]
      clear hc
      go_wp2_with fail
      refine (implArrowOf _ _ _ _ _ _ _ _ hD (by omega)).mono ?_
      rw [E.out]
      rintro e w2 ⟨rfl, q0⟩
      have h0 := hD.ext q0 (fun _ _ h => h)
      have p0 := k1.trans q0
      go_wp2_with fail
      refine (specArrowOf _ _ _ _ _ _ _ _ h0 (by omega)).mono ?_
      rw [E.out]
      rintro e w3 ⟨rfl, q1⟩
      have h1 := h0.ext q1 (fun _ _ h => h)
      have p1 := p0.trans q1
      go_wp2_with fail
      refine (specArrowOf _ _ _ _ _ _ _ _ h1 (by omega)).mono ?_
      rw [E.out]
      rintro e w4 ⟨rfl, q2⟩
      have h2 := h1.ext q2 (fun _ _ h => h)
      have p2 := p1.trans q2
      go_wp2_with fail
      exact fin_ hQ ⟨rfl, p2⟩
    cases hv : typesOk ds
    · have E : Hid (ifOk ds (arrowL ds x y) = -1) := by show _ = _; simp [ifOk, hv]
      clear hc hi hv f1 f2 f3
      go_wp2_with fail
      refine (implArrowOf _ _ _ _ _ _ _ _ hD (by omega)).mono ?_
      rw [E.out]
      rintro e w2 ⟨rfl, q0⟩
      have h0 := hD.ext q0 (fun _ _ h => h)
      have p0 := k1.trans q0
      go_wp2_with fail
      refine (specArrowOf _ _ _ _ _ _ _ _ h0 (by omega)).mono ?_
      rw [E.out]
      rintro e w3 ⟨rfl, q1⟩
      have h1 := h0.ext q1 (fun _ _ h => h)
      have p1 := p0.trans q1
      go_wp2_with fail
      refine (specArrowOf _ _ _ _ _ _ _ _ h1 (by omega)).mono ?_
      rw [E.out]
      rintro e w4 ⟨rfl, q2⟩
      have h2 := h1.ext q2 (fun _ _ h => h)
      have p2 := p1.trans q2
      go_wp2_with fail
      exact fin_ hQ ⟨rfl, p2⟩
    have E : Hid (ifOk ds (arrowL ds x y) = (i : Int) + 1) := by show _ = _; simp [ifOk, hv, hc]
    have V := Lib.hid hv
    have hf := Few.of_ok hv
    have hi4 : i < 4 := by have := hf.1; omega
    have hin' : i < n := by have := HL.out; omega
    have hcl : Hid (consL ds ((i : Int) + 1) = []) := by
      show _ = _
      have := consL_len_succ (ds := ds) (k := i) hi
      exact List.eq_nil_of_length_eq_zero (by omega)
    clear hc hv hi
    go_wp2_with fail
    refine (implArrowOf _ _ _ _ _ _ _ _ hD (by omega)).mono ?_
    rw [E.out]
    rintro e w2 ⟨rfl, q0⟩
    have h0 := hD.ext q0 (fun _ _ h => h)
    have p0 := k1.trans q0
    go_wp2_with fail
    refine (specArrowOf _ _ _ _ _ _ _ _ h0 (by omega)).mono ?_
    rw [E.out]
    rintro e w3 ⟨rfl, q1⟩
    have h1 := h0.ext q1 (fun _ _ h => h)
    have p1 := p0.trans q1
    obtain ⟨b, o, rfl, hd, hcc⟩ := h1.2 (by omega)
    obtain ⟨d0, d1, a', m, c', d2, _, hcons⟩ := hcc i hin'
    rw [f2] at d0
    rw [f3] at d1
    have hm0 : m = 0 := by have := hcons.1; omega
    subst hm0
    have e1 : IntKind.i64.wrap ((i : Int) + 1 - 1) = (i : Int) := by rw [show (i : Int) + 1 - 1 = (i : Int) by omega]; exact IntWalk.i64_in _ (by omega)
    clear hcc hcons f1 f2 f3 E
    go_wp2_with fail
    refine (implConsOf _ _ _ _ _ _ _ h1 hnc).mono ?_
    rw [if_pos V.out, hcl.out]
    rintro e w4 ⟨a4, m4, c4, rfl, _, o4, q4⟩
    obtain rfl : m4 = 0 := by have := o4.1; simpa using this.symm
    clear o4
    go_wp2_with fail
    exact fin_ hQ ⟨rfl, p1.trans q4⟩
  · go_enter Try.func8, Try.ntmps8
    go_wp2_with fail
    exact fin_ hQ ⟨rfl, Ext.refl _ _⟩
end Go.Proofs.Ytcfndpgeanbkjaa
