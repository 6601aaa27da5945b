/- The drawn law FnConTypeOrder: the walk. -/
import Derived.Test.YtcfndpgeanbkjaaLawBase
import Derived.Deep.RegionHeld3
import Derived.StillTailTactics
namespace Go.Proofs.Ytcfndpgeanbkjaa
open Go.RowKit

set_option maxHeartbeats 4000000 in
theorem fnConTypeOrder_walk (a : Option Addr) (len cap : Nat) (z : Nat → Int) (w : World) (h : Byt w a len z) (hlc : len ≤ cap) :
    Calls Try.prog 7 #[.slice a len cap] w fun e w' => e = .returned (.bool true) ∧ Keep w w' := by
  refine calls_k fun Q hQ => ?_
  by_cases hl : len ≤ 1048576
  · go_enter Try.func7, Try.ntmps7
    go_wp2_with fail
    refine (DrawConType_any a len cap z w h hlc hl).mono ?_
    rintro e w1 ⟨v, x, rfl, hx1, hx2, a2, n, c, ds, rfl, hnc, hn6, hR, k1⟩
    have hD := hR.toDecls
    have HL := Lib.hid hD.1
    have hn : n ≤ 1048576 := by omega
    clear h
    rcases conType_cases ds x with ⟨hc, _⟩ | ⟨i, hc, hi, hin⟩
    · have E : Hid (ifOk ds (conTypeL ds x) = -1) := by show _ = _; rw [hc]; simp [ifOk]
      clear hc
      go_wp2_with fail
      refine (implConType _ _ _ _ _ _ _ hD hnc (by omega) (by omega)).mono ?_
      rw [E.out]
      rintro e w2 ⟨rfl, q0⟩
      have h0 := hD.ext q0 (fun _ _ h => h)
      have p0 := k1.trans q0
      go_wp2_with fail
      refine (specConType _ _ _ _ _ _ _ h0 (by omega)).mono ?_
      rw [E.out]
      rintro e w3 ⟨rfl, q1⟩
      have h1 := h0.ext q1 (fun _ _ h => h)
      have p1 := p0.trans q1
      go_wp2_with fail
      refine (specConType _ _ _ _ _ _ _ h1 (by omega)).mono ?_
      rw [E.out]
      rintro e w4 ⟨rfl, q2⟩
      have h2 := h1.ext q2 (fun _ _ h => h)
      have p2 := p1.trans q2
      go_wp2_with fail
      exact fin_ hQ ⟨rfl, p2⟩
    cases hv : typesOk ds
    · have E : Hid (ifOk ds (conTypeL ds x) = -1) := by show _ = _; simp [ifOk, hv]
      clear hc hin hi hv
      go_wp2_with fail
      refine (implConType _ _ _ _ _ _ _ hD hnc (by omega) (by omega)).mono ?_
      rw [E.out]
      rintro e w2 ⟨rfl, q0⟩
      have h0 := hD.ext q0 (fun _ _ h => h)
      have p0 := k1.trans q0
      go_wp2_with fail
      refine (specConType _ _ _ _ _ _ _ h0 (by omega)).mono ?_
      rw [E.out]
      rintro e w3 ⟨rfl, q1⟩
      have h1 := h0.ext q1 (fun _ _ h => h)
      have p1 := p0.trans q1
      go_wp2_with fail
      refine (specConType _ _ _ _ _ _ _ h1 (by omega)).mono ?_
      rw [E.out]
      rintro e w4 ⟨rfl, q2⟩
      have h2 := h1.ext q2 (fun _ _ h => h)
      have p2 := p1.trans q2
      go_wp2_with fail
      exact fin_ hQ ⟨rfl, p2⟩
    have E : Hid (ifOk ds (conTypeL ds x) = (i : Int) + 1) := by show _ = _; simp [ifOk, hv, hc]
    have V := Lib.hid hv
    have hf := Few.of_ok hv
    have hi4 : i < 4 := by have := hf.1; omega
    have hin' : i < n := by have := HL.out; omega
    have hcn : conN ds ≤ 15 := by have := firstN_le hf (k := ds.length) (Nat.le_refl _); have := hf.1; unfold conN; omega
    have hx0 : 0 ≤ x := (conType_in hi hin).1
    have hxN : x < (conN ds : Int) := (conType_in hi hin).2
    
    have hend : Hid (ifOk ds (conTypeL ds (conN ds : Int)) = -1) := by show _ = _; rw [ifOk_yes hv, conType_end]
    have EC : Hid (ifOk ds (conN ds : Int) = (conN ds : Int)) := ifOk_yes hv _
    by_cases hx : x = 0
    · subst hx
      clear hc hv hxN hin hi
      go_wp2_with fail
      refine (implConType _ _ _ _ _ _ _ hD hnc (by omega) (by omega)).mono ?_
      rw [E.out]
      rintro e w2 ⟨rfl, q0⟩
      have h0 := hD.ext q0 (fun _ _ h => h)
      have p0 := k1.trans q0
      go_wp2_with fail
      refine (specConType _ _ _ _ _ _ _ h0 (by omega)).mono ?_
      rw [E.out]
      rintro e w3 ⟨rfl, q1⟩
      have h1 := h0.ext q1 (fun _ _ h => h)
      have p1 := p0.trans q1
      go_wp2_with fail
      refine (implConCount _ _ _ _ _ _ h1 hnc).mono ?_
      rw [EC.out]
      rintro e w4 ⟨rfl, q2⟩
      have h2 := h1.ext q2 (fun _ _ h => h)
      have p2 := p1.trans q2
      go_wp2_with fail
      refine (implConType _ _ _ _ _ _ _ h2 hnc (by omega) (by omega)).mono ?_
      rw [hend.out]
      rintro e w5 ⟨rfl, q3⟩
      have h3 := h2.ext q3 (fun _ _ h => h)
      have p3 := p2.trans q3
      go_wp2_with fail
      exact fin_ hQ ⟨rfl, p3⟩
    · obtain ⟨b1, b2⟩ := conType_before hi hin hx
      have t0 : (x == 0) = false := by simp [hx]
      obtain ⟨y, hy⟩ : ∃ y, conTypeL ds (x - 1) = y := ⟨_, rfl⟩
      rw [hy] at b1 b2
      have EY : Hid (ifOk ds (conTypeL ds (x - 1)) = y) := by show _ = _; rw [ifOk_yes hv]; exact hy
      clear hy
      clear hc hv hxN hin hi hx
      go_wp2_with fail
      refine (implConType _ _ _ _ _ _ _ hD hnc (by omega) (by omega)).mono ?_
      rw [E.out]
      rintro e w2 ⟨rfl, q0⟩
      have h0 := hD.ext q0 (fun _ _ h => h)
      have p0 := k1.trans q0
      go_wp2_with fail
      refine (specConType _ _ _ _ _ _ _ h0 (by omega)).mono ?_
      rw [E.out]
      rintro e w3 ⟨rfl, q1⟩
      have h1 := h0.ext q1 (fun _ _ h => h)
      have p1 := p0.trans q1
      go_wp2_with fail
      refine (implConType _ _ _ _ _ _ _ h1 hnc (by omega) (by omega)).mono ?_
      rw [EY.out]
      rintro e w4 ⟨rfl, q2⟩
      have h2 := h1.ext q2 (fun _ _ h => h)
      have p2 := p1.trans q2
      go_wp2_with fail
      refine (implConType _ _ _ _ _ _ _ h2 hnc (by omega) (by omega)).mono ?_
      rw [EY.out]
      rintro e w5 ⟨rfl, q3⟩
      have h3 := h2.ext q3 (fun _ _ h => h)
      have p3 := p2.trans q3
      go_wp2_with fail
      refine (implConCount _ _ _ _ _ _ h3 hnc).mono ?_
      rw [EC.out]
      rintro e w6 ⟨rfl, q4⟩
      have h4 := h3.ext q4 (fun _ _ h => h)
      have p4 := p3.trans q4
      go_wp2_with fail
      refine (implConType _ _ _ _ _ _ _ h4 hnc (by omega) (by omega)).mono ?_
      rw [hend.out]
      rintro e w7 ⟨rfl, q5⟩
      have h5 := h4.ext q5 (fun _ _ h => h)
      have p5 := p4.trans q5
      go_wp2_with fail
      exact fin_ hQ ⟨rfl, p5⟩
  · go_enter Try.func7, Try.ntmps7
    go_wp2_with fail
    exact fin_ hQ ⟨rfl, Ext.refl _ _⟩
end Go.Proofs.Ytcfndpgeanbkjaa
