/- The drawn law FnArrowOfAll: the walk. -/
import Derived.Test.YtcfndpgeanbkjaaLawBase
import Derived.Deep.RegionHeld3
import Derived.StillTailTactics
namespace Go.Proofs.Ytcfndpgeanbkjaa
open Go.RowKit

set_option maxHeartbeats 4000000 in
theorem fnArrowOfAll_walk (a : Option Addr) (len cap : Nat) (z : Nat → Int) (w : World) (h : Byt w a len z) (hlc : len ≤ cap) :
    Calls Try.prog 5 #[.slice a len cap] w fun e w' => e = .returned (.bool true) ∧ Keep w w' := by
  refine calls_k fun Q hQ => ?_
  by_cases hl : len ≤ 1048576
  · go_enter Try.func5, Try.ntmps5
    go_wp2_with fail
    refine (DrawValidTypes_any a len cap z w h hlc hl).mono ?_
    rintro e w1 ⟨v, rfl, a2, n, c, ds, rfl, hnc, hn6, hR, k1⟩
    have hD := hR.toDecls
    have HL := Lib.hid hD.1
    have hn : n ≤ 1048576 := by omega
    clear h
    cases hv : typesOk ds
    · have V := Lib.hid hv
      clear hv
      go_wp2_with fail
      refine (implValidTypes _ _ _ _ _ _ hD hnc).mono ?_
      rw [V.out]
      rintro e w2 ⟨rfl, q0⟩
      have h0 := hD.ext q0 (fun _ _ h => h)
      have p0 := k1.trans q0
      go_wp2_with fail
      refine (specValidTypes _ _ _ _ _ _ h0 (by omega)).mono ?_
      rw [V.out]
      rintro e w3 ⟨rfl, q1⟩
      have h1 := h0.ext q1 (fun _ _ h => h)
      have p1 := p0.trans q1
      go_wp2_with fail
      refine (specValidTypes _ _ _ _ _ _ h1 (by omega)).mono ?_
      rw [V.out]
      rintro e w4 ⟨rfl, q2⟩
      have h2 := h1.ext q2 (fun _ _ h => h)
      have p2 := p1.trans q2
      go_wp2_with fail
      exact fin_ hQ ⟨rfl, p2⟩
    have V := Lib.hid hv
    have hf := Few.of_ok hv
    clear hv
    have hn4 : n ≤ 4 := by have := hf.1; have := HL.out; omega
    go_wp2_with fail
    refine (implValidTypes _ _ _ _ _ _ hD hnc).mono ?_
    rw [V.out]
    rintro e w2 ⟨rfl, q0⟩
    have h0 := hD.ext q0 (fun _ _ h => h)
    have p0 := k1.trans q0
    go_wp2_with fail
    refine (specValidTypes _ _ _ _ _ _ h0 (by omega)).mono ?_
    rw [V.out]
    rintro e w3 ⟨rfl, q1⟩
    have h1 := h0.ext q1 (fun _ _ h => h)
    have p1 := p0.trans q1
    go_wp2_with fail
    clear h1
    go_loopw [5] (fun tv wr => ∃ k : Nat, k ≤ n ∧ tv = .int .i64 k ∧ Keep w1 wr) (fun i _ => n - (intOf i).toNat)
    case atStart => exact ⟨0, Nat.zero_le _, rfl, q0.trans q1⟩
    case round =>
      obtain ⟨k, hk, rfl, hK⟩ := hrel
      have hx := hD.ext hK (fun _ _ h => h)
      by_cases hlt : k < n
      · obtain ⟨b, o, rfl, hd, hcc⟩ := hx.2 (by omega)
        obtain ⟨d0, d1, a', m, c', d2, _, hcons⟩ := hcc k hlt
        have M := Lib.hid hcons.1
        clear hcc hcons
        by_cases hm : m = 0
        · subst hm
          have E : Hid (ifOk ds (arrowL ds (dAt ds k).from_ (dAt ds k).to_) = (k : Int) + 1) := by
            show _ = _
            rw [ifOk_yes V.out, arrow_all V.out (by have := HL.out; omega) M.out]
          generalize (dAt ds k).from_ = x at d0 E
          generalize (dAt ds k).to_ = y at d1 E
          go_wp2_with fail
          have HX := Lib.hid (hx.ext (w' := wr.drew) (Ext.refl (fun _ => False) wr).drew (fun _ _ h => h))
          clear hx hD
          have e1 : IntKind.i64.wrap ((k : Int) + 1) = (k : Int) + 1 := IntWalk.i64_in _ (by omega)
          go_region_held3 (fun w' => w'.cell? ⟨b, o + k * 3, none⟩ = some (.int .i64 x) ∧ w'.cell? ⟨b, o + k * 3 + 1, none⟩ = some (.int .i64 y) ∧ w'.cell? ⟨b, o + k * 3 + 2, none⟩ = some (.slice a' 0 c')) (first | exact ⟨q4.at d0, q4.at d1, q4.at d2⟩ | go_keep) ((go_at_call 24; refine (implArrowOf _ _ _ _ _ _ _ _ HX.out hnc).mono ?_; rw [E.out]; rintro e w4 ⟨rfl, q4⟩))
          clear e1
          go_wp2_with fail
          go_roundw
          case rel => exact ⟨k + 1, by omega, by go_num, hK.drew.trans q4⟩
          case measure => simp [intOf]; omega
        · have t : ((m : Int) == 0) = false := by simp [hm]
          go_wp2_with fail
          go_quiet (fail)
          go_wp2_with fail
          go_roundw
          case rel => exact ⟨k + 1, by omega, by go_num, hK.drewN nq⟩
          case measure => simp [intOf]; omega
      · go_wp2_with fail
        exact fin_ hQ ⟨rfl, k1.trans hK⟩
  · go_enter Try.func5, Try.ntmps5
    go_wp2_with fail
    exact fin_ hQ ⟨rfl, Ext.refl _ _⟩
end Go.Proofs.Ytcfndpgeanbkjaa
