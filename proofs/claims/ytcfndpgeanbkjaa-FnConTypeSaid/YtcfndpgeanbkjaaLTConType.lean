/- The drawn law FnConType: the walk. -/
import Derived.Test.YtcfndpgeanbkjaaLawBase
import Derived.Deep.RegionHeld3
import Derived.StillTailTactics
namespace Go.Proofs.Ytcfndpgeanbkjaa
open Go.RowKit

set_option maxHeartbeats 4000000 in
theorem fnConType_walk (a : Option Addr) (len cap : Nat) (z : Nat → Int) (w : World) (h : Byt w a len z) (hlc : len ≤ cap) :
    Calls Try.prog 11 #[.slice a len cap] w fun e w' => e = .returned (.bool true) ∧ Keep w w' := by
  refine calls_k fun Q hQ => ?_
  by_cases hl : len ≤ 1048576
  · go_enter Try.func11, Try.ntmps11
    go_wp2_with fail
    refine (DrawConType_any a len cap z w h hlc hl).mono ?_
    rintro e w1 ⟨v, x, rfl, hx1, hx2, a2, n, c, ds, rfl, hnc, hn6, hR, k1⟩
    have hD := hR.toDecls
    have HL := Lib.hid hD.1
    have hn : n ≤ 1048576 := by omega
    clear h
    rcases conType_cases ds x with ⟨hc, _⟩ | ⟨i, hc, hi, hin⟩
    · have E : Hid (ifOk ds (conTypeL ds x) = -1) := by show _ = _; rw [hc]; simp [ifOk]
      clear hc
      go_wp2_with fail
      refine (implConType _ _ _ _ _ _ _ hD hnc (by omega) (by omega)).mono ?_
      rw [E.out]
      rintro e w2 ⟨rfl, q0⟩
      have h0 := hD.ext q0 (fun _ _ h => h)
      have p0 := k1.trans q0
      go_wp2_with fail
      refine (specConType _ _ _ _ _ _ _ h0 (by omega)).mono ?_
      rw [E.out]
      rintro e w3 ⟨rfl, q1⟩
      have h1 := h0.ext q1 (fun _ _ h => h)
      have p1 := p0.trans q1
      go_wp2_with fail
      refine (specConType _ _ _ _ _ _ _ h1 (by omega)).mono ?_
      rw [E.out]
      rintro e w4 ⟨rfl, q2⟩
      have h2 := h1.ext q2 (fun _ _ h => h)
      have p2 := p1.trans q2
      go_wp2_with fail
      exact fin_ hQ ⟨rfl, p2⟩
    cases hv : typesOk ds
    · have E : Hid (ifOk ds (conTypeL ds x) = -1) := by show _ = _; simp [ifOk, hv]
      clear hc hin hi hv
      go_wp2_with fail
      refine (implConType _ _ _ _ _ _ _ hD hnc (by omega) (by omega)).mono ?_
      rw [E.out]
      rintro e w2 ⟨rfl, q0⟩
      have h0 := hD.ext q0 (fun _ _ h => h)
      have p0 := k1.trans q0
      go_wp2_with fail
      refine (specConType _ _ _ _ _ _ _ h0 (by omega)).mono ?_
      rw [E.out]
      rintro e w3 ⟨rfl, q1⟩
      have h1 := h0.ext q1 (fun _ _ h => h)
      have p1 := p0.trans q1
      go_wp2_with fail
      refine (specConType _ _ _ _ _ _ _ h1 (by omega)).mono ?_
      rw [E.out]
      rintro e w4 ⟨rfl, q2⟩
      have h2 := h1.ext q2 (fun _ _ h => h)
      have p2 := p1.trans q2
      go_wp2_with fail
      exact fin_ hQ ⟨rfl, p2⟩
    have E : Hid (ifOk ds (conTypeL ds x) = (i : Int) + 1) := by show _ = _; simp [ifOk, hv, hc]
    have V := Lib.hid hv
    have hf := Few.of_ok hv
    have hi4 : i < 4 := by have := hf.1; omega
    have hin' : i < n := by have := HL.out; omega
    have hcn : conN ds ≤ 15 := by have := firstN_le hf (k := ds.length) (Nat.le_refl _); have := hf.1; unfold conN; omega
    have hx0 : 0 ≤ x := (conType_in hi hin).1
    have hxN : x < (conN ds : Int) := (conType_in hi hin).2
    
    have EC : Hid (ifOk ds (conN ds : Int) = (conN ds : Int)) := ifOk_yes hv _
    have HM := Lib.hid (fun (t : Nat) (ht : t ≤ ds.length) => mem_consL_type hi hin ht)
    clear hc hv hin hi
    go_wp2_with fail
    refine (implConType _ _ _ _ _ _ _ hD hnc (by omega) (by omega)).mono ?_
    rw [E.out]
    rintro e w2 ⟨rfl, q0⟩
    have h0 := hD.ext q0 (fun _ _ h => h)
    have p0 := k1.trans q0
    go_wp2_with fail
    refine (specConType _ _ _ _ _ _ _ h0 (by omega)).mono ?_
    rw [E.out]
    rintro e w3 ⟨rfl, q1⟩
    have h1 := h0.ext q1 (fun _ _ h => h)
    have p1 := p0.trans q1
    go_wp2_with fail
    clear h1
    go_loopw [6] (fun tv wr => ∃ k : Nat, k ≤ n + 1 ∧ tv = .int .i64 k ∧ Keep w1 wr) (fun i _ => n + 1 - (intOf i).toNat)
    case atStart => exact ⟨0, Nat.zero_le _, rfl, q0.trans q1⟩
    case round =>
      obtain ⟨k, hk, rfl, hK⟩ := hrel
      have hx := hD.ext hK (fun _ _ h => h)
      by_cases hlt : k ≤ n
      · have HKn : Hid (k ≤ ds.length) := by show _ ≤ _; have := HL.out; omega
        by_cases hki : k = i + 1
        · have t : ((k : Int) == (i : Int) + 1) = true := by rw [hki]; simp
          have HI := Lib.hid ((HM.out k HKn.out).2 hki)
          clear hki
          go_wp2_with fail
          refine (implConsOf _ _ _ _ _ _ _ hx hnc).mono ?_
          rw [if_pos V.out]
          rintro e w4 ⟨a4, m4, c4, rfl, _, o4, q4⟩
          have M := Lib.hid o4.1
          have hm4 : m4 ≤ 1000 := by have := consL_few hf (k : Int); have := M.out; omega
          go_wp2_with fail
          refine (isIn_yes _ _ _ _ _ _ _ o4.read (by omega) HI.out).mono ?_
          rintro e w5 ⟨rfl, rfl⟩
          clear o4
          go_wp2_with fail
          go_roundw
          case rel => exact ⟨k + 1, by omega, by go_num, hK.trans q4⟩
          case measure => simp [intOf]; omega
        · have t : ((k : Int) == (i : Int) + 1) = false := by simp; omega
          have HI := Lib.hid (fun h => hki ((HM.out k HKn.out).1 h))
          clear hki
          go_wp2_with fail
          refine (implConsOf _ _ _ _ _ _ _ hx hnc).mono ?_
          rw [if_pos V.out]
          rintro e w4 ⟨a4, m4, c4, rfl, _, o4, q4⟩
          have M := Lib.hid o4.1
          have hm4 : m4 ≤ 1000 := by have := consL_few hf (k : Int); have := M.out; omega
          go_wp2_with fail
          refine (isIn_no _ _ _ _ _ _ _ o4.read (by omega) HI.out).mono ?_
          rintro e w5 ⟨rfl, rfl⟩
          clear o4
          go_wp2_with fail
          go_roundw
          case rel => exact ⟨k + 1, by omega, by go_num, hK.trans q4⟩
          case measure => simp [intOf]; omega
      · go_wp2_with fail
        refine (implConCount _ _ _ _ _ _ hx hnc).mono ?_
        rw [EC.out]
        rintro e w4 ⟨rfl, q4⟩
        go_wp2_with fail
        exact fin_ hQ ⟨rfl, (k1.trans hK).trans q4⟩
  · go_enter Try.func11, Try.ntmps11
    go_wp2_with fail
    exact fin_ hQ ⟨rfl, Ext.refl _ _⟩
end Go.Proofs.Ytcfndpgeanbkjaa
