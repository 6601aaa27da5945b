/- validSigs of the program. -/
import Derived.Test.YtmekdccgjgfiaaaQAF
namespace Go.Proofs.Ytmekdccgjgfiaaa
open Go.RowKit

theorem lentAt_neg {s : SigL} {k : Nat} (h : iAt s.lent k < 0) : lentAt s k = false := by
  have e : decide (0 ≤ iAt s.lent k) = false := decide_eq_false (by omega)
  simp only [lentAt, e, Bool.false_and]
theorem lentAt_big {s : SigL} {k : Nat} (h : (s.params.length : Int) ≤ iAt s.lent k) : lentAt s k = false := by
  have e : decide (iAt s.lent k < (s.params.length : Int)) = false := decide_eq_false (by omega)
  simp only [lentAt, e, Bool.false_and, Bool.and_false]
theorem lentAt_int {s : SigL} {k v : Nat} (hv : iAt s.lent k = (v : Int)) (h : iAt s.params v = 0) : lentAt s k = false := by
  have e : decide (iAt s.params (iAt s.lent k).toNat ≠ 0) = false := decide_eq_false (by rw [hv, Int.toNat_natCast]; simpa using h)
  simp only [lentAt, e, Bool.false_and, Bool.and_false]
theorem lentAt_order {s : SigL} {k : Nat} (hk : 0 < k) (h : iAt s.lent k ≤ iAt s.lent (k - 1)) : lentAt s k = false := by
  have e : (decide (k = 0) || decide (iAt s.lent (k - 1) < iAt s.lent k)) = false := by simp; omega
  simp only [lentAt, e, Bool.and_false]
theorem lentAt_yes {s : SigL} {k v : Nat} (hv : iAt s.lent k = (v : Int)) (h1 : v < s.params.length) (h2 : iAt s.params v ≠ 0) (h3 : k = 0 ∨ iAt s.lent (k - 1) < iAt s.lent k) : lentAt s k = true := by
  have e : (decide (k = 0) || decide (iAt s.lent (k - 1) < iAt s.lent k)) = true := by simpa using h3
  have e1 : decide (0 ≤ iAt s.lent k) = true := decide_eq_true (by omega)
  have e2 : decide (iAt s.lent k < (s.params.length : Int)) = true := decide_eq_true (by omega)
  have e3 : decide (iAt s.params (iAt s.lent k).toNat ≠ 0) = true := decide_eq_true (by rw [hv, Int.toNat_natCast]; exact h2)
  simp only [lentAt, e, e1, e2, e3, Bool.and_self]

set_option maxRecDepth 100000 in
set_option maxHeartbeats 4000000 in
theorem implValidSigs0 (ds : List DeclL) (sg : List SigL) (a0 : Option Addr) (n0 c0 : Nat) (a1 : Option Addr) (n1 c1 : Nat) (D0 D1 : Nat → Prop) (w : World) (r0 : Rd w D0 (encDecls ds) (.slice a0 n0 c0)) (r1 : Rd w D1 (encSigs sg) (.slice a1 n1 c1)) :
    Calls Try.prog 49 #[.slice a0 n0 c0, .slice a1 n1 c1] w fun e w' => e = .returned (.bool (sigsOk ds sg)) ∧ Keep w w' := by
  refine calls_k fun Q hQ => ?_
  have hd0 := Lib.hid (r0.toDecls.1)
  have hnc0 := (decls_at r0).2.1
  obtain ⟨e1, hnc, hm, hat⟩ := sigs_at r1
  have HL := Lib.hid e1
  have HA := Lib.hid hat
  clear e1 hat
  cases v1 : typesOk ds
  · have V := Lib.hid (sigsOk_types (sg := sg) v1)
    have V1 := Lib.hid v1
    clear v1
    go_enter Try.func49, Try.ntmps49
    go_wp2_with fail
    refine (implValidTypes _ _ _ _ _ _ r0.toDecls hnc0).mono ?_
    rw [V1.out]
    rintro e w1 ⟨rfl, p1⟩
    go_wp2_with fail
    exact fin_ hQ ⟨ret_b V.out.symm, p1⟩
  have V1 := Lib.hid v1
  clear v1
  by_cases hl1 : 1 ≤ n1
  case neg =>
    have V := Lib.hid (sigsOk_len (ds := ds) (sg := sg) (by have := HL.out; omega))
    go_enter Try.func49, Try.ntmps49
    go_wp2_with fail
    refine (implValidTypes _ _ _ _ _ _ r0.toDecls hnc0).mono ?_
    rw [V1.out]
    rintro e w1 ⟨rfl, p1⟩
    go_wp2_with fail
    exact fin_ hQ ⟨ret_b V.out.symm, p1⟩
  by_cases hl4 : n1 ≤ 4
  case neg =>
    have V := Lib.hid (sigsOk_len (ds := ds) (sg := sg) (by have := HL.out; omega))
    go_enter Try.func49, Try.ntmps49
    go_wp2_with fail
    refine (implValidTypes _ _ _ _ _ _ r0.toDecls hnc0).mono ?_
    rw [V1.out]
    rintro e w1 ⟨rfl, p1⟩
    go_wp2_with fail
    exact fin_ hQ ⟨ret_b V.out.symm, p1⟩
  obtain ⟨b, o, rfl, hd, a3, n3, c3, a4, n4, c4, d0, d1, d2, r3, r4⟩ := HA.out 0 (by omega)
  rw [Nat.zero_mul, Nat.add_zero] at d0 d1 d2
  have hP0 := Lib.hid r3.toInts.1
  clear r3 r4 d1
  by_cases h0 : n3 = 0
  case neg =>
    have V := Lib.hid (sigsOk_first (ds := ds) (sg := sg) (fun h => h0 (by have := h.1; have := hP0.out; omega)))
    go_enter Try.func49, Try.ntmps49
    go_wp2_with fail
    refine (implValidTypes _ _ _ _ _ _ r0.toDecls hnc0).mono ?_
    rw [V1.out]
    rintro e w1 ⟨rfl, p1⟩
    have g0 := (p1.cell (World.block_lt_of_cell? w _ d0) (fun h => h)).trans d0
    have g2 := (p1.cell (World.block_lt_of_cell? w _ d2) (fun h => h)).trans d2
    go_wp2_with fail
    exact fin_ hQ ⟨ret_b V.out.symm, p1⟩
  by_cases h5 : (sgAt sg 0).result = 0
  case neg =>
    have V := Lib.hid (sigsOk_first (ds := ds) (sg := sg) (fun h => h5 h.2))
    have h5' : ((sgAt sg 0).result != 0) = true := by simpa using h5
    subst h0
    go_enter Try.func49, Try.ntmps49
    go_wp2_with fail
    refine (implValidTypes _ _ _ _ _ _ r0.toDecls hnc0).mono ?_
    rw [V1.out]
    rintro e w1 ⟨rfl, p1⟩
    have g0 := (p1.cell (World.block_lt_of_cell? w _ d0) (fun h => h)).trans d0
    have g2 := (p1.cell (World.block_lt_of_cell? w _ d2) (fun h => h)).trans d2
    go_wp2_with fail
    exact fin_ hQ ⟨ret_b V.out.symm, p1⟩
  have V5 := Lib.hid h5
  subst h0
  rw [h5] at d2
  clear h5
  go_enter Try.func49, Try.ntmps49
  go_wp2_with fail
  refine (implValidTypes _ _ _ _ _ _ r0.toDecls hnc0).mono ?_
  rw [V1.out]
  rintro e w1 ⟨rfl, p1⟩
  have g0 := (p1.cell (World.block_lt_of_cell? w _ d0) (fun h => h)).trans d0
  have g2 := (p1.cell (World.block_lt_of_cell? w _ d2) (fun h => h)).trans d2
  go_wp2_with fail
  clear g0 g2 d0 d2
  go_loopw [39] (fun iv wr => ∃ j : Nat, j ≤ n1 ∧ iv = .int .i64 j ∧ Hid (∀ l, l < j → sigOk n0 (sgAt sg l) = true) ∧ Keep w wr) (fun i _ => n1 - (intOf i).toNat)
  case atStart => exact ⟨0, Nat.zero_le _, rfl, fun j hj => absurd hj (by omega), p1⟩
  case round =>
    obtain ⟨wo, rfl⟩ : ∃ wo : World, wo = wr := ⟨_, rfl⟩
    obtain ⟨j, hj, rfl, H, hK⟩ := hrel
    by_cases hlt : j < n1
    · obtain ⟨_, _, e, hd, a3, n3, c3, a4, n4, c4, d0, d1, d2, r3, r4⟩ := HA.out j hlt
      injection e with e
      injection e with e1 e2
      subst e1
      subst e2
      have g0 := (hK.cell (World.block_lt_of_cell? w _ d0) (fun h => h)).trans d0
      have g1 := (hK.cell (World.block_lt_of_cell? w _ d1) (fun h => h)).trans d1
      have g2 := (hK.cell (World.block_lt_of_cell? w _ d2) (fun h => h)).trans d2
      have hP := Lib.hid r3.toInts.1
      have ka := Keep.al wo (.cells #[.slice a3 n3 c3, .slice a4 n4 c4, .int .i64 (sgAt sg j).result] 98)
      have q3 := Lib.hid (((r3.k hK).k ka))
      have q4 := Lib.hid (((r4.k hK).k ka))
      have hKa := Lib.hid (hK.trans ka)
      have hj' := Lib.hid (show j < sg.length by have := HL.out; omega)
      clear d0 d1 d2 r3 r4 ka
      by_cases h3 : n3 ≤ 3
      case neg =>
        have V := Lib.hid (sigsOk_at (ds := ds) hd0.out hj'.out (sigOk_len (n := n0) (by have := hP.out; omega)))
        go_wp2_with fail
        exact fin_ hQ ⟨ret_b V.out.symm, hKa.out⟩
      cases v3 : allT n0 (sgAt sg j).params
      · have V := Lib.hid (sigsOk_at (ds := ds) hd0.out hj'.out (sigOk_params v3))
        have V3 := Lib.hid v3
        clear v3
        go_wp2_with fail
        refine (implAllTypes _ _ _ _ _ _ _ _ _ q3.out.toInts (by omega)).mono ?_
        rw [V3.out]
        rintro e w2 ⟨rfl, rfl⟩
        go_wp2_with fail
        exact fin_ hQ ⟨ret_b V.out.symm, hKa.out⟩
      have V3 := Lib.hid v3
      clear v3
      cases v4 : isT n0 (sgAt sg j).result
      · have V := Lib.hid (sigsOk_at (ds := ds) hd0.out hj'.out (sigOk_result v4))
        have V4 := Lib.hid v4
        clear v4
        go_wp2_with fail
        refine (implAllTypes _ _ _ _ _ _ _ _ _ q3.out.toInts (by omega)).mono ?_
        rw [V3.out]
        rintro e w2 ⟨rfl, rfl⟩
        go_wp2_with fail
        refine (implIsType_no _ _ _ _ _ V4.out).mono ?_
        rintro e w2 ⟨rfl, rfl⟩
        go_wp2_with fail
        exact fin_ hQ ⟨ret_b V.out.symm, hKa.out⟩
      have V4 := Lib.hid v4
      clear v4
      go_wp2_with fail
      refine (implAllTypes _ _ _ _ _ _ _ _ _ q3.out.toInts (by omega)).mono ?_
      rw [V3.out]
      rintro e w2 ⟨rfl, rfl⟩
      go_wp2_with fail
      refine (implIsType_yes _ _ _ _ _ V4.out).mono ?_
      rintro e w2 ⟨rfl, rfl⟩
      go_wp2_with fail
      clear g0 g1 g2
      obtain ⟨eP, _, _, hatP⟩ := ints_at q3.out
      obtain ⟨eL, _, hmL, hatL⟩ := ints_at q4.out
      have HP := Lib.hid hatP
      have HLn := Lib.hid hatL
      have EL := Lib.hid eL
      clear eP eL hatP hatL
      go_loopw [64] (fun iv wr => ∃ k : Nat, k ≤ n4 ∧ iv = .int .i64 k ∧ Hid (∀ l, l < k → lentAt (sgAt sg j) l = true) ∧ Keep (wo.alloc (.cells #[.slice a3 n3 c3, .slice a4 n4 c4, .int .i64 (sgAt sg j).result] 98)) wr) (fun i _ => n4 - (intOf i).toNat)
      case atStart => exact ⟨0, Nat.zero_le _, rfl, fun j hj => absurd hj (by omega), Ext.refl _ _⟩
      case round =>
        obtain ⟨wi, rfl⟩ : ∃ wi : World, wi = wr := ⟨_, rfl⟩
        obtain ⟨k, hk, rfl, H2, hK2⟩ := hrel
        have y0 := boxk hK2 0
        have y1 := boxk hK2 1
        simp only [List.getElem?_toArray, List.getElem?_cons_zero, List.getElem?_cons_succ] at y0 y1
        by_cases hltk : k < n4
        · obtain ⟨b4, o4, rfl, _, f0⟩ := HLn.out k hltk
          have t0 := (hK2.cell (World.block_lt_of_cell? _ _ f0) (fun h => h)).trans f0
          clear f0
          have hk' := Lib.hid (show k < (sgAt sg j).lent.length by have := EL.out; omega)
          by_cases c1 : iAt (sgAt sg j).lent k < 0
          · have V := Lib.hid (sigsOk_at (ds := ds) hd0.out hj'.out (sigOk_lent hk'.out (lentAt_neg c1)))
            go_wp2_with fail
            exact fin_ hQ ⟨ret_b V.out.symm, hKa.out.trans hK2⟩
          by_cases c2 : (n3 : Int) ≤ iAt (sgAt sg j).lent k
          · have V := Lib.hid (sigsOk_at (ds := ds) hd0.out hj'.out (sigOk_lent hk'.out (lentAt_big (by have := hP.out; omega))))
            go_wp2_with fail
            exact fin_ hQ ⟨ret_b V.out.symm, hKa.out.trans hK2⟩
          obtain ⟨v, hv⟩ : ∃ v : Nat, iAt (sgAt sg j).lent k = (v : Int) := ⟨(iAt (sgAt sg j).lent k).toNat, by omega⟩
          rw [hv] at t0 c1 c2
          have hv3 : v < n3 := by omega
          have HV := Lib.hid hv
          obtain ⟨b3, o3, rfl, _, f3⟩ := HP.out v hv3
          have t3 := (hK2.cell (World.block_lt_of_cell? _ _ f3) (fun h => h)).trans f3
          clear f3 c1 c2 hv
          by_cases c3 : iAt (sgAt sg j).params v = 0
          · have V := Lib.hid (sigsOk_at (ds := ds) hd0.out hj'.out (sigOk_lent hk'.out (lentAt_int HV.out c3)))
            rw [c3] at t3
            clear c3
            go_wp2_with fail
            exact fin_ hQ ⟨ret_b V.out.symm, hKa.out.trans hK2⟩
          have c3' : (iAt (sgAt sg j).params v == 0) = false := by simpa using c3
          by_cases c4 : k = 0
          · have V := Lib.hid (lentAt_yes HV.out (by have := hP.out; omega) c3 (.inl c4))
            have HK0 := Lib.hid c4
            have c4' : ¬ (0 : Int) < (k : Int) := by omega
            clear c3 c4
            go_wp2_with fail
            go_roundw
            case rel => exact ⟨k + 1, by omega, by go_num, fun l hl => by
              obtain rfl : l = k := by have := HK0.out; omega
              exact V.out, hK2⟩
            case measure => simp [intOf]; omega
          obtain ⟨k, rfl⟩ : ∃ m, k = m + 1 := ⟨k - 1, by omega⟩
          obtain ⟨_, _, e, _, f5⟩ := HLn.out k (by omega)
          injection e with e
          injection e with e1 e2
          subst e1
          subst e2
          have t5 := (hK2.cell (World.block_lt_of_cell? _ _ f5) (fun h => h)).trans f5
          clear f5 c4
          have wr1 : IntKind.i64.wrap (((k + 1 : Nat) : Int) - 1) = (k : Int) := by
            have : ((k + 1 : Nat) : Int) - 1 = (k : Int) := by omega
            rw [this]
            exact IntWalk.i64_in _ (by omega)
          have wr2 : IntKind.i64.wrap ((k : Int) + 1 - 1) = (k : Int) := by rw [show (k : Int) + 1 - 1 = (k : Int) by omega]; exact IntWalk.i64_in _ (by omega)
          by_cases c5 : (v : Int) ≤ iAt (sgAt sg j).lent k
          · have V := Lib.hid (sigsOk_at (ds := ds) hd0.out hj'.out (sigOk_lent hk'.out (lentAt_order (Nat.succ_pos k) (by rw [HV.out]; exact c5))))
            clear c3
            go_wp2_with fail
            exact fin_ hQ ⟨ret_b V.out.symm, hKa.out.trans hK2⟩
          · have V := Lib.hid (lentAt_yes HV.out (by have := hP.out; omega) c3 (.inr (by rw [HV.out]; show iAt _ k < _; omega)))
            clear c3
            go_wp2_with fail
            go_roundw
            case rel => exact ⟨k + 1 + 1, by omega, by go_num, fun l hl => by
              rcases Nat.lt_succ_iff_lt_or_eq.1 hl with h | rfl
              · exact H2.out l h
              · exact V.out, hK2⟩
            case measure => simp [intOf]; omega
        · have V := Lib.hid (sigOk_yes (n := n0) (s := sgAt sg j) (by have := hP.out; omega) V3.out V4.out (fun l hl => H2.out l (by have := EL.out; omega)))
          go_wp2_with fail
          go_roundw
          case rel => exact ⟨j + 1, by omega, by go_num, fun l hl => by
            rcases Nat.lt_succ_iff_lt_or_eq.1 hl with h | rfl
            · exact H.out l h
            · exact V.out, (hK.trans (Keep.al _ _)).trans hK2⟩
          case measure => simp [intOf]; omega
    · have V := Lib.hid (sigsOk_yes (n := n0) hd0.out V1.out (by have := HL.out; omega) (by have := HL.out; omega) hP0.out V5.out (fun i hi => H.out i (by have := HL.out; omega)))
      go_wp2_with fail
      exact fin_ hQ ⟨ret_b V.out.symm, hK⟩
end Go.Proofs.Ytmekdccgjgfiaaa
