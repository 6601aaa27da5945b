/- The drawn law FnInhabited: the walk. -/
import Derived.Test.YthdjijhpdgajbaaInhLaw
import Derived.Test.YthdjijhpdgajbaaInhI2
import Derived.Test.YthdjijhpdgajbaaDrawInh
namespace Go.Proofs.Ythdjijhpdgajbaa
open Go.RowKit

set_option maxRecDepth 100000 in
set_option maxHeartbeats 4000000 in
theorem fnInhabited_walk (a : Option Addr) (len cap : Nat) (z : Nat → Int) (w : World) (h : Byt w a len z) (hlc : len ≤ cap) :
    Calls Try.prog 5 #[.slice a len cap] w fun e w' => e = .returned (.bool true) ∧ Keep w w' := by
  refine calls_k fun Q hQ => ?_
  by_cases hl : len ≤ 1048576
  case neg =>
    go_enter Try.func5, Try.ntmps5
    go_wp2_with fail
    exact fin_ hQ ⟨rfl, Ext.refl _ _⟩
  go_enter Try.func5, Try.ntmps5
  go_wp2_with fail
  refine (DrawInhabited_any a len cap z w h hlc hl).mono ?_
  rintro e w1 ⟨v, rfl, a2, n, c, ds, rfl, hnc, hn6, hR, k1⟩
  have hD := hR.toDecls
  have HL := Lib.hid hD.1
  clear h
  cases hv : typesOk ds
  · have V := Lib.hid hv
    clear hv
    have E : Hid ((if typesOk ds = true then inhL ds else []) = []) := by show _ = _; rw [V.out]; rfl
    go_wp2_with fail
    refine (implInhabited _ _ _ _ _ _ hD hnc).mono ?_
    rw [E.out]
    rintro e w2 ⟨r2, m2, c2, rfl, hc2, o2, q2⟩
    have h2 := hD.ext q2 (fun _ _ h => h)
    have p2 := k1.trans q2
    have hm2 : m2 = 0 := by have := o2.1; simpa using this.symm
    subst hm2
    have O2 := Lib.hid o2
    clear o2
    go_wp2_with fail
    refine (specInhabited _ _ _ _ _ _ h2 (by omega)).mono ?_
    rw [E.out]
    rintro e w3 ⟨r3, m3, c3, rfl, _, o3, q3⟩
    have h3 := h2.ext q3 (fun _ _ h => h)
    have p3 := p2.trans q3
    have O3 := Lib.hid o3
    have O23 := Lib.hid (O2.out.ext q3 (fun _ _ h => h))
    clear o3
    go_wp2_with fail
    refine (equalInts_same _ _ _ _ _ _ [] _ _ _ O23.out.read O3.out.read (by omega)).mono ?_
    rintro e w4 ⟨rfl, q4⟩
    have h4 := h3.ext q4 (fun _ _ h => h)
    have p4 := p3.trans q4
    have O24 := Lib.hid (O23.out.ext q4 (fun _ _ h => h))
    go_wp2_with fail
    refine (specInhabited _ _ _ _ _ _ h4 (by omega)).mono ?_
    rw [E.out]
    rintro e w5 ⟨r5, m5, c5, rfl, _, o5, q5⟩
    have O5 := Lib.hid o5
    have O25 := Lib.hid (O24.out.ext q5 (fun _ _ h => h))
    clear o5
    go_wp2_with fail
    refine (equalInts_same _ _ _ _ _ _ [] _ _ _ O25.out.read O5.out.read (by omega)).mono ?_
    rintro e w6 ⟨rfl, q6⟩
    go_wp2_with fail
    exact fin_ hQ ⟨rfl, (p4.trans q5).trans q6⟩
  have V := Lib.hid hv
  have hf := Few.of_ok hv
  have hn4 : n ≤ 4 := by have := hf.1; have := HL.out; omega
  have HFW := Lib.hid hf
  have E : Hid ((if typesOk ds = true then inhL ds else []) = inhL ds) := by show _ = _; rw [V.out]; rfl
  clear hv hf
  go_wp2_with fail
  refine (implInhabited _ _ _ _ _ _ hD hnc).mono ?_
  rw [E.out]
  rintro e w2 ⟨r2, m2, c2, rfl, hc2, o2, q2⟩
  have h2 := hD.ext q2 (fun _ _ h => h)
  have p2 := k1.trans q2
  have hm2 : 0 < m2 ∧ m2 ≤ 5 := by have h1 := o2.1; have h2 := inhL_pos ds; have h3 := inhL_len5 V.out; omega
  obtain ⟨hm0, hm5⟩ := hm2
  have O2 := Lib.hid o2
  clear o2
  go_wp2_with fail
  refine (specInhabited _ _ _ _ _ _ h2 (by omega)).mono ?_
  rw [E.out]
  rintro e w3 ⟨r3, m3, c3, rfl, _, o3, q3⟩
  have h3 := h2.ext q3 (fun _ _ h => h)
  have p3 := p2.trans q3
  have O3 := Lib.hid o3
  have O23 := Lib.hid (O2.out.ext q3 (fun _ _ h => h))
  clear o3
  go_wp2_with fail
  refine (equalInts_same _ _ _ _ _ _ (inhL ds) _ _ _ O23.out.read O3.out.read (by omega)).mono ?_
  rintro e w4 ⟨rfl, q4⟩
  have H4 := Lib.hid (h3.ext q4 (fun _ _ h => h))
  have p4 := p3.trans q4
  have O24 := Lib.hid (O23.out.ext q4 (fun _ _ h => h))
  have hme : ((m2 : Int) == 0) = false := by simp; omega
  clear hD h2 h3 q2 q3 q4 O2 O23 O3 hR
  go_wp2_with fail
  clear hme
  go_loopw [5] (fun tv wr => ∃ j : Nat, j ≤ n ∧ tv = .int .i64 ((j : Int) + 1) ∧ wr = w4) (fun i _ => n + 1 - (intOf i).toNat)
  case atStart => exact ⟨0, Nat.zero_le _, rfl, rfl⟩
  case round =>
    obtain ⟨j, hj, rfl, hw⟩ := hrel
    obtain rfl := hw.symm
    by_cases hlt : j < n
    case neg =>
      have hj1 : ¬ ((j : Int) + 1 ≤ (n : Int)) := by omega
      go_wp2_with fail
      refine (isIn_yes _ _ _ _ _ _ _ O24.out.read (by omega) (inhL_has0 ds)).mono ?_
      rintro e w5 ⟨rfl, rfl⟩
      go_wp2_with fail
      refine (ascends_yes _ _ _ _ _ _ O24.out.read (by omega) (asc_I inhL_asc)).mono ?_
      rintro e w6 ⟨rfl, q6⟩
      go_wp2_with fail
      exact fin_ hQ ⟨rfl, p4.trans q6⟩
    have hj1 : (j : Int) + 1 ≤ (n : Int) := by omega
    have HJ : Hid (j < ds.length) := by have := HL.out; show _ < _; omega
    obtain ⟨b, o, rfl, hd, hcc⟩ := H4.out.2 (by omega)
    obtain ⟨d0, d1, a', m, c', d2, _, hC⟩ := hcc j hlt
    have HM := Lib.hid hC.1
    have hm3 : m ≤ 3 := by have h1 := hC.1; have h2 := HFW.out.2 j HJ.out; omega
    have HC := Lib.hid hC
    have hw1 : IntKind.i64.wrap ((j : Int) + 1 - 1) = (j : Int) := by rw [show (j : Int) + 1 - 1 = (j : Int) by omega]; exact IntWalk.i64_in _ (by omega)
    have hw2 : (j : Int) + 1 - 1 = (j : Int) := by omega
    have VF := Lib.hid (inhL_full (ds := ds) HJ.out)
    obtain ⟨e0, he0⟩ : ∃ e0, decide ((dAt ds j).cons.length = 0) = e0 := ⟨_, rfl⟩
    have hm1 : ((m : Int) == 0) = e0 := by
      rw [← he0, hC.1]
      by_cases h : m = 0
      · subst h; rfl
      · rw [decide_eq_false h]; simpa using h
    have HE0 := Lib.hid he0
    clear hcc d0 d1 hC he0
    go_wp2_with fail
    clear hm1
    go_loopw [6, 7] (fun fv iv wr => ∃ i : Nat, i ≤ m ∧ iv = .int .i64 i ∧ fv = .bool (e0 || anyC ((dAt ds j).cons.take i) (fun x => decide (x ∈ inhL ds))) ∧ wr = w4) (fun _ i _ => m - (intOf i).toNat)
    case atStart => exact ⟨0, Nat.zero_le _, rfl, by simp [anyC], rfl⟩
    case round =>
      obtain ⟨i, hi, rfl, rfl, hw⟩ := hrel
      obtain rfl := hw.symm
      obtain ⟨fb, hfb⟩ : ∃ fb, (e0 || anyC ((dAt ds j).cons.take i) (fun x => decide (x ∈ inhL ds))) = fb := ⟨_, rfl⟩
      have HFB := Lib.hid hfb
      rw [hfb]
      clear hfb
      by_cases hlt2 : i < m
      case neg =>
        have VE : Hid (decide (((j : Int) + 1) ∈ inhL ds) = fb) := by
          show _ = _
          have h := HFB.out
          rw [List.take_of_length_le (by have := HM.out; omega)] at h
          rw [VF.out, fullB, HE0.out, ← h, Bool.or_comm]
        go_wp2_with fail
        refine (isIn_any _ _ _ _ _ _ _ O24.out.read (by omega)).mono ?_
        rw [VE.out]
        rintro e w5 ⟨rfl, rfl⟩
        have hbb : (fb != fb) = false := by simp
        go_wp2_with fail
        go_roundw
        case rel => exact ⟨j + 1, by omega, by go_num, trivial⟩
        case measure => simp [intOf]; omega
      have HI : Hid (i < (dAt ds j).cons.length) := by have := HM.out; show _ < _; omega
      have HSS : Hid (∀ bb, withinB (cAt (dAt ds j).cons i) (inhL ds) = bb → (e0 || anyC ((dAt ds j).cons.take (i + 1)) (fun x => decide (x ∈ inhL ds))) = (fb || bb)) := by
        intro bb hb
        rw [show (dAt ds j).cons.take (i + 1) = (dAt ds j).cons.take i ++ [cAt (dAt ds j).cons i] by rw [List.take_succ_eq_append_getElem HI.out, cAt_eq HI.out], anyC, List.any_append, ← HFB.out, ← hb, anyC, Bool.or_assoc]
        congr 2
        simp only [List.any_cons, List.any_nil, Bool.or_false, withinB]
        cases hd : decide (∀ x, x ∈ cAt (dAt ds j).cons i → x ∈ inhL ds)
        · cases ha : (cAt (dAt ds j).cons i).all (fun x => decide (x ∈ inhL ds))
          · rfl
          · simp only [List.all_eq_true, decide_eq_true_eq] at ha
            exact absurd ha (of_decide_eq_false hd)
        · rw [List.all_eq_true]
          exact fun x hx => decide_eq_true (of_decide_eq_true hd x hx)
      obtain ⟨bb, hbb⟩ : ∃ bb, withinB (cAt (dAt ds j).cons i) (inhL ds) = bb := ⟨_, rfl⟩
      have HBB := Lib.hid hbb
      have HS := Lib.hid (HSS.out bb hbb)
      obtain ⟨b2, o2, rfl, hd2, hc3⟩ := HC.out.2 (by omega)
      obtain ⟨a5, m5, c5, g0, _, hI5⟩ := hc3 i hlt2
      have I5 := Lib.hid hI5
      have hm6 : m5 ≤ 3 := by have h1 := con_len V.out HJ.out HI.out; have h2 := hI5.1; omega
      clear hbb HSS hc3 hI5
      cases fb
      · go_wp2_with fail
        refine (within_any _ _ _ _ _ _ _ _ _ _ _ I5.out O24.out.read (by omega) (by omega)).mono ?_
        rw [HBB.out]
        rintro e w5 ⟨rfl, rfl⟩
        go_wp2_with fail
        go_roundw
        case rel => exact ⟨i + 1, by omega, by go_num, by rw [HS.out]; rfl, trivial⟩
        case measure => simp [intOf]; omega
      · go_wp2_with fail
        go_roundw
        case rel => exact ⟨i + 1, by omega, by go_num, by rw [HS.out]; rfl, trivial⟩
        case measure => simp [intOf]; omega
end Go.Proofs.Ythdjijhpdgajbaa
