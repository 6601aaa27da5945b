/- The steps of a block, counted by the reference and by the program. -/
import Derived.Test.YtmekdccgjgfiaaaQAB
import Derived.Test.YtmekdccgjgfiaaaQAC
import Derived.Test.YtmekdccgjgfiaaaQAF
import Derived.Test.YtmekdccgjgfiaaaQAD
import Derived.Test.YtmekdccgjgfiaaaQAE
namespace Go.Proofs.Ytmekdccgjgfiaaa
open Go.RowKit

mutual
/-- The number of steps. -/
def nS : StepL → Nat
  | .mk _ _ _ _ ks => nBs ks + 1
def nSs : List StepL → Nat
  | [] => 0
  | s :: ss => nS s + nSs ss
def nB : BlockL → Nat
  | .mk ss _ => nSs ss
def nBs : List BlockL → Nat
  | [] => 0
  | b :: bs => nB b + nBs bs
end
theorem nS_eq (s : StepL) : nS s = nBs s.kids + 1 := by cases s; rw [nS]; rfl
theorem nB_eq (b : BlockL) : nB b = nSs b.steps := by cases b; rw [nB]; rfl
theorem nSs_append (a b : List StepL) : nSs (a ++ b) = nSs a + nSs b := by induction a <;> simp_all [nSs, Nat.add_assoc]
theorem nBs_append (a b : List BlockL) : nBs (a ++ b) = nBs a + nBs b := by induction a <;> simp_all [nBs, Nat.add_assoc]
theorem nSs_take (es : List StepL) {j : Nat} (h : j < es.length) : nSs (es.take (j + 1)) = nSs (es.take j) + nS (sAt es j) := by rw [List.take_succ_eq_append_getElem h, sAt_get h, nSs_append]; simp [nSs]
theorem nBs_take (es : List BlockL) {j : Nat} (h : j < es.length) : nBs (es.take (j + 1)) = nBs (es.take j) + nB (bAt es j) := by rw [List.take_succ_eq_append_getElem h, bAt_get h, nBs_append]; simp [nBs]
theorem nSs_take_le (es : List StepL) (j : Nat) : nSs (es.take j) ≤ nSs es := by
  conv => rhs; rw [← List.take_append_drop j es, nSs_append]
  omega
theorem nBs_take_le (es : List BlockL) (j : Nat) : nBs (es.take j) ≤ nBs es := by
  conv => rhs; rw [← List.take_append_drop j es, nBs_append]
  omega
theorem nS_le (es : List StepL) {j : Nat} (h : j < es.length) : nS (sAt es j) ≤ nSs es := by
  have h1 := nSs_take es h
  have h2 := nSs_take_le es (j + 1)
  omega
theorem nB_le (es : List BlockL) {j : Nat} (h : j < es.length) : nB (bAt es j) ≤ nBs es := by
  have h1 := nBs_take es h
  have h2 := nBs_take_le es (j + 1)
  omega
theorem nkid_lt (ss : List StepL) {j k : Nat} (h : j < ss.length) (h2 : k < (sAt ss j).kids.length) : nSs (bAt (sAt ss j).kids k).steps < nSs ss := by
  have := nS_le ss h
  have := nS_eq (sAt ss j)
  have := nB_le (sAt ss j).kids h2
  have := nB_eq (bAt (sAt ss j).kids k)
  omega

set_option maxRecDepth 100000 in
set_option maxHeartbeats 2000000 in
theorem specStepsLeft_n (N : Nat) : ∀ (ss : List StepL) (res : Int), nSs ss < N → ∀ (a : Option Addr) (n c : Nat) (D : Nat → Prop) (left : Int) (w : World), Rd w D (encSteps ss) (.slice a n c) → 0 ≤ left → left ≤ 1048576 →
    Calls Try.prog 42 #[.agg #[.slice a n c, .int .i64 res], .int .i64 left] w fun e w' => e = .returned (.int .i64 (lft (nSs ss) left)) ∧ Keep w w' := by
  induction N with
  | zero => intro ss _ h; omega
  | succ N ihN =>
  intro ss res hN a n c D left w h h0 h1
  refine calls_k fun Q hQ => ?_
  obtain ⟨e1, hnc, hm, hat⟩ := steps_at h
  have HL := Lib.hid e1
  have HA := Lib.hid hat
  have IH := Lib.hid (fun (j k : Nat) (hj : j < ss.length) (hk : k < (sAt ss j).kids.length) => ihN (bAt (sAt ss j).kids k).steps (bAt (sAt ss j).kids k).result (by have := nkid_lt ss hj hk; omega))
  clear e1 hat ihN hN
  have K0 := Keep.al w (.cells #[.slice a n c, .int .i64 res] 41)
  go_enter Try.func42, Try.ntmps42
  go_wp2
  go_loopw [1, 5] (fun lv iv wr => ∃ j : Nat, j ≤ n ∧ iv = .int .i64 j ∧ lv = .int .i64 (left - (nSs (ss.take j) : Int)) ∧ (nSs (ss.take j) : Int) ≤ left ∧ Keep (w.alloc (.cells #[.slice a n c, .int .i64 res] 41)) wr) (fun _ i _ => n - (intOf i).toNat)
  case atStart => exact ⟨0, Nat.zero_le _, rfl, by simp [nSs], by simp only [List.take_zero, nSs]; omega, Ext.refl _ _⟩
  case round =>
    obtain ⟨wo, rfl⟩ : ∃ wo : World, wo = wr := ⟨_, rfl⟩
    obtain ⟨j, hj, rfl, rfl, hsz, hK⟩ := hrel
    have x0 := boxk hK 0
    simp at x0
    by_cases hlt : j < n
    · have hst := nSs_take ss (j := j) (by have := HL.out; omega)
      have hee := nS_eq (sAt ss j)
      have hle := nSs_take_le ss (j + 1)
      by_cases hl1 : left - (nSs (ss.take j) : Int) < 1
      · have V2 := Lib.hid (lft_no (s := nSs ss) (left := left) (by omega))
        clear hst hee hle
        go_wp2_with fail
        exact fin_ hQ ⟨ret_i V2.out.symm, K0.trans hK⟩
      obtain ⟨b, o, rfl, hd, a3, n3, c3, a4, n4, c4, d0, d1, d2, d3, d4, r3, r4⟩ := HA.out j hlt
      have hKw := K0.trans hK
      have d4' := Lib.hid d4
      have g4 := (hKw.cell (World.block_lt_of_cell? w _ d4) (fun h => h)).trans d4
      have q4 := r4.k hKw
      obtain ⟨e4, hnc4, hm4, hat4⟩ := blocks_at q4
      have HL4 := Lib.hid e4
      have HA4 := Lib.hid hat4
      have HS := Lib.hid hst
      have HE := Lib.hid hee
      have HLE := Lib.hid hle
      clear d0 d1 d2 d3 d4 r3 r4 hst hee hle e4 hat4 q4
      go_wp2_with fail
      go_loopw [1, 6] (fun lv iv wr => ∃ k : Nat, k ≤ n4 ∧ iv = .int .i64 k ∧ lv = .int .i64 (left - (nSs (ss.take j) : Int) - 1 - (nBs ((sAt ss j).kids.take k) : Int)) ∧ (nBs ((sAt ss j).kids.take k) : Int) ≤ left - (nSs (ss.take j) : Int) - 1 ∧ Keep wo wr) (fun _ i _ => n4 - (intOf i).toNat)
      case atStart => exact ⟨0, Nat.zero_le _, rfl, by simp [nBs], by simp only [List.take_zero, nBs]; omega, Ext.refl _ _⟩
      case round =>
        obtain ⟨k, hk, rfl, rfl, hsz2, hK2⟩ := hrel
        have x0' := (hK2.cell (World.block_lt_of_cell? _ _ x0) (fun h => h)).trans x0
        have g4' := (hK2.cell (World.block_lt_of_cell? _ _ g4) (fun h => h)).trans g4
        by_cases hltk : k < n4
        · have hstk := nBs_take (sAt ss j).kids (j := k) (by have := HL4.out; omega)
          have heek := nB_eq (bAt (sAt ss j).kids k)
          have hlek := nBs_take_le (sAt ss j).kids (k + 1)
          obtain ⟨b4, o4, rfl, hd4, a5, n5, c5, f0, f1, r5⟩ := HA4.out k hltk
          have t0 := (hK2.cell (World.block_lt_of_cell? _ _ f0) (fun h => h)).trans f0
          have t1 := (hK2.cell (World.block_lt_of_cell? _ _ f1) (fun h => h)).trans f1
          have q5 := r5.k hK2
          have u0 : 0 ≤ left - (nSs (ss.take j) : Int) - 1 - (nBs ((sAt ss j).kids.take k) : Int) := by omega
          have HSk := Lib.hid hstk
          have HEk := Lib.hid heek
          have HLk := Lib.hid hlek
          clear f0 f1 r5 hstk heek hlek
          by_cases hf : (nBs ((sAt ss j).kids.take (k + 1)) : Int) ≤ left - (nSs (ss.take j) : Int) - 1
          · have V : Hid (lft (nSs (bAt (sAt ss j).kids k).steps) (left - (nSs (ss.take j) : Int) - 1 - (nBs ((sAt ss j).kids.take k) : Int)) = left - (nSs (ss.take j) : Int) - 1 - (nBs ((sAt ss j).kids.take (k + 1)) : Int)) := by
              show _ = _
              have := HSk.out; have := HEk.out
              rw [lft_yes (by omega)]; omega
            have u1 : 0 ≤ left - (nSs (ss.take j) : Int) - 1 - (nBs ((sAt ss j).kids.take (k + 1)) : Int) := by omega
            go_wp2_with fail
            refine (IH.out j k (by have := HL.out; omega) (by have := HL4.out; omega) _ _ _ _ _ _ q5 (by omega) (by omega)).mono ?_
            rw [V.out]
            rintro e w1 ⟨rfl, p1⟩
            go_wp2_with fail
            go_roundw
            case rel => exact ⟨k + 1, by omega, by go_num, rfl, by omega, hK2.trans p1⟩
            case measure => simp [intOf]; omega
          · have V : Hid (lft (nSs (bAt (sAt ss j).kids k).steps) (left - (nSs (ss.take j) : Int) - 1 - (nBs ((sAt ss j).kids.take k) : Int)) = -1) := by
              have := HSk.out; have := HEk.out
              exact lft_no (by omega)
            have V2 : Hid (lft (nSs ss) left = -1) := lft_no (by have := HS.out; have := HE.out; have := HLE.out; have := HLk.out; omega)
            go_wp2_with fail
            refine (IH.out j k (by have := HL.out; omega) (by have := HL4.out; omega) _ _ _ _ _ _ q5 (by omega) (by omega)).mono ?_
            rw [V.out]
            rintro e w1 ⟨rfl, p1⟩
            go_wp2_with fail
            exact fin_ hQ ⟨ret_i V2.out.symm, (hKw.trans hK2).trans p1⟩
        · have HK : Hid (k = n4) := by show _ = _; omega
          have hz : (nSs (ss.take (j + 1)) : Int) = (nSs (ss.take j) : Int) + 1 + (nBs ((sAt ss j).kids.take k) : Int) := by
            have := HS.out; have := HE.out
            rw [List.take_of_length_le (l := (sAt ss j).kids) (i := k) (by have := HK.out; have := HL4.out; omega)]
            omega
          have HZ := Lib.hid hz
          clear hz
          go_wp2_with fail
          go_roundw
          case rel => exact ⟨j + 1, by omega, by go_num, by rw [HZ.out]; congr 1; omega, by rw [HZ.out]; omega, hK.trans hK2⟩
          case measure => simp [intOf]; omega
    · have HJ : Hid (j = n) := by show _ = _; omega
      go_wp2
      exact fin_ hQ ⟨ret_i (by
        have e := HJ.out
        subst e
        rw [List.take_of_length_le (Nat.le_of_eq HL.out)] at hsz ⊢
        rw [lft_yes (by omega)]), K0.trans hK⟩

theorem specStepsLeft (ss : List StepL) (res : Int) (a : Option Addr) (n c : Nat) (D : Nat → Prop) (left : Int) (w : World) (h : Rd w D (encSteps ss) (.slice a n c)) (h0 : 0 ≤ left) (h1 : left ≤ 1048576) :
    Calls Try.prog 42 #[.agg #[.slice a n c, .int .i64 res], .int .i64 left] w fun e w' => e = .returned (.int .i64 (lft (nSs ss) left)) ∧ Keep w w' :=
  specStepsLeft_n _ ss res (Nat.lt_succ_self _) a n c D left w h h0 h1

/-- The number of steps; -1 if there are too many. -/
def stepsL (ss : List StepL) : Int := if nSs ss ≤ 600 then (nSs ss : Int) else -1
theorem stepsL_yes {ss : List StepL} (h : nSs ss ≤ 600) : stepsL ss = (nSs ss : Int) := if_pos h
theorem stepsL_no {ss : List StepL} (h : ¬ nSs ss ≤ 600) : stepsL ss = -1 := if_neg h

theorem specStepsOf0 (ss : List StepL) (res : Int) (a : Option Addr) (n c : Nat) (D : Nat → Prop) (w : World) (h : Rd w D (encSteps ss) (.slice a n c)) :
    Calls Try.prog 22 #[.agg #[.slice a n c, .int .i64 res]] w fun e w' => e = .returned (.int .i64 (stepsL ss)) ∧ Keep w w' := by
  refine calls_k fun Q hQ => ?_
  have K0 := Keep.al w (.cells #[.slice a n c, .int .i64 res] 41)
  by_cases hl : nSs ss ≤ 600
  · have V := Lib.hid (stepsL_yes hl)
    have V2 := Lib.hid (lft_yes (s := nSs ss) (left := 600) (by omega))
    have b1 : 0 ≤ 600 - (nSs ss : Int) := by omega
    generalize hm : nSs ss = m at V V2 b1 hl
    have HM := Lib.hid hm
    clear hm
    go_enter Try.func22, Try.ntmps22
    go_wp2_with fail
    refine (specStepsLeft _ _ _ _ _ _ _ _ (h.k K0) (by omega) (by omega)).mono ?_
    rw [HM.out, V2.out]
    rintro e w1 ⟨rfl, p1⟩
    go_wp2_with fail
    exact fin_ hQ ⟨ret_i (by rw [V.out]; omega), K0.trans p1⟩
  · have V := Lib.hid (stepsL_no hl)
    have V2 := Lib.hid (lft_no (s := nSs ss) (left := 600) (by omega))
    clear hl
    go_enter Try.func22, Try.ntmps22
    go_wp2_with fail
    refine (specStepsLeft _ _ _ _ _ _ _ _ (h.k K0) (by omega) (by omega)).mono ?_
    rw [V2.out]
    rintro e w1 ⟨rfl, p1⟩
    go_wp2_with fail
    exact fin_ hQ ⟨ret_i V.out.symm, K0.trans p1⟩

set_option maxRecDepth 100000 in
set_option maxHeartbeats 2000000 in
theorem implCountSteps_n (N : Nat) : ∀ (ss : List StepL) (res : Int), nSs ss < N → ∀ (a : Option Addr) (n c p : Nat) (D : Nat → Prop) (m : Int) (w : World), Rd w D (encSteps ss) (.slice a n c) → ¬ D p → w.rowIs p 3 1 (fun _ => .int .i64 m) → 0 ≤ m → m ≤ 600 →
    Calls Try.prog 51 #[.agg #[.slice a n c, .int .i64 res], .pointer (some ⟨p, 0, none⟩)] w fun e w' => e = .returned (.bool (decide (m + (nSs ss : Int) ≤ 600))) ∧
      (m + (nSs ss : Int) ≤ 600 → w'.rowIs p 3 1 (fun _ => .int .i64 (m + (nSs ss : Int)))) ∧ Ext (· = p) w w' := by
  induction N with
  | zero => intro ss _ h; omega
  | succ N ihN =>
  intro ss res hN a n c p D m w h hDp hp h0 h1
  refine calls_k fun Q hQ => ?_
  obtain ⟨e1, hnc, hm, hat⟩ := steps_at h
  have HL := Lib.hid e1
  have HA := Lib.hid hat
  have IH := Lib.hid (fun (j k : Nat) (hj : j < ss.length) (hk : k < (sAt ss j).kids.length) => ihN (bAt (sAt ss j).kids k).steps (bAt (sAt ss j).kids k).result (by have := nkid_lt ss hj hk; omega))
  have hbox : ∀ k, D k → k ≠ p := fun k hk e => hDp (e ▸ hk)
  have HB := Lib.hid hbox
  clear e1 hat ihN hN hbox
  have hpl := hp.lt
  have HP := Lib.hid hp
  have Hh := Lib.hid h
  clear hp h
  have X0 : Ext (· = p) w (w.alloc (.cells #[.slice a n c, .int .i64 res] 41)) := Keep.to (Keep.al _ _)
  have HX0 := Lib.hid X0
  clear X0
  have x0 := boxk (Ext.refl (fun _ => False) (w.alloc (.cells #[.slice a n c, .int .i64 res] 41))) 0
  simp at x0
  go_enter Try.func51, Try.ntmps51
  go_wp2
  go_loopw [12] (fun iv wr => ∃ j : Nat, j ≤ n ∧ iv = .int .i64 j ∧ Hid (wr.rowIs p 3 1 (fun _ => .int .i64 (m + (nSs (ss.take j) : Int)))) ∧ m + (nSs (ss.take j) : Int) ≤ 600 ∧ Ext (· = p) w wr) (fun i _ => n - (intOf i).toNat)
  case atStart => exact ⟨0, Nat.zero_le _, rfl, by show World.rowIs _ _ _ _ _; simpa [nSs] using HP.out.alloc _, by simp only [List.take_zero, nSs]; omega, HX0.out⟩
  case round =>
    obtain ⟨wo, rfl⟩ : ∃ wo : World, wo = wr := ⟨_, rfl⟩
    obtain ⟨j, hj, rfl, hR, hsz, hX⟩ := hrel
    clear x0
    by_cases hlt : j < n
    · have hst := nSs_take ss (j := j) (by have := HL.out; omega)
      have hee := nS_eq (sAt ss j)
      have hle := nSs_take_le ss (j + 1)
      obtain ⟨b, o, rfl, hd, a3, n3, c3, a4, n4, c4, d0, d1, d2, d3, d4, r3, r4⟩ := HA.out j hlt
      have g0 := (hX.cell (World.block_lt_of_cell? w _ d0) (HB.out _ hd)).trans d0
      have g1 := (hX.cell (World.block_lt_of_cell? w _ d1) (HB.out _ hd)).trans d1
      have g2 := (hX.cell (World.block_lt_of_cell? w _ d2) (HB.out _ hd)).trans d2
      have g3 := (hX.cell (World.block_lt_of_cell? w _ d3) (HB.out _ hd)).trans d3
      have g4 := (hX.cell (World.block_lt_of_cell? w _ d4) (HB.out _ hd)).trans d4
      have q4 := r4.ext hX HB.out
      have hRl := hR.out.lt
      have v0 := hR.out.cell (i := 0) (by omega)
      have f0 := hR.out.frozen 0
      have X1 : Ext (· = p) wo ((wo.setCell ⟨p, 0, none⟩ (.int .i64 (m + (nSs (ss.take j) : Int) + 1))).alloc (.cells #[.int .i64 (sAt ss j).op, .int .i64 (sAt ss j).num, .int .i64 (sAt ss j).into, .slice a3 n3 c3, .slice a4 n4 c4] 89)) := ((Ext.refl (· = p) wo).setCell (p := ⟨p, 0, none⟩) (.inr rfl) _).alloc _
      have R1 : ((wo.setCell ⟨p, 0, none⟩ (.int .i64 (m + (nSs (ss.take j) : Int) + 1))).alloc (.cells #[.int .i64 (sAt ss j).op, .int .i64 (sAt ss j).num, .int .i64 (sAt ss j).into, .slice a3 n3 c3, .slice a4 n4 c4] 89)).rowIs p 3 1 (fun _ => .int .i64 (m + (nSs (ss.take j) : Int) + 1)) :=
        ((hR.out.set 0 (.int .i64 (m + (nSs (ss.take j) : Int) + 1))).alloc _).congr (fun i hi => by rw [if_pos (by omega)])
      have HX1 := Lib.hid X1
      have HR1 := Lib.hid R1
      have HS := Lib.hid hst
      have HE := Lib.hid hee
      have HLE := Lib.hid hle
      clear X1 R1 d0 d1 d2 d3 d4 r3 r4 hst hee hle
      by_cases hm6 : 600 < m + (nSs (ss.take j) : Int) + 1
      · have V : ¬ m + (nSs ss : Int) ≤ 600 := by have := HS.out; have := HE.out; have := HLE.out; omega
        have V3 := Lib.hid (decide_eq_false V)
        clear q4
        go_wp2_with fail
        exact fin_ hQ ⟨ret_b V3.out.symm, fun h => by omega, hX.trans HX1.out⟩
      obtain ⟨e4, hnc4, hm4, hat4⟩ := blocks_at (q4.ext HX1.out HB.out)
      have HL4 := Lib.hid e4
      have HA4 := Lib.hid hat4
      clear e4 hat4 q4
      go_wp2_with fail
      go_loopw [28] (fun iv wr => ∃ k : Nat, k ≤ n4 ∧ iv = .int .i64 k ∧ Hid (wr.rowIs p 3 1 (fun _ => .int .i64 (m + (nSs (ss.take j) : Int) + 1 + (nBs ((sAt ss j).kids.take k) : Int)))) ∧ m + (nSs (ss.take j) : Int) + 1 + (nBs ((sAt ss j).kids.take k) : Int) ≤ 600 ∧ Ext (· = p) ((wo.setCell ⟨p, 0, none⟩ (.int .i64 (m + (nSs (ss.take j) : Int) + 1))).alloc (.cells #[.int .i64 (sAt ss j).op, .int .i64 (sAt ss j).num, .int .i64 (sAt ss j).into, .slice a3 n3 c3, .slice a4 n4 c4] 89)) wr) (fun i _ => n4 - (intOf i).toNat)
      case atStart => exact ⟨0, Nat.zero_le _, rfl, by show World.rowIs _ _ _ _ _; simpa [nBs] using HR1.out, by simp only [List.take_zero, nBs]; omega, Ext.refl _ _⟩
      case round =>
        obtain ⟨k, hk, rfl, hR2, hsz2, hX2⟩ := hrel
        clear v0 f0 g0 g1 g2 g3 g4
        by_cases hltk : k < n4
        · have hstk := nBs_take (sAt ss j).kids (j := k) (by have := HL4.out; omega)
          have heek := nB_eq (bAt (sAt ss j).kids k)
          have hlek := nBs_take_le (sAt ss j).kids (k + 1)
          obtain ⟨b4, o4, rfl, hd4, a5, n5, c5, t0, t1, r5⟩ := HA4.out k hltk
          have y0 := (hX2.cell (World.block_lt_of_cell? _ _ t0) (HB.out _ hd4)).trans t0
          have y1 := (hX2.cell (World.block_lt_of_cell? _ _ t1) (HB.out _ hd4)).trans t1
          have q5 := (r5.ext hX2 HB.out).k (Keep.al wr (.cells #[.slice a5 n5 c5, .int .i64 (bAt (sAt ss j).kids k).result] 41))
          have hR3 := Lib.hid (hR2.out.alloc (.cells #[.slice a5 n5 c5, .int .i64 (bAt (sAt ss j).kids k).result] 41))
          have hX3 := Lib.hid (hX2.trans (Keep.to (Keep.al wr (.cells #[.slice a5 n5 c5, .int .i64 (bAt (sAt ss j).kids k).result] 41))))
          have HSk := Lib.hid hstk
          have HEk := Lib.hid heek
          have HLk := Lib.hid hlek
          clear t0 t1 r5 hstk heek hlek hR2 hX2
          by_cases hf : m + (nSs (ss.take j) : Int) + 1 + (nBs ((sAt ss j).kids.take (k + 1)) : Int) ≤ 600
          · have V : Hid (decide (m + (nSs (ss.take j) : Int) + 1 + (nBs ((sAt ss j).kids.take k) : Int) + (nSs (bAt (sAt ss j).kids k).steps : Int) ≤ 600) = true) := by
              have := HSk.out; have := HEk.out
              exact decide_eq_true (by omega)
            go_wp2_with fail
            refine (IH.out j k (by have := HL.out; omega) (by have := HL4.out; omega) _ _ _ p D _ _ q5 hDp hR3.out (by omega) hsz2).mono ?_
            rw [V.out]
            rintro e w1 ⟨rfl, hr1, p1⟩
            have HR4 : Hid (w1.rowIs p 3 1 (fun _ => .int .i64 (m + (nSs (ss.take j) : Int) + 1 + (nBs ((sAt ss j).kids.take (k + 1)) : Int)))) := by
              have := HSk.out; have := HEk.out
              show World.rowIs _ _ _ _ _
              rw [show m + (nSs (ss.take j) : Int) + 1 + (nBs ((sAt ss j).kids.take (k + 1)) : Int) = m + (nSs (ss.take j) : Int) + 1 + (nBs ((sAt ss j).kids.take k) : Int) + (nSs (bAt (sAt ss j).kids k).steps : Int) by omega]
              exact hr1 (by omega)
            clear hr1
            go_wp2_with fail
            go_roundw
            case rel => exact ⟨k + 1, by omega, by go_num, HR4, hf, hX3.out.trans p1⟩
            case measure => simp [intOf]; omega
          · have V : Hid (decide (m + (nSs (ss.take j) : Int) + 1 + (nBs ((sAt ss j).kids.take k) : Int) + (nSs (bAt (sAt ss j).kids k).steps : Int) ≤ 600) = false) := by
              have := HSk.out; have := HEk.out
              exact decide_eq_false (by omega)
            have V2 : ¬ m + (nSs ss : Int) ≤ 600 := by have := HS.out; have := HE.out; have := HLE.out; have := HLk.out; omega
            have V3 := Lib.hid (decide_eq_false V2)
            go_wp2_with fail
            refine (IH.out j k (by have := HL.out; omega) (by have := HL4.out; omega) _ _ _ p D _ _ q5 hDp hR3.out (by omega) hsz2).mono ?_
            rw [V.out]
            rintro e w1 ⟨rfl, _, p1⟩
            go_wp2_with fail
            exact fin_ hQ ⟨ret_b V3.out.symm, fun h => by omega, (hX.trans HX1.out).trans (hX3.out.trans p1)⟩
        · have HK : Hid (k = n4) := by show _ = _; omega
          have hz : (nSs (ss.take (j + 1)) : Int) = (nSs (ss.take j) : Int) + 1 + (nBs ((sAt ss j).kids.take k) : Int) := by
            have := HS.out; have := HE.out
            rw [List.take_of_length_le (l := (sAt ss j).kids) (i := k) (by have := HK.out; have := HL4.out; omega)]
            omega
          have HZ := Lib.hid hz
          clear hz
          go_wp2_with fail
          go_roundw
          case rel => exact ⟨j + 1, by omega, by go_num, by
            show World.rowIs _ _ _ _ _
            rw [show m + (nSs (ss.take (j + 1)) : Int) = m + (nSs (ss.take j) : Int) + 1 + (nBs ((sAt ss j).kids.take k) : Int) by have := HZ.out; omega]
            exact hR2.out, by have := HZ.out; omega, (hX.trans HX1.out).trans hX2⟩
          case measure => simp [intOf]; omega
    · have HJ : Hid (j = n) := by show _ = _; omega
      have hfin : m + (nSs ss : Int) = m + (nSs (ss.take j) : Int) := by
        have e := HJ.out
        subst e
        rw [List.take_of_length_le (Nat.le_of_eq HL.out)]
      have HF := Lib.hid hfin
      clear hfin
      go_wp2
      exact fin_ hQ ⟨ret_b (decide_eq_true (by rw [HF.out]; exact hsz)).symm, fun _ => by rw [HF.out]; exact hR.out, hX⟩

theorem implStepsOf (ss : List StepL) (res : Int) (a : Option Addr) (n c : Nat) (D : Nat → Prop) (w : World) (h : Rd w D (encSteps ss) (.slice a n c)) :
    Calls Try.prog 29 #[.agg #[.slice a n c, .int .i64 res]] w fun e w' => e = .returned (.int .i64 (stepsL ss)) ∧ Keep w w' := by
  refine calls_k fun Q hQ => ?_
  have K0 := Keep.al w (.cells #[.slice a n c, .int .i64 res] 41)
  have K1 := Keep.al (w.alloc (.cells #[.slice a n c, .int .i64 res] 41)) (.cells #[.int .i64 0] 3)
  have R := rowOf (w.alloc (.cells #[.slice a n c, .int .i64 res] 41)) #[.int .i64 0] 3
  simp only [World.size_alloc] at R
  replace R := R.congr (g := fun _ => .int .i64 0) (fun i hi => by
    obtain rfl : i = 0 := by simpa using hi
    rfl)
  have h' := ((h.lt.k K0).k K1)
  have HR := Lib.hid R
  clear R
  by_cases hl : nSs ss ≤ 600
  · have V := Lib.hid (stepsL_yes hl)
    have V2 : Hid (decide (0 + (nSs ss : Int) ≤ 600) = true) := decide_eq_true (by omega)
    have hl2 : 0 + (nSs ss : Int) ≤ 600 := by omega
    go_enter Try.func29, Try.ntmps29
    go_wp2_with fail
    refine (implCountSteps_n _ ss res (Nat.lt_succ_self _) _ _ _ (w.heap.size + 1) _ 0 _ h' (by omega) HR.out (by omega) (by omega)).mono ?_
    rw [V2.out]
    rintro e w1 ⟨rfl, hr, p1⟩
    have v0 := (hr hl2).cell (i := 0) (by omega)
    clear hr
    go_wp2_with fail
    exact fin_ hQ ⟨ret_i (by simp [V.out]), (K0.trans K1).then_ p1 (fun q hq e => by omega)⟩
  · have V := Lib.hid (stepsL_no hl)
    have V2 : Hid (decide (0 + (nSs ss : Int) ≤ 600) = false) := decide_eq_false (by omega)
    clear hl
    go_enter Try.func29, Try.ntmps29
    go_wp2_with fail
    refine (implCountSteps_n _ ss res (Nat.lt_succ_self _) _ _ _ (w.heap.size + 1) _ 0 _ h' (by omega) HR.out (by omega) (by omega)).mono ?_
    rw [V2.out]
    rintro e w1 ⟨rfl, _, p1⟩
    go_wp2_with fail
    exact fin_ hQ ⟨ret_i V.out.symm, (K0.trans K1).then_ p1 (fun q hq e => by omega)⟩
end Go.Proofs.Ytmekdccgjgfiaaa
/- The types of blocks, plain. -/
namespace Go.Proofs.Ytmekdccgjgfiaaa
open Go.RowKit

/-- All arguments are variables in scope. -/
def argsIn (sc args : List Int) : Bool := args.all (fun v => decide (0 ≤ v ∧ v < (sc.length : Int)))
/-- The types of arguments. -/
def tysOf (sc args : List Int) : List Int := args.map (fun v => iAt sc v.toNat)
def intoOk (sc : List Int) (op into : Int) : Bool := decide (into = 0 ∨ (op = 6 ∧ 1 ≤ into ∧ into ≤ (sc.length : Int) ∧ 0 < iAt sc (into.toNat - 1)))
def cntL (ds : List DeclL) (op num : Int) (tys : List Int) : Int := if num = 0 ∧ tys.length = 1 ∧ iAt tys 0 ≠ 0 ∧ (op = 14 ∨ op = 15 ∨ isArr ds (iAt tys 0) = false) then 0 else -1
/-- The type of a step without kids, for arguments of some types. -/
def leafL (ds : List DeclL) (sg : List SigL) (op num : Int) (tys : List Int) : Int :=
  if 14 ≤ op ∧ op ≤ 17 then cntL ds op num tys else if op = 10 ∧ 0 < (sgAt sg num.toNat).lent.length then -1 else simpleL ds sg op num tys

mutual
/-- The type of a step; 0 for a counting step; -1 if it is not valid. -/
def stpT (ds : List DeclL) (sg : List SigL) (sc : List Int) : StepL → Int
  | .mk op num into args ks =>
    if argsIn sc args = false ∨ intoOk sc op into = false then -1
    else if op = 7 then (if num = 0 ∧ tysOf sc args = [0] ∧ ks.length = 2 then oneT (armT ds sg sc ks [[], []]) else -1)
    else if op = 8 then (if 0 < (armsL ds num).length ∧ ks.length = (armsL ds num).length ∧ tysOf sc args = [num] then oneT (armT ds sg sc ks (armsL ds num)) else -1)
    else if 0 < ks.length then -1
    else leafL ds sg op num (tysOf sc args)
/-- The type of a block; -1 if it is not valid. -/
def blkT (ds : List DeclL) (sg : List SigL) (sc : List Int) : BlockL → Int
  | .mk ss r => runT ds sg r sc ss
def runT (ds : List DeclL) (sg : List SigL) (r : Int) (sc : List Int) : List StepL → Int
  | [] => if 0 ≤ r ∧ r < (sc.length : Int) then iAt sc r.toNat else -1
  | s :: ss => if stpT ds sg sc s < 0 then -1 else runT ds sg r (if 0 ≤ s.op ∧ s.op ≤ 11 then sc ++ [stpT ds sg sc s] else sc) ss
def armT (ds : List DeclL) (sg : List SigL) (sc : List Int) : List BlockL → List (List Int) → List Int
  | [], _ => []
  | k :: ks, fs => blkT ds sg (sc ++ fs.headD []) k :: armT ds sg sc ks fs.tail
end

/-- The scope behind a step. -/
def nextS (ds : List DeclL) (sg : List SigL) (sc : List Int) (s : StepL) : List Int := if 0 ≤ s.op ∧ s.op ≤ 11 then sc ++ [stpT ds sg sc s] else sc

theorem argsIn_iff {sc args : List Int} : argsIn sc args = true ↔ ∀ i, i < args.length → 0 ≤ iAt args i ∧ iAt args i < (sc.length : Int) := by
  rw [argsIn, List.all_eq_true]
  constructor
  · intro h i hi
    have := h args[i] (List.getElem_mem hi)
    rw [iAt_eq hi]
    exact of_decide_eq_true this
  · intro h x hx
    obtain ⟨i, hi, rfl⟩ := List.getElem_of_mem hx
    have := h i hi
    rw [iAt_eq hi] at this
    exact decide_eq_true this
theorem argsIn_neg {sc args : List Int} {i : Nat} (hi : i < args.length) (h : ¬ (0 ≤ iAt args i ∧ iAt args i < (sc.length : Int))) : argsIn sc args = false := by
  cases e : argsIn sc args
  · rfl
  · exact absurd (argsIn_iff.1 e i hi) h
theorem tysOf_len (sc args : List Int) : (tysOf sc args).length = args.length := by simp [tysOf]
theorem tysOf_at {sc args : List Int} {i : Nat} (h : i < args.length) : iAt (tysOf sc args) i = iAt sc (iAt args i).toNat := by
  rw [iAt_eq (by rw [tysOf_len]; exact h), iAt_eq h]; simp [tysOf]
theorem tysOf_all {n : Nat} {sc args : List Int} (h : allT n sc = true) (ha : argsIn sc args = true) : allT n (tysOf sc args) = true := by
  rw [allT_iff]
  intro i hi
  rw [tysOf_len] at hi
  rw [tysOf_at hi]
  have := argsIn_iff.1 ha i hi
  exact allT_iff.1 h _ (by omega)
theorem runT_nil (ds : List DeclL) (sg : List SigL) (r : Int) (sc : List Int) : runT ds sg r sc [] = if 0 ≤ r ∧ r < (sc.length : Int) then iAt sc r.toNat else -1 := by rw [runT]
theorem runT_cons (ds : List DeclL) (sg : List SigL) (r : Int) (sc : List Int) (s : StepL) (ss : List StepL) : runT ds sg r sc (s :: ss) = if stpT ds sg sc s < 0 then -1 else runT ds sg r (nextS ds sg sc s) ss := by rw [runT]; rfl
theorem sdrop {ss : List StepL} {j : Nat} (h : j < ss.length) : ss.drop j = sAt ss j :: ss.drop (j + 1) := by rw [List.drop_eq_getElem_cons h, sAt_get h]
theorem runT_at (ds : List DeclL) (sg : List SigL) (r : Int) (sc : List Int) {ss : List StepL} {j : Nat} (h : j < ss.length) : runT ds sg r sc (ss.drop j) = if stpT ds sg sc (sAt ss j) < 0 then -1 else runT ds sg r (nextS ds sg sc (sAt ss j)) (ss.drop (j + 1)) := by rw [sdrop h, runT_cons]
theorem nSs_drop (ss : List StepL) {j : Nat} (h : j < ss.length) : nSs (ss.drop j) = nS (sAt ss j) + nSs (ss.drop (j + 1)) := by rw [sdrop h]; rfl
theorem blkT_eq (ds : List DeclL) (sg : List SigL) (sc : List Int) (b : BlockL) : blkT ds sg sc b = runT ds sg b.result sc b.steps := by cases b; rw [blkT]; rfl
theorem armT_len (ds : List DeclL) (sg : List SigL) (sc : List Int) (ks : List BlockL) (fs : List (List Int)) : (armT ds sg sc ks fs).length = ks.length := by
  induction ks generalizing fs with
  | nil => rw [armT]; rfl
  | cons k ks ih => rw [armT]; simp [ih]
theorem armT_at (ds : List DeclL) (sg : List SigL) (sc : List Int) {ks : List BlockL} {fs : List (List Int)} {i : Nat} (h : i < ks.length) : iAt (armT ds sg sc ks fs) i = blkT ds sg (sc ++ cAt fs i) (bAt ks i) := by
  induction ks generalizing fs i with
  | nil => simp at h
  | cons k ks ih =>
    rw [armT]
    cases i with
    | zero => cases fs <;> simp [iAt, cAt, bAt, List.headD]
    | succ i =>
      have := ih (fs := fs.tail) (i := i) (by simpa using h)
      simp only [iAt, List.getD_cons_succ] at this ⊢
      rw [this]
      have e1 : cAt fs.tail i = cAt fs (i + 1) := by cases fs <;> simp [cAt]
      have e2 : bAt (k :: ks) (i + 1) = bAt ks i := by simp [bAt]
      rw [e1, e2]

section
variable (ds : List DeclL) (sg : List SigL) (sc : List Int) (op num into : Int) (args : List Int) (ks : List BlockL)
theorem stp_args (h : argsIn sc args = false) : stpT ds sg sc (.mk op num into args ks) = -1 := by rw [stpT, if_pos (.inl h)]
theorem stp_into (h : intoOk sc op into = false) : stpT ds sg sc (.mk op num into args ks) = -1 := by rw [stpT, if_pos (.inr h)]
theorem stp_go (h1 : argsIn sc args = true) (h2 : intoOk sc op into = true) : stpT ds sg sc (.mk op num into args ks) = if op = 7 then (if num = 0 ∧ tysOf sc args = [0] ∧ ks.length = 2 then oneT (armT ds sg sc ks [[], []]) else -1)
    else if op = 8 then (if 0 < (armsL ds num).length ∧ ks.length = (armsL ds num).length ∧ tysOf sc args = [num] then oneT (armT ds sg sc ks (armsL ds num)) else -1)
    else if 0 < ks.length then -1
    else leafL ds sg op num (tysOf sc args) := by rw [stpT, if_neg (by rw [h1, h2]; simp)]
theorem stp_if (h1 : argsIn sc args = true) (h2 : intoOk sc 7 into = true) : stpT ds sg sc (.mk 7 num into args ks) = if num = 0 ∧ tysOf sc args = [0] ∧ ks.length = 2 then oneT (armT ds sg sc ks [[], []]) else -1 := by rw [stp_go _ _ _ _ _ _ _ _ h1 h2, if_pos rfl]
theorem stp_match (h1 : argsIn sc args = true) (h2 : intoOk sc 8 into = true) : stpT ds sg sc (.mk 8 num into args ks) = if 0 < (armsL ds num).length ∧ ks.length = (armsL ds num).length ∧ tysOf sc args = [num] then oneT (armT ds sg sc ks (armsL ds num)) else -1 := by rw [stp_go _ _ _ _ _ _ _ _ h1 h2, if_neg (by omega), if_pos rfl]
theorem stp_kids (h7 : op ≠ 7) (h8 : op ≠ 8) (h : 0 < ks.length) : stpT ds sg sc (.mk op num into args ks) = -1 := by
  rw [stpT]
  split
  · rfl
  · first | rfl | rw [if_neg h7, if_neg h8, if_pos h]
theorem stp_leaf (h1 : argsIn sc args = true) (h2 : intoOk sc op into = true) (h7 : op ≠ 7) (h8 : op ≠ 8) (h : ks.length = 0) : stpT ds sg sc (.mk op num into args ks) = leafL ds sg op num (tysOf sc args) := by
  rw [stp_go _ _ _ _ _ _ _ _ h1 h2, if_neg h7, if_neg h8, if_neg (by omega)]
end

section
variable {ds : List DeclL} {sg : List SigL} (hok : sigsOk ds sg = true)
include hok
theorem leaf_range (op num : Int) (tys : List Int) : leafL ds sg op num tys = -1 ∨ isT ds.length (leafL ds sg op num tys) = true := by
  unfold leafL
  split
  · unfold cntL
    split
    · exact .inr (isT_iff.2 ⟨by omega, by omega⟩)
    · exact .inl rfl
  split
  · exact .inl rfl
  · exact simple_range hok _ _ _
theorem blk_range_n (N : Nat) : ∀ (r : Int) (ss : List StepL), nSs ss < N → ∀ sc, allT ds.length sc = true → (runT ds sg r sc ss = -1 ∨ isT ds.length (runT ds sg r sc ss) = true) ∧ ∀ j, j < ss.length → stpT ds sg sc (sAt ss j) = -1 ∨ isT ds.length (stpT ds sg sc (sAt ss j)) = true := by
  induction N with
  | zero => intro r ss h; omega
  | succ N ih =>
  have ht := (sigsOk_parts hok).1
  have arms : ∀ num i, i < (armsL ds num).length → (cAt (armsL ds num) i).length ≤ 3 ∧ allT ds.length (cAt (armsL ds num) i) = true := fun num i hi => by
    have hi' : i < (consL ds num).length := by simpa [armsL] using hi
    rw [cAt_get hi]
    simp only [armsL, List.getElem_map]
    exact conFieldsL_ok ht _
  have step : ∀ s : StepL, nS s ≤ N → ∀ sc, allT ds.length sc = true → stpT ds sg sc s = -1 ∨ isT ds.length (stpT ds sg sc s) = true := fun s hs sc hv => by
    obtain ⟨op, num, into, args, ks⟩ := s
    have hk : ∀ j, j < ks.length → nSs (bAt ks j).steps < N := fun j hj => by have := nB_le ks hj; rw [nS] at hs; have := nB_eq (bAt ks j); omega
    have bl : ∀ j, j < ks.length → ∀ sc, allT ds.length sc = true → blkT ds sg sc (bAt ks j) = -1 ∨ isT ds.length (blkT ds sg sc (bAt ks j)) = true := fun j hj sc hv => by rw [blkT_eq]; exact (ih _ _ (hk j hj) sc hv).1
    rw [stpT]
    split
    · exact .inl rfl
    split
    · split
      · next h =>
        refine oneT_range (fun i hi => ?_)
        rw [armT_len] at hi
        rw [armT_at ds sg sc hi]
        refine bl i hi _ (allT_append hv ?_)
        rcases (show i = 0 ∨ i = 1 by omega) with rfl | rfl <;> rfl
      · exact .inl rfl
    split
    · split
      · next h =>
        refine oneT_range (fun i hi => ?_)
        rw [armT_len] at hi
        rw [armT_at ds sg sc hi]
        exact bl i hi _ (allT_append hv (arms num i (by omega)).2)
      · exact .inl rfl
    split
    · exact .inl rfl
    · exact leaf_range hok _ _ _
  intro r ss hN sc hv
  have hs : ∀ j, j < ss.length → nS (sAt ss j) ≤ N := fun j hj => by have := nS_le ss hj; omega
  refine ⟨?_, fun j hj => step _ (hs j hj) sc hv⟩
  cases ss with
  | nil =>
    rw [runT_nil]
    split
    · next h => exact .inr (allT_iff.1 hv _ (by omega))
    · exact .inl rfl
  | cons s ss =>
    have h0 : nS s ≤ N := by have := hs 0 (by simp); simpa [sAt] using this
    have h1 := step s h0 sc hv
    rw [runT_cons]
    split
    · exact .inl rfl
    · next hn =>
      have h2 : isT ds.length (stpT ds sg sc s) = true := by
        rcases h1 with h1 | h1
        · omega
        · exact h1
      refine (ih r ss (by rw [nSs] at hN; have := nS_eq s; omega) _ ?_).1
      unfold nextS
      split
      · exact allT_append hv (allT_one h2)
      · exact hv
theorem blk_range (b : BlockL) {sc : List Int} (hv : allT ds.length sc = true) : blkT ds sg sc b = -1 ∨ isT ds.length (blkT ds sg sc b) = true := by rw [blkT_eq]; exact (blk_range_n hok _ _ _ (Nat.lt_succ_self _) sc hv).1
theorem stp_range (s : StepL) {sc : List Int} (hv : allT ds.length sc = true) : stpT ds sg sc s = -1 ∨ isT ds.length (stpT ds sg sc s) = true := by
  have := (blk_range_n hok _ 0 [s] (Nat.lt_succ_self _) sc hv).2 0 (by simp)
  simpa [sAt] using this
end
end Go.Proofs.Ytmekdccgjgfiaaa
/- conCount, firstCon, conType, conAt and arrowOf of the program and of the reference. -/
namespace Go.Proofs.Ytmekdccgjgfiaaa
open Go.RowKit

theorem box_at {w w2 : World} {cs : Array Value} {T : TypeId} (h : Keep (w.alloc (.cells cs T)) w2) (i : Nat) : w2.cell? ⟨w.heap.size, i, none⟩ = cs[i]? := by
  rw [h.cell (p := ⟨w.heap.size, i, none⟩) (by simp) (fun h => h), cell_of_row _ w.heap.size i cs T (0, 0) (heap_alloc_new w _)]

theorem implConCount0 (a : Option Addr) (n c : Nat) (ds : List DeclL) (D : Nat → Prop) (w : World) (h : DeclsR w D a n ds) (hf : Few ds) :
    Calls Try.prog 95 #[.slice a n c] w fun e w' => e = .returned (.int .i64 (conN ds)) ∧ Keep w w' := by
  refine calls_k fun Q hQ => ?_
  have hlen := h.1
  have HL := Lib.hid hlen
  have hn4 : n ≤ 4 := by have := hf.1; omega
  clear hlen
  go_enter Try.func95, Try.ntmps95
  go_wp2
  go_loopw [3, 8] (fun t i wr => ∃ k : Nat, k ≤ n ∧ i = .int .i64 k ∧ t = .int .i64 (firstN ds k) ∧ Keep w wr) (fun _ i _ => n - (intOf i).toNat)
  case atStart => exact ⟨0, Nat.zero_le _, rfl, rfl, Ext.refl _ _⟩
  case round =>
    obtain ⟨k, hk, rfl, rfl, hK⟩ := hrel
    by_cases hlt : k < n
    · have h1 := h.ext hK (fun _ _ h => h)
      obtain ⟨b, o, rfl, hd, hc⟩ := h1.2 (by omega)
      obtain ⟨c0, c1, a', m, c', c2, hmc, hcons⟩ := hc k hlt
      have HM := Lib.hid hcons.1
      have b1 := firstN_le hf (k := k) (by have := HL.out; omega)
      have b2 : m ≤ 3 := by have := hf.2 k (by have := HL.out; omega); have := HM.out; omega
      clear hc hcons h1 h
      go_wp2
      go_roundw
      case rel => exact ⟨k + 1, by omega, by go_num, by simp only [firstN, HM.out]; go_num, hK.trans ((Ext.refl _ _).alloc _)⟩
      case measure => simp [intOf]; omega
    · go_wp2
      exact fin_ hQ ⟨ret_i (by rw [conN, HL.out, show k = n by omega]), hK⟩


theorem specFirstCon (a : Option Addr) (n c : Nat) (ds : List DeclL) (D : Nat → Prop) (at_ : Nat) (w : World) (h : DeclsR w D a n ds) (hf : Few ds) (hat : at_ ≤ n) :
    Calls Try.prog 82 #[.slice a n c, .int .i64 at_] w fun e w' => e = .returned (.int .i64 (firstN ds at_)) ∧ w = w' := by
  refine calls_k fun Q hQ => ?_
  have hlen := h.1
  have HL := Lib.hid hlen
  have hn4 : n ≤ 4 := by have := hf.1; omega
  clear hlen
  go_enter Try.func82, Try.ntmps82
  go_wp2
  go_loop [5, 6] (fun t i => ∃ k : Nat, k ≤ at_ ∧ i = .int .i64 k ∧ t = .int .i64 (firstN ds k)) (fun _ i => at_ - (intOf i).toNat)
  case atStart => exact ⟨0, Nat.zero_le _, rfl, rfl⟩
  case round =>
    obtain ⟨k, hk, rfl, rfl⟩ := hrel
    by_cases hlt : k < at_
    · obtain ⟨b, o, rfl, hd, hc⟩ := h.2 (by omega)
      obtain ⟨c0, c1, a', m, c', c2, hmc, hcons⟩ := hc k (by omega)
      have HM := Lib.hid hcons.1
      have b1 := firstN_le hf (k := k) (by have := HL.out; omega)
      have b2 : m ≤ 3 := by have := hf.2 k (by have := HL.out; omega); have := HM.out; omega
      clear hc hcons h
      go_wp2
      go_round
      case rel => exact ⟨k + 1, by omega, by go_num, by simp only [firstN, HM.out]; go_num⟩
      case measure => simp [intOf]; omega
    · go_wp2
      exact fin_ hQ ⟨ret_i (by rw [show k = at_ by omega]), rfl⟩

set_option maxHeartbeats 1000000 in
theorem specConType0 (a : Option Addr) (n c : Nat) (ds : List DeclL) (D : Nat → Prop) (x : Int) (w : World) (h : DeclsR w D a n ds) (hf : Few ds) :
    Calls Try.prog 65 #[.slice a n c, .int .i64 x] w fun e w' => e = .returned (.int .i64 (conTypeL ds x)) ∧ w = w' := by
  refine calls_k fun Q hQ => ?_
  have hlen := h.1
  have HL := Lib.hid hlen
  have hn4 : n ≤ 4 := by have := hf.1; omega
  clear hlen
  go_enter Try.func65, Try.ntmps65
  go_wp2
  go_loop [5] (fun i => ∃ k : Nat, k ≤ n ∧ i = .int .i64 k ∧ Hid (∀ j, j < k → inDecl ds x j = false)) (fun i => n - (intOf i).toNat)
  case atStart => exact ⟨0, Nat.zero_le _, rfl, fun j hj => absurd hj (by omega)⟩
  case round =>
    obtain ⟨k, hk, rfl, H⟩ := hrel
    by_cases hlt : k < n
    · obtain ⟨b, o, rfl, hd, hc⟩ := h.2 (by omega)
      obtain ⟨c0, c1, a', m, c', c2, hmc, hcons⟩ := hc k (by omega)
      have HM := Lib.hid hcons.1
      have b1 := firstN_le hf (k := k) (by have := HL.out; omega)
      have b2 : m ≤ 3 := by have := hf.2 k (by have := HL.out; omega); have := HM.out; omega
      have HI : Hid (inDecl ds x k = decide ((firstN ds k : Int) ≤ x ∧ x ≤ (firstN ds k : Int) + (m : Int) - 1)) := by
        show _ = _
        simp only [inDecl, firstN, HM.out]
        congr 1
        simp only [eq_iff_iff]
        omega
      clear hc hcons
      cases hv : decide ((firstN ds k : Int) ≤ x ∧ x ≤ (firstN ds k : Int) + (m : Int) - 1)
      · go_wp2_with fail
        refine (specFirstCon _ _ _ _ _ _ _ h hf (by omega)).mono ?_
        rintro e w1 ⟨rfl, rfl⟩
        go_wp2_with (go_at_call 41; refine (specInRange _ _ _ _).mono ?_; rintro e w1 ⟨rfl, rfl⟩)
        go_round
        case rel => exact ⟨k + 1, by omega, by go_num, fun j hj => by
          rcases Nat.lt_succ_iff_lt_or_eq.1 hj with h | rfl
          · exact H.out j h
          · rw [HI.out]; exact hv⟩
        case measure => simp [intOf]; omega
      · go_wp2_with fail
        refine (specFirstCon _ _ _ _ _ _ _ h hf (by omega)).mono ?_
        rintro e w1 ⟨rfl, rfl⟩
        go_wp2_with (go_at_call 41; refine (specInRange _ _ _ _).mono ?_; rintro e w1 ⟨rfl, rfl⟩)
        exact fin_ hQ ⟨ret_i (by rw [conTypeL, conIx, firstIx_some (by have := HL.out; omega) (by rw [HI.out]; exact hv) H.out]; rfl), rfl⟩
    · go_wp2
      exact fin_ hQ ⟨ret_i (by rw [conTypeL, conIx, firstIx_none (fun j hj => H.out j (by have := HL.out; omega))]; rfl), rfl⟩
end Go.Proofs.Ytmekdccgjgfiaaa
/- conAt of the program: a constructor and its type. -/
namespace Go.Proofs.Ytmekdccgjgfiaaa
open Go.RowKit

theorem inDecl_iff {ds : List DeclL} {x : Int} {k : Nat} : inDecl ds x k = true ↔ 0 ≤ x - (firstN ds k : Int) ∧ x - (firstN ds k : Int) < ((dAt ds k).cons.length : Int) := by
  constructor
  · intro h
    have := of_decide_eq_true h
    simp only [firstN] at this
    omega
  · intro h
    refine decide_eq_true ?_
    simp only [firstN]
    omega

set_option maxHeartbeats 1000000 in
theorem implConAt_mid (a : Option Addr) (n c : Nat) (ds : List DeclL) (D : Nat → Prop) (x : Int) (w : World) (h : DeclsR w D a n ds) (hf : Few ds) (hx1 : -9223372036854775000 ≤ x) (hx2 : x ≤ 9223372036854775807) :
    Calls Try.prog 90 #[.slice a n c, .int .i64 x] w fun e w' => ∃ a' m c', e = .returned (.tuple #[.int .i64 (conTypeL ds x), .agg #[.slice a' m c']]) ∧ m ≤ c' ∧
      IntsL w D a' m (conFieldsL ds x) ∧ Keep w w' := by
  refine calls_k fun Q hQ => ?_
  have hlen := h.1
  have HL := Lib.hid hlen
  have hn4 : n ≤ 4 := by have := hf.1; omega
  clear hlen
  go_enter Try.func90, Try.ntmps90
  go_wp2
  go_loopw [1, 10] (fun cv i wr => ∃ k : Nat, k ≤ n ∧ i = .int .i64 k ∧ cv = .int .i64 (x - (firstN ds k : Int)) ∧ Keep (w.alloc (.cells #[.slice none 0 0] 134)) wr ∧ Hid (∀ j, j < k → inDecl ds x j = false)) (fun _ i _ => n - (intOf i).toNat)
  case atStart => exact ⟨0, Nat.zero_le _, rfl, by simp [firstN], Ext.refl _ _, fun j hj => absurd hj (by omega)⟩
  case round =>
    obtain ⟨k, hk, rfl, rfl, hK, H⟩ := hrel
    have hK0 : Keep w wr := ((Ext.refl _ w).alloc _).trans hK
    have hr0 : wr.cell? ⟨w.heap.size, 0, none⟩ = some (.slice none 0 0) := box_at hK 0
    have hr1 : wr.frozen? ⟨w.heap.size, 0, none⟩ = false := by rw [hK.frozen (p := ⟨w.heap.size, 0, none⟩) (by simp) (fun h => h)]; simp
    have hsz : w.heap.size < wr.heap.size := by have := hK.size; simp at this; omega
    have b1 := firstN_le hf (k := k) (by have := HL.out; omega)
    by_cases hlt : k < n
    · have h1 := h.ext hK0 (fun _ _ h => h)
      obtain ⟨b, o, rfl, hd, hc0⟩ := h.2 (by omega)
      obtain ⟨_, _, a', m, c', c2, hmc, hcons⟩ := hc0 k hlt
      obtain ⟨d0, d1, _, _, _, d2, _, _⟩ := hc0 k hlt
      have c0 := (hK0.cell (World.block_lt_of_cell? _ _ d0) (fun h => h)).trans d0
      have c1 := (hK0.cell (World.block_lt_of_cell? _ _ d1) (fun h => h)).trans d1
      have c3 := (hK0.cell (World.block_lt_of_cell? _ _ c2) (fun h => h)).trans c2
      have HM := Lib.hid hcons.1
      have HC := Lib.hid hcons
      have b2 : m ≤ 3 := by have := hf.2 k (by have := HL.out; omega); have := HM.out; omega
      clear hc0 h1 h d0 d1 d2 c2 hcons
      cases hv : inDecl ds x k
      · have V := Lib.hid hv
        clear hv
        by_cases g : 0 ≤ x - (firstN ds k : Int)
        · have g2 : ¬ x - (firstN ds k : Int) < (m : Int) := by
            intro g2
            have := V.out
            rw [inDecl_iff.2 ⟨g, by rw [HM.out]; exact g2⟩] at this
            cases this
          go_wp2
          go_roundw
          case rel => exact ⟨k + 1, by omega, by go_num, by simp only [firstN, HM.out]; congr 1; omega, hK.trans ((Ext.refl _ _).alloc _), fun j hj => by
            rcases Nat.lt_succ_iff_lt_or_eq.1 hj with h | rfl
            · exact H.out j h
            · exact V.out⟩
          case measure => simp [intOf]; omega
        · go_wp2
          go_roundw
          case rel => exact ⟨k + 1, by omega, by go_num, by simp only [firstN, HM.out]; congr 1; omega, hK.trans ((Ext.refl _ _).alloc _), fun j hj => by
            rcases Nat.lt_succ_iff_lt_or_eq.1 hj with h | rfl
            · exact H.out j h
            · exact V.out⟩
          case measure => simp [intOf]; omega
      · have V := Lib.hid hv
        clear hv
        have g := inDecl_iff.1 V.out
        rw [HM.out] at g
        obtain ⟨g1, g2⟩ := g
        obtain ⟨j, hj⟩ := Int.eq_ofNat_of_zero_le g1
        have hjm : j < m := by omega
        obtain ⟨b1', o1, rfl, hd1, hc1⟩ := HC.out.2 (by omega)
        obtain ⟨a2, m2, c2', x0, hmc2, hints⟩ := hc1 j hjm
        have x1 := (hK0.cell (World.block_lt_of_cell? _ _ x0) (fun h => h)).trans x0
        have HJ := Lib.hid hj
        rw [hj] at g1 g2 ⊢
        have hKa : Keep wr (wr.alloc (.cells #[.int .i64 (dAt ds k).from_, .int .i64 (dAt ds k).to_, .slice (some ⟨b1', o1, none⟩) m c'] 93)) := (Ext.refl _ _).alloc _
        have xa := (hKa.cell (World.block_lt_of_cell? _ _ x1) (fun h => h)).trans x1
        have ra := (hKa.cell (World.block_lt_of_cell? _ _ hr0) (fun h => h)).trans hr0
        have rb := (hKa.frozen (p := ⟨w.heap.size, 0, none⟩) hsz (fun h => h)).trans hr1
        clear hj hc1 x0 hKa
        go_wp2
        go_region
        all_goals go_wp2
        refine bodyPost_ret (v := .tuple #[.int .i64 ((k : Int) + 1), .agg #[.slice a2 m2 c2']]) (by simp [results, Try.results90, go_sem, hr0, hsz]) rfl (fin_ hQ ⟨a2, m2, c2', ?_, hmc2, ?_, ?_⟩)
        · rw [conTypeL, conIx, firstIx_some (by have := HL.out; omega) V.out H.out]; rfl
        · rw [conFieldsL, conIx, firstIx_some (by have := HL.out; omega) V.out H.out]
          show IntsL w D a2 m2 (cAt (dAt ds k).cons (x.toNat - firstN ds k))
          rw [show x.toNat - firstN ds k = j by have := HJ.out; omega]
          exact hints
        · exact ((hK0.setCell (p := ⟨w.heap.size, 0, none⟩) (.inl (Nat.le_refl _)) _).alloc _).drew
    · go_wp2
      refine bodyPost_ret (v := .tuple #[.int .i64 (-1), .agg #[.slice none 0 0]]) (by simp [results, Try.results90, go_sem, hr0]) rfl (fin_ hQ ⟨none, 0, 0, ?_, Nat.le_refl _, ?_, ?_⟩)
      · rw [conTypeL, conIx, firstIx_none (fun j hj => H.out j (by have := HL.out; omega))]; rfl
      · rw [conFieldsL, conIx, firstIx_none (fun j hj => H.out j (by have := HL.out; omega))]; exact ⟨rfl, fun h => absurd h (by omega)⟩
      · exact hK0.setCell (p := ⟨w.heap.size, 0, none⟩) (.inl (Nat.le_refl _)) _

theorem wrap_low {v : Int} {m k : Nat} (h1 : v < 0 ∨ 1000 - 3 * (k : Int) ≤ v) (h2 : -9223372036854775808 ≤ v) (h3 : v ≤ 9223372036854775807) (hm : m ≤ 3) (hk : k ≤ 4) :
    (wrap64 (v - (m : Int)) < 0 ∨ 1000 - 3 * ((k + 1 : Nat) : Int) ≤ wrap64 (v - (m : Int))) ∧ -9223372036854775808 ≤ wrap64 (v - (m : Int)) ∧ wrap64 (v - (m : Int)) ≤ 9223372036854775807 := by
  unfold wrap64
  omega

set_option maxHeartbeats 1000000 in
theorem implConAt_low (a : Option Addr) (n c : Nat) (ds : List DeclL) (D : Nat → Prop) (x : Int) (w : World) (h : DeclsR w D a n ds) (hf : Few ds) (hx1 : -9223372036854775808 ≤ x) (hx2 : x < -9223372036854775000) :
    Calls Try.prog 90 #[.slice a n c, .int .i64 x] w fun e w' => ∃ a' m c', e = .returned (.tuple #[.int .i64 (conTypeL ds x), .agg #[.slice a' m c']]) ∧ m ≤ c' ∧
      IntsL w D a' m (conFieldsL ds x) ∧ Keep w w' := by
  refine calls_k fun Q hQ => ?_
  have hlen := h.1
  have HL := Lib.hid hlen
  have hn4 : n ≤ 4 := by have := hf.1; omega
  have HX : Hid (conIx ds x = none) := firstIx_none (fun j _ => by
    cases hv : inDecl ds x j
    · rfl
    · have := inDecl_iff.1 hv; omega)
  clear hlen
  go_enter Try.func90, Try.ntmps90
  go_wp2
  go_loopw [1, 10] (fun cv i wr => ∃ (k : Nat) (v : Int), k ≤ n ∧ i = .int .i64 k ∧ cv = .int .i64 v ∧ (v < 0 ∨ 1000 - 3 * (k : Int) ≤ v) ∧ -9223372036854775808 ≤ v ∧ v ≤ 9223372036854775807 ∧ Keep (w.alloc (.cells #[.slice none 0 0] 134)) wr) (fun _ i _ => n - (intOf i).toNat)
  case atStart => exact ⟨0, x, Nat.zero_le _, rfl, rfl, by omega, by omega, by omega, Ext.refl _ _⟩
  case round =>
    obtain ⟨k, v, hk, rfl, rfl, q1, q2, q3, hK⟩ := hrel
    have hK0 : Keep w wr := ((Ext.refl _ w).alloc _).trans hK
    have hr0 : wr.cell? ⟨w.heap.size, 0, none⟩ = some (.slice none 0 0) := box_at hK 0
    have hr1 : wr.frozen? ⟨w.heap.size, 0, none⟩ = false := by rw [hK.frozen (p := ⟨w.heap.size, 0, none⟩) (by simp) (fun h => h)]; simp
    have hsz : w.heap.size < wr.heap.size := by have := hK.size; simp at this; omega
    by_cases hlt : k < n
    · obtain ⟨b, o, rfl, hd, hc0⟩ := h.2 (by omega)
      obtain ⟨d0, d1, a', m, c', d2, hmc, hcons⟩ := hc0 k hlt
      have c0 := (hK0.cell (World.block_lt_of_cell? _ _ d0) (fun h => h)).trans d0
      have c1 := (hK0.cell (World.block_lt_of_cell? _ _ d1) (fun h => h)).trans d1
      have c3 := (hK0.cell (World.block_lt_of_cell? _ _ d2) (fun h => h)).trans d2
      have HM := Lib.hid hcons.1
      have b2 : m ≤ 3 := by have := hf.2 k (by have := HL.out; omega); have := HM.out; omega
      have W1 := Lib.hid (wrap_low q1 q2 q3 b2 (by omega))
      clear hc0 h d0 d1 d2 hcons
      by_cases g : 0 ≤ v
      · have g2 : ¬ v < (m : Int) := by omega
        clear q1
        go_wp2
        go_roundw
        case rel => exact ⟨k + 1, _, by omega, by go_num, rfl, by first | exact W1.out.1 | (rw [← IntWalk.wrap64_in (v - (m : Int)) ⟨by omega, by omega⟩]; exact W1.out.1), by first | exact W1.out.2.1 | omega, by first | exact W1.out.2.2 | omega, hK.trans ((Ext.refl _ _).alloc _)⟩
        case measure => simp [intOf]; omega
      · clear q1
        go_wp2
        go_roundw
        case rel => exact ⟨k + 1, _, by omega, by go_num, rfl, W1.out.1, W1.out.2.1, W1.out.2.2, hK.trans ((Ext.refl _ _).alloc _)⟩
        case measure => simp [intOf]; omega
    · go_wp2
      refine bodyPost_ret (v := .tuple #[.int .i64 (-1), .agg #[.slice none 0 0]]) (by simp [results, Try.results90, go_sem, hr0]) rfl (fin_ hQ ⟨none, 0, 0, ?_, Nat.le_refl _, ?_, ?_⟩)
      · rw [conTypeL, HX.out]; rfl
      · rw [conFieldsL, HX.out]; exact ⟨rfl, fun h => absurd h (by omega)⟩
      · exact hK0.setCell (p := ⟨w.heap.size, 0, none⟩) (.inl (Nat.le_refl _)) _

theorem implConAt (a : Option Addr) (n c : Nat) (ds : List DeclL) (D : Nat → Prop) (x : Int) (w : World) (h : DeclsR w D a n ds) (hf : Few ds) (hx1 : -9223372036854775808 ≤ x) (hx2 : x ≤ 9223372036854775807) :
    Calls Try.prog 90 #[.slice a n c, .int .i64 x] w fun e w' => ∃ a' m c', e = .returned (.tuple #[.int .i64 (conTypeL ds x), .agg #[.slice a' m c']]) ∧ m ≤ c' ∧
      IntsL w D a' m (conFieldsL ds x) ∧ Keep w w' := by
  by_cases g : -9223372036854775000 ≤ x
  · exact implConAt_mid a n c ds D x w h hf g hx2
  · exact implConAt_low a n c ds D x w h hf hx1 (by omega)
end Go.Proofs.Ytmekdccgjgfiaaa
/- arrowOf of the program and of the reference; ConCount, ConType and ArrowOf of both. -/
namespace Go.Proofs.Ytmekdccgjgfiaaa
open Go.RowKit

theorem isArrow_off {ds : List DeclL} {f t : Int} {k : Nat} (h : (dAt ds k).cons.length ≠ 0 ∨ ((dAt ds k).from_ == f) = false ∨ ((dAt ds k).to_ == t) = false) : isArrow ds f t k = false := by
  unfold isArrow
  rcases h with h | h | h <;> simp_all
theorem isArrow_on {ds : List DeclL} {f t : Int} {k : Nat} (h : (dAt ds k).cons.length = 0) (h1 : ((dAt ds k).from_ == f) = true) (h2 : ((dAt ds k).to_ == t) = true) : isArrow ds f t k = true := by
  unfold isArrow
  simp_all

set_option maxHeartbeats 1000000 in
theorem implArrowOf0 (a : Option Addr) (n c : Nat) (ds : List DeclL) (D : Nat → Prop) (f t : Int) (w : World) (h : DeclsR w D a n ds) (hn4 : n ≤ 1048576) :
    Calls Try.prog 92 #[.slice a n c, .int .i64 f, .int .i64 t] w fun e w' => e = .returned (.int .i64 (arrowL ds f t)) ∧ Keep w w' := by
  refine calls_k fun Q hQ => ?_
  have hlen := h.1
  have HL := Lib.hid hlen
  clear hlen
  go_enter Try.func92, Try.ntmps92
  go_wp2
  go_loopw [11] (fun i wr => ∃ k : Nat, k ≤ n ∧ i = .int .i64 k ∧ Keep w wr ∧ Hid (∀ j, j < k → isArrow ds f t j = false)) (fun i _ => n - (intOf i).toNat)
  case atStart => exact ⟨0, Nat.zero_le _, rfl, Ext.refl _ _, fun j hj => absurd hj (by omega)⟩
  case round =>
    obtain ⟨k, hk, rfl, hK, H⟩ := hrel
    by_cases hlt : k < n
    · have h1 := h.ext hK (fun _ _ h => h)
      obtain ⟨b, o, rfl, hd, hc⟩ := h1.2 (by omega)
      obtain ⟨c0, c1, a', m, c', c2, hmc, hcons⟩ := hc k (by omega)
      have HM := Lib.hid hcons.1
      clear hc hcons h1 h
      by_cases g0 : m = 0
      · subst g0
        cases g1 : ((dAt ds k).from_ == f)
        · have V := Lib.hid (isArrow_off (ds := ds) (f := f) (t := t) (k := k) (.inr (.inl g1)))
          go_wp2
          go_roundw
          case rel => exact ⟨k + 1, by omega, by go_num, hK.trans ((Ext.refl _ _).alloc _), fun j hj => by
            rcases Nat.lt_succ_iff_lt_or_eq.1 hj with h | rfl
            · exact H.out j h
            · exact V.out⟩
          case measure => simp [intOf]; omega
        · cases g2 : ((dAt ds k).to_ == t)
          · have V := Lib.hid (isArrow_off (ds := ds) (f := f) (t := t) (k := k) (.inr (.inr g2)))
            go_wp2
            go_roundw
            case rel => exact ⟨k + 1, by omega, by go_num, hK.trans ((Ext.refl _ _).alloc _), fun j hj => by
              rcases Nat.lt_succ_iff_lt_or_eq.1 hj with h | rfl
              · exact H.out j h
              · exact V.out⟩
            case measure => simp [intOf]; omega
          · have V := Lib.hid (isArrow_on HM.out g1 g2)
            go_wp2
            exact fin_ hQ ⟨ret_i (by rw [arrowL, firstIx_some (by have := HL.out; omega) V.out H.out]; rfl), hK.trans ((Ext.refl _ _).alloc _)⟩
      · have g0' : ((m : Int) == 0) = false := by simp; omega
        have V := Lib.hid (isArrow_off (ds := ds) (f := f) (t := t) (k := k) (.inl (by rw [HM.out]; exact g0)))
        go_wp2
        go_roundw
        case rel => exact ⟨k + 1, by omega, by go_num, hK.trans ((Ext.refl _ _).alloc _), fun j hj => by
          rcases Nat.lt_succ_iff_lt_or_eq.1 hj with h | rfl
          · exact H.out j h
          · exact V.out⟩
        case measure => simp [intOf]; omega
    · go_wp2
      exact fin_ hQ ⟨ret_i (by rw [arrowL, firstIx_none (fun j hj => H.out j (by have := HL.out; omega))]; rfl), hK⟩

set_option maxHeartbeats 1000000 in
theorem specArrowOf0 (a : Option Addr) (n c : Nat) (ds : List DeclL) (D : Nat → Prop) (f t : Int) (w : World) (h : DeclsR w D a n ds) (hn4 : n ≤ 1048576) :
    Calls Try.prog 85 #[.slice a n c, .int .i64 f, .int .i64 t] w fun e w' => e = .returned (.int .i64 (arrowL ds f t)) ∧ w = w' := by
  refine calls_k fun Q hQ => ?_
  have hlen := h.1
  have HL := Lib.hid hlen
  clear hlen
  go_enter Try.func85, Try.ntmps85
  go_wp2
  go_loop [7] (fun i => ∃ k : Nat, k ≤ n ∧ i = .int .i64 k ∧ Hid (∀ j, j < k → isArrow ds f t j = false)) (fun i => n - (intOf i).toNat)
  case atStart => exact ⟨0, Nat.zero_le _, rfl, fun j hj => absurd hj (by omega)⟩
  case round =>
    obtain ⟨k, hk, rfl, H⟩ := hrel
    by_cases hlt : k < n
    · obtain ⟨b, o, rfl, hd, hc⟩ := h.2 (by omega)
      obtain ⟨c0, c1, a', m, c', c2, hmc, hcons⟩ := hc k (by omega)
      have HM := Lib.hid hcons.1
      clear hc hcons h
      by_cases g0 : m = 0
      · subst g0
        cases g1 : ((dAt ds k).from_ == f)
        · have V := Lib.hid (isArrow_off (ds := ds) (f := f) (t := t) (k := k) (.inr (.inl g1)))
          go_wp2
          go_round
          case rel => exact ⟨k + 1, by omega, by go_num, fun j hj => by
            rcases Nat.lt_succ_iff_lt_or_eq.1 hj with h | rfl
            · exact H.out j h
            · exact V.out⟩
          case measure => simp [intOf]; omega
        · cases g2 : ((dAt ds k).to_ == t)
          · have V := Lib.hid (isArrow_off (ds := ds) (f := f) (t := t) (k := k) (.inr (.inr g2)))
            go_wp2
            go_round
            case rel => exact ⟨k + 1, by omega, by go_num, fun j hj => by
              rcases Nat.lt_succ_iff_lt_or_eq.1 hj with h | rfl
              · exact H.out j h
              · exact V.out⟩
            case measure => simp [intOf]; omega
          · have V := Lib.hid (isArrow_on HM.out g1 g2)
            go_wp2
            exact fin_ hQ ⟨ret_i (by rw [arrowL, firstIx_some (by have := HL.out; omega) V.out H.out]; rfl), rfl⟩
      · have g0' : ((m : Int) == 0) = false := by simp; omega
        have V := Lib.hid (isArrow_off (ds := ds) (f := f) (t := t) (k := k) (.inl (by rw [HM.out]; exact g0)))
        go_wp2
        go_round
        case rel => exact ⟨k + 1, by omega, by go_num, fun j hj => by
          rcases Nat.lt_succ_iff_lt_or_eq.1 hj with h | rfl
          · exact H.out j h
          · exact V.out⟩
        case measure => simp [intOf]; omega
    · go_wp2
      exact fin_ hQ ⟨ret_i (by rw [arrowL, firstIx_none (fun j hj => H.out j (by have := HL.out; omega))]; rfl), rfl⟩

/-- What the six exported functions give. -/
def ifOk (ds : List DeclL) (v : Int) : Int := if typesOk ds = true then v else -1
theorem few_len {w : World} {D : Nat → Prop} {a : Option Addr} {n : Nat} {ds : List DeclL} (h : DeclsR w D a n ds) (hf : Few ds) : n ≤ 4 := by have := h.1; have := hf.1; omega






end Go.Proofs.Ytmekdccgjgfiaaa
