/- The steps of a block, counted by the reference and by the program. -/
import Derived.Test.YtpebcclabaennaaTyp
import Derived.Test.YtpebcclabaennaaLit
import Derived.Test.YtpebcclabaennaaOwn2
import Derived.Test.YtpebcclabaennaaNodes
namespace Go.Proofs.Ytpebcclabaennaa
open Go.RowKit

mutual
/-- The number of steps. -/
def nS : StepL → Nat
  | .mk _ _ _ _ ks => nBs ks + 1
def nSs : List StepL → Nat
  | [] => 0
  | s :: ss => nS s + nSs ss
def nB : BlockL → Nat
  | .mk ss _ => nSs ss
def nBs : List BlockL → Nat
  | [] => 0
  | b :: bs => nB b + nBs bs
end
theorem nS_eq (s : StepL) : nS s = nBs s.kids + 1 := by cases s; rw [nS]; rfl
theorem nB_eq (b : BlockL) : nB b = nSs b.steps := by cases b; rw [nB]; rfl
theorem nSs_append (a b : List StepL) : nSs (a ++ b) = nSs a + nSs b := by induction a <;> simp_all [nSs, Nat.add_assoc]
theorem nBs_append (a b : List BlockL) : nBs (a ++ b) = nBs a + nBs b := by induction a <;> simp_all [nBs, Nat.add_assoc]
theorem nSs_take (es : List StepL) {j : Nat} (h : j < es.length) : nSs (es.take (j + 1)) = nSs (es.take j) + nS (sAt es j) := by rw [List.take_succ_eq_append_getElem h, sAt_get h, nSs_append]; simp [nSs]
theorem nBs_take (es : List BlockL) {j : Nat} (h : j < es.length) : nBs (es.take (j + 1)) = nBs (es.take j) + nB (bAt es j) := by rw [List.take_succ_eq_append_getElem h, bAt_get h, nBs_append]; simp [nBs]
theorem nSs_take_le (es : List StepL) (j : Nat) : nSs (es.take j) ≤ nSs es := by
  conv => rhs; rw [← List.take_append_drop j es, nSs_append]
  omega
theorem nBs_take_le (es : List BlockL) (j : Nat) : nBs (es.take j) ≤ nBs es := by
  conv => rhs; rw [← List.take_append_drop j es, nBs_append]
  omega
theorem nS_le (es : List StepL) {j : Nat} (h : j < es.length) : nS (sAt es j) ≤ nSs es := by
  have h1 := nSs_take es h
  have h2 := nSs_take_le es (j + 1)
  omega
theorem nB_le (es : List BlockL) {j : Nat} (h : j < es.length) : nB (bAt es j) ≤ nBs es := by
  have h1 := nBs_take es h
  have h2 := nBs_take_le es (j + 1)
  omega
theorem nkid_lt (ss : List StepL) {j k : Nat} (h : j < ss.length) (h2 : k < (sAt ss j).kids.length) : nSs (bAt (sAt ss j).kids k).steps < nSs ss := by
  have := nS_le ss h
  have := nS_eq (sAt ss j)
  have := nB_le (sAt ss j).kids h2
  have := nB_eq (bAt (sAt ss j).kids k)
  omega

set_option maxRecDepth 100000 in
set_option maxHeartbeats 2000000 in
theorem specStepsLeft_n (N : Nat) : ∀ (ss : List StepL) (res : Int), nSs ss < N → ∀ (a : Option Addr) (n c : Nat) (D : Nat → Prop) (left : Int) (w : World), Rd w D (encSteps ss) (.slice a n c) → 0 ≤ left → left ≤ 1048576 →
    Calls Try.prog 116 #[.agg #[.slice a n c, .int .i64 res], .int .i64 left] w fun e w' => e = .returned (.int .i64 (lft (nSs ss) left)) ∧ Keep w w' := by
  induction N with
  | zero => intro ss _ h; omega
  | succ N ihN =>
  intro ss res hN a n c D left w h h0 h1
  refine calls_k fun Q hQ => ?_
  obtain ⟨e1, hnc, hm, hat⟩ := steps_at h
  have HL := Lib.hid e1
  have HA := Lib.hid hat
  have IH := Lib.hid (fun (j k : Nat) (hj : j < ss.length) (hk : k < (sAt ss j).kids.length) => ihN (bAt (sAt ss j).kids k).steps (bAt (sAt ss j).kids k).result (by have := nkid_lt ss hj hk; omega))
  clear e1 hat ihN hN
  have K0 := Keep.al w (.cells #[.slice a n c, .int .i64 res] 42)
  go_enter Try.func116, Try.ntmps116
  go_wp2
  go_loopw [1, 5] (fun lv iv wr => ∃ j : Nat, j ≤ n ∧ iv = .int .i64 j ∧ lv = .int .i64 (left - (nSs (ss.take j) : Int)) ∧ (nSs (ss.take j) : Int) ≤ left ∧ Keep (w.alloc (.cells #[.slice a n c, .int .i64 res] 42)) wr) (fun _ i _ => n - (intOf i).toNat)
  case atStart => exact ⟨0, Nat.zero_le _, rfl, by simp [nSs], by simp only [List.take_zero, nSs]; omega, Ext.refl _ _⟩
  case round =>
    obtain ⟨wo, rfl⟩ : ∃ wo : World, wo = wr := ⟨_, rfl⟩
    obtain ⟨j, hj, rfl, rfl, hsz, hK⟩ := hrel
    have x0 := boxk hK 0
    simp at x0
    by_cases hlt : j < n
    · have hst := nSs_take ss (j := j) (by have := HL.out; omega)
      have hee := nS_eq (sAt ss j)
      have hle := nSs_take_le ss (j + 1)
      by_cases hl1 : left - (nSs (ss.take j) : Int) < 1
      · have V2 := Lib.hid (lft_no (s := nSs ss) (left := left) (by omega))
        clear hst hee hle
        go_wp2_with fail
        exact fin_ hQ ⟨ret_i V2.out.symm, K0.trans hK⟩
      obtain ⟨b, o, rfl, hd, a3, n3, c3, a4, n4, c4, d0, d1, d2, d3, d4, r3, r4⟩ := HA.out j hlt
      have hKw := K0.trans hK
      have d4' := Lib.hid d4
      have g4 := (hKw.cell (World.block_lt_of_cell? w _ d4) (fun h => h)).trans d4
      have q4 := r4.k hKw
      obtain ⟨e4, hnc4, hm4, hat4⟩ := blocks_at q4
      have HL4 := Lib.hid e4
      have HA4 := Lib.hid hat4
      have HS := Lib.hid hst
      have HE := Lib.hid hee
      have HLE := Lib.hid hle
      clear d0 d1 d2 d3 d4 r3 r4 hst hee hle e4 hat4 q4
      go_wp2_with fail
      go_loopw [1, 6] (fun lv iv wr => ∃ k : Nat, k ≤ n4 ∧ iv = .int .i64 k ∧ lv = .int .i64 (left - (nSs (ss.take j) : Int) - 1 - (nBs ((sAt ss j).kids.take k) : Int)) ∧ (nBs ((sAt ss j).kids.take k) : Int) ≤ left - (nSs (ss.take j) : Int) - 1 ∧ Keep wo wr) (fun _ i _ => n4 - (intOf i).toNat)
      case atStart => exact ⟨0, Nat.zero_le _, rfl, by simp [nBs], by simp only [List.take_zero, nBs]; omega, Ext.refl _ _⟩
      case round =>
        obtain ⟨k, hk, rfl, rfl, hsz2, hK2⟩ := hrel
        have x0' := (hK2.cell (World.block_lt_of_cell? _ _ x0) (fun h => h)).trans x0
        have g4' := (hK2.cell (World.block_lt_of_cell? _ _ g4) (fun h => h)).trans g4
        by_cases hltk : k < n4
        · have hstk := nBs_take (sAt ss j).kids (j := k) (by have := HL4.out; omega)
          have heek := nB_eq (bAt (sAt ss j).kids k)
          have hlek := nBs_take_le (sAt ss j).kids (k + 1)
          obtain ⟨b4, o4, rfl, hd4, a5, n5, c5, f0, f1, r5⟩ := HA4.out k hltk
          have t0 := (hK2.cell (World.block_lt_of_cell? _ _ f0) (fun h => h)).trans f0
          have t1 := (hK2.cell (World.block_lt_of_cell? _ _ f1) (fun h => h)).trans f1
          have q5 := r5.k hK2
          have u0 : 0 ≤ left - (nSs (ss.take j) : Int) - 1 - (nBs ((sAt ss j).kids.take k) : Int) := by omega
          have HSk := Lib.hid hstk
          have HEk := Lib.hid heek
          have HLk := Lib.hid hlek
          clear f0 f1 r5 hstk heek hlek
          by_cases hf : (nBs ((sAt ss j).kids.take (k + 1)) : Int) ≤ left - (nSs (ss.take j) : Int) - 1
          · have V : Hid (lft (nSs (bAt (sAt ss j).kids k).steps) (left - (nSs (ss.take j) : Int) - 1 - (nBs ((sAt ss j).kids.take k) : Int)) = left - (nSs (ss.take j) : Int) - 1 - (nBs ((sAt ss j).kids.take (k + 1)) : Int)) := by
              show _ = _
              have := HSk.out; have := HEk.out
              rw [lft_yes (by omega)]; omega
            have u1 : 0 ≤ left - (nSs (ss.take j) : Int) - 1 - (nBs ((sAt ss j).kids.take (k + 1)) : Int) := by omega
            go_wp2_with fail
            refine (IH.out j k (by have := HL.out; omega) (by have := HL4.out; omega) _ _ _ _ _ _ q5 (by omega) (by omega)).mono ?_
            rw [V.out]
            rintro e w1 ⟨rfl, p1⟩
            go_wp2_with fail
            go_roundw
            case rel => exact ⟨k + 1, by omega, by go_num, rfl, by omega, hK2.trans p1⟩
            case measure => simp [intOf]; omega
          · have V : Hid (lft (nSs (bAt (sAt ss j).kids k).steps) (left - (nSs (ss.take j) : Int) - 1 - (nBs ((sAt ss j).kids.take k) : Int)) = -1) := by
              have := HSk.out; have := HEk.out
              exact lft_no (by omega)
            have V2 : Hid (lft (nSs ss) left = -1) := lft_no (by have := HS.out; have := HE.out; have := HLE.out; have := HLk.out; omega)
            go_wp2_with fail
            refine (IH.out j k (by have := HL.out; omega) (by have := HL4.out; omega) _ _ _ _ _ _ q5 (by omega) (by omega)).mono ?_
            rw [V.out]
            rintro e w1 ⟨rfl, p1⟩
            go_wp2_with fail
            exact fin_ hQ ⟨ret_i V2.out.symm, (hKw.trans hK2).trans p1⟩
        · have HK : Hid (k = n4) := by show _ = _; omega
          have hz : (nSs (ss.take (j + 1)) : Int) = (nSs (ss.take j) : Int) + 1 + (nBs ((sAt ss j).kids.take k) : Int) := by
            have := HS.out; have := HE.out
            rw [List.take_of_length_le (l := (sAt ss j).kids) (i := k) (by have := HK.out; have := HL4.out; omega)]
            omega
          have HZ := Lib.hid hz
          clear hz
          go_wp2_with fail
          go_roundw
          case rel => exact ⟨j + 1, by omega, by go_num, by rw [HZ.out]; congr 1; omega, by rw [HZ.out]; omega, hK.trans hK2⟩
          case measure => simp [intOf]; omega
    · have HJ : Hid (j = n) := by show _ = _; omega
      go_wp2
      exact fin_ hQ ⟨ret_i (by
        have e := HJ.out
        subst e
        rw [List.take_of_length_le (Nat.le_of_eq HL.out)] at hsz ⊢
        rw [lft_yes (by omega)]), K0.trans hK⟩

theorem specStepsLeft (ss : List StepL) (res : Int) (a : Option Addr) (n c : Nat) (D : Nat → Prop) (left : Int) (w : World) (h : Rd w D (encSteps ss) (.slice a n c)) (h0 : 0 ≤ left) (h1 : left ≤ 1048576) :
    Calls Try.prog 116 #[.agg #[.slice a n c, .int .i64 res], .int .i64 left] w fun e w' => e = .returned (.int .i64 (lft (nSs ss) left)) ∧ Keep w w' :=
  specStepsLeft_n _ ss res (Nat.lt_succ_self _) a n c D left w h h0 h1

/-- The number of steps; -1 if there are too many. -/
def stepsL (ss : List StepL) : Int := if nSs ss ≤ 600 then (nSs ss : Int) else -1
theorem stepsL_yes {ss : List StepL} (h : nSs ss ≤ 600) : stepsL ss = (nSs ss : Int) := if_pos h
theorem stepsL_no {ss : List StepL} (h : ¬ nSs ss ≤ 600) : stepsL ss = -1 := if_neg h

theorem specStepsOf0 (ss : List StepL) (res : Int) (a : Option Addr) (n c : Nat) (D : Nat → Prop) (w : World) (h : Rd w D (encSteps ss) (.slice a n c)) :
    Calls Try.prog 70 #[.agg #[.slice a n c, .int .i64 res]] w fun e w' => e = .returned (.int .i64 (stepsL ss)) ∧ Keep w w' := by
  refine calls_k fun Q hQ => ?_
  have K0 := Keep.al w (.cells #[.slice a n c, .int .i64 res] 42)
  by_cases hl : nSs ss ≤ 600
  · have V := Lib.hid (stepsL_yes hl)
    have V2 := Lib.hid (lft_yes (s := nSs ss) (left := 600) (by omega))
    have b1 : 0 ≤ 600 - (nSs ss : Int) := by omega
    generalize hm : nSs ss = m at V V2 b1 hl
    have HM := Lib.hid hm
    clear hm
    go_enter Try.func70, Try.ntmps70
    go_wp2_with fail
    refine (specStepsLeft _ _ _ _ _ _ _ _ (h.k K0) (by omega) (by omega)).mono ?_
    rw [HM.out, V2.out]
    rintro e w1 ⟨rfl, p1⟩
    go_wp2_with fail
    exact fin_ hQ ⟨ret_i (by rw [V.out]; omega), K0.trans p1⟩
  · have V := Lib.hid (stepsL_no hl)
    have V2 := Lib.hid (lft_no (s := nSs ss) (left := 600) (by omega))
    clear hl
    go_enter Try.func70, Try.ntmps70
    go_wp2_with fail
    refine (specStepsLeft _ _ _ _ _ _ _ _ (h.k K0) (by omega) (by omega)).mono ?_
    rw [V2.out]
    rintro e w1 ⟨rfl, p1⟩
    go_wp2_with fail
    exact fin_ hQ ⟨ret_i V.out.symm, K0.trans p1⟩
theorem specStepsOf (ss : List StepL) (res : Int) (a : Option Addr) (n c : Nat) (D : Nat → Prop) (w : World) (h : Rd w D (encSteps ss) (.slice a n c)) :
    Calls Try.prog 24 #[.agg #[.slice a n c, .int .i64 res]] w fun e w' => e = .returned (.int .i64 (stepsL ss)) ∧ Keep w w' := by
  refine calls_k fun Q hQ => ?_
  have K0 := Keep.al w (.cells #[.slice a n c, .int .i64 res] 42)
  go_enter Try.func24, Try.ntmps24
  go_wp2_with fail
  refine (specStepsOf0 _ _ _ _ _ _ _ (h.k K0)).mono ?_
  rintro e w1 ⟨rfl, p1⟩
  go_wp2_with fail
  exact fin_ hQ ⟨rfl, K0.trans p1⟩

set_option maxRecDepth 100000 in
set_option maxHeartbeats 2000000 in
theorem implCountSteps_n (N : Nat) : ∀ (ss : List StepL) (res : Int), nSs ss < N → ∀ (a : Option Addr) (n c p : Nat) (D : Nat → Prop) (m : Int) (w : World), Rd w D (encSteps ss) (.slice a n c) → ¬ D p → w.rowIs p 3 1 (fun _ => .int .i64 m) → 0 ≤ m → m ≤ 600 →
    Calls Try.prog 72 #[.agg #[.slice a n c, .int .i64 res], .pointer (some ⟨p, 0, none⟩)] w fun e w' => e = .returned (.bool (decide (m + (nSs ss : Int) ≤ 600))) ∧
      (m + (nSs ss : Int) ≤ 600 → w'.rowIs p 3 1 (fun _ => .int .i64 (m + (nSs ss : Int)))) ∧ Ext (· = p) w w' := by
  induction N with
  | zero => intro ss _ h; omega
  | succ N ihN =>
  intro ss res hN a n c p D m w h hDp hp h0 h1
  refine calls_k fun Q hQ => ?_
  obtain ⟨e1, hnc, hm, hat⟩ := steps_at h
  have HL := Lib.hid e1
  have HA := Lib.hid hat
  have IH := Lib.hid (fun (j k : Nat) (hj : j < ss.length) (hk : k < (sAt ss j).kids.length) => ihN (bAt (sAt ss j).kids k).steps (bAt (sAt ss j).kids k).result (by have := nkid_lt ss hj hk; omega))
  have hbox : ∀ k, D k → k ≠ p := fun k hk e => hDp (e ▸ hk)
  have HB := Lib.hid hbox
  clear e1 hat ihN hN hbox
  have hpl := hp.lt
  have HP := Lib.hid hp
  have Hh := Lib.hid h
  clear hp h
  have X0 : Ext (· = p) w (w.alloc (.cells #[.slice a n c, .int .i64 res] 42)) := Keep.to (Keep.al _ _)
  have HX0 := Lib.hid X0
  clear X0
  have x0 := boxk (Ext.refl (fun _ => False) (w.alloc (.cells #[.slice a n c, .int .i64 res] 42))) 0
  simp at x0
  go_enter Try.func72, Try.ntmps72
  go_wp2
  go_loopw [12] (fun iv wr => ∃ j : Nat, j ≤ n ∧ iv = .int .i64 j ∧ Hid (wr.rowIs p 3 1 (fun _ => .int .i64 (m + (nSs (ss.take j) : Int)))) ∧ m + (nSs (ss.take j) : Int) ≤ 600 ∧ Ext (· = p) w wr) (fun i _ => n - (intOf i).toNat)
  case atStart => exact ⟨0, Nat.zero_le _, rfl, by show World.rowIs _ _ _ _ _; simpa [nSs] using HP.out.alloc _, by simp only [List.take_zero, nSs]; omega, HX0.out⟩
  case round =>
    obtain ⟨wo, rfl⟩ : ∃ wo : World, wo = wr := ⟨_, rfl⟩
    obtain ⟨j, hj, rfl, hR, hsz, hX⟩ := hrel
    clear x0
    by_cases hlt : j < n
    · have hst := nSs_take ss (j := j) (by have := HL.out; omega)
      have hee := nS_eq (sAt ss j)
      have hle := nSs_take_le ss (j + 1)
      obtain ⟨b, o, rfl, hd, a3, n3, c3, a4, n4, c4, d0, d1, d2, d3, d4, r3, r4⟩ := HA.out j hlt
      have g0 := (hX.cell (World.block_lt_of_cell? w _ d0) (HB.out _ hd)).trans d0
      have g1 := (hX.cell (World.block_lt_of_cell? w _ d1) (HB.out _ hd)).trans d1
      have g2 := (hX.cell (World.block_lt_of_cell? w _ d2) (HB.out _ hd)).trans d2
      have g3 := (hX.cell (World.block_lt_of_cell? w _ d3) (HB.out _ hd)).trans d3
      have g4 := (hX.cell (World.block_lt_of_cell? w _ d4) (HB.out _ hd)).trans d4
      have q4 := r4.ext hX HB.out
      have hRl := hR.out.lt
      have v0 := hR.out.cell (i := 0) (by omega)
      have f0 := hR.out.frozen 0
      have X1 : Ext (· = p) wo ((wo.setCell ⟨p, 0, none⟩ (.int .i64 (m + (nSs (ss.take j) : Int) + 1))).alloc (.cells #[.int .i64 (sAt ss j).op, .int .i64 (sAt ss j).num, .int .i64 (sAt ss j).into, .slice a3 n3 c3, .slice a4 n4 c4] 140)) := ((Ext.refl (· = p) wo).setCell (p := ⟨p, 0, none⟩) (.inr rfl) _).alloc _
      have R1 : ((wo.setCell ⟨p, 0, none⟩ (.int .i64 (m + (nSs (ss.take j) : Int) + 1))).alloc (.cells #[.int .i64 (sAt ss j).op, .int .i64 (sAt ss j).num, .int .i64 (sAt ss j).into, .slice a3 n3 c3, .slice a4 n4 c4] 140)).rowIs p 3 1 (fun _ => .int .i64 (m + (nSs (ss.take j) : Int) + 1)) :=
        ((hR.out.set 0 (.int .i64 (m + (nSs (ss.take j) : Int) + 1))).alloc _).congr (fun i hi => by rw [if_pos (by omega)])
      have HX1 := Lib.hid X1
      have HR1 := Lib.hid R1
      have HS := Lib.hid hst
      have HE := Lib.hid hee
      have HLE := Lib.hid hle
      clear X1 R1 d0 d1 d2 d3 d4 r3 r4 hst hee hle
      by_cases hm6 : 600 < m + (nSs (ss.take j) : Int) + 1
      · have V : ¬ m + (nSs ss : Int) ≤ 600 := by have := HS.out; have := HE.out; have := HLE.out; omega
        have V3 := Lib.hid (decide_eq_false V)
        clear q4
        go_wp2_with fail
        exact fin_ hQ ⟨ret_b V3.out.symm, fun h => by omega, hX.trans HX1.out⟩
      obtain ⟨e4, hnc4, hm4, hat4⟩ := blocks_at (q4.ext HX1.out HB.out)
      have HL4 := Lib.hid e4
      have HA4 := Lib.hid hat4
      clear e4 hat4 q4
      go_wp2_with fail
      go_loopw [28] (fun iv wr => ∃ k : Nat, k ≤ n4 ∧ iv = .int .i64 k ∧ Hid (wr.rowIs p 3 1 (fun _ => .int .i64 (m + (nSs (ss.take j) : Int) + 1 + (nBs ((sAt ss j).kids.take k) : Int)))) ∧ m + (nSs (ss.take j) : Int) + 1 + (nBs ((sAt ss j).kids.take k) : Int) ≤ 600 ∧ Ext (· = p) ((wo.setCell ⟨p, 0, none⟩ (.int .i64 (m + (nSs (ss.take j) : Int) + 1))).alloc (.cells #[.int .i64 (sAt ss j).op, .int .i64 (sAt ss j).num, .int .i64 (sAt ss j).into, .slice a3 n3 c3, .slice a4 n4 c4] 140)) wr) (fun i _ => n4 - (intOf i).toNat)
      case atStart => exact ⟨0, Nat.zero_le _, rfl, by show World.rowIs _ _ _ _ _; simpa [nBs] using HR1.out, by simp only [List.take_zero, nBs]; omega, Ext.refl _ _⟩
      case round =>
        obtain ⟨k, hk, rfl, hR2, hsz2, hX2⟩ := hrel
        clear v0 f0 g0 g1 g2 g3 g4
        by_cases hltk : k < n4
        · have hstk := nBs_take (sAt ss j).kids (j := k) (by have := HL4.out; omega)
          have heek := nB_eq (bAt (sAt ss j).kids k)
          have hlek := nBs_take_le (sAt ss j).kids (k + 1)
          obtain ⟨b4, o4, rfl, hd4, a5, n5, c5, t0, t1, r5⟩ := HA4.out k hltk
          have y0 := (hX2.cell (World.block_lt_of_cell? _ _ t0) (HB.out _ hd4)).trans t0
          have y1 := (hX2.cell (World.block_lt_of_cell? _ _ t1) (HB.out _ hd4)).trans t1
          have q5 := (r5.ext hX2 HB.out).k (Keep.al wr (.cells #[.slice a5 n5 c5, .int .i64 (bAt (sAt ss j).kids k).result] 42))
          have hR3 := Lib.hid (hR2.out.alloc (.cells #[.slice a5 n5 c5, .int .i64 (bAt (sAt ss j).kids k).result] 42))
          have hX3 := Lib.hid (hX2.trans (Keep.to (Keep.al wr (.cells #[.slice a5 n5 c5, .int .i64 (bAt (sAt ss j).kids k).result] 42))))
          have HSk := Lib.hid hstk
          have HEk := Lib.hid heek
          have HLk := Lib.hid hlek
          clear t0 t1 r5 hstk heek hlek hR2 hX2
          by_cases hf : m + (nSs (ss.take j) : Int) + 1 + (nBs ((sAt ss j).kids.take (k + 1)) : Int) ≤ 600
          · have V : Hid (decide (m + (nSs (ss.take j) : Int) + 1 + (nBs ((sAt ss j).kids.take k) : Int) + (nSs (bAt (sAt ss j).kids k).steps : Int) ≤ 600) = true) := by
              have := HSk.out; have := HEk.out
              exact decide_eq_true (by omega)
            go_wp2_with fail
            refine (IH.out j k (by have := HL.out; omega) (by have := HL4.out; omega) _ _ _ p D _ _ q5 hDp hR3.out (by omega) hsz2).mono ?_
            rw [V.out]
            rintro e w1 ⟨rfl, hr1, p1⟩
            have HR4 : Hid (w1.rowIs p 3 1 (fun _ => .int .i64 (m + (nSs (ss.take j) : Int) + 1 + (nBs ((sAt ss j).kids.take (k + 1)) : Int)))) := by
              have := HSk.out; have := HEk.out
              show World.rowIs _ _ _ _ _
              rw [show m + (nSs (ss.take j) : Int) + 1 + (nBs ((sAt ss j).kids.take (k + 1)) : Int) = m + (nSs (ss.take j) : Int) + 1 + (nBs ((sAt ss j).kids.take k) : Int) + (nSs (bAt (sAt ss j).kids k).steps : Int) by omega]
              exact hr1 (by omega)
            clear hr1
            go_wp2_with fail
            go_roundw
            case rel => exact ⟨k + 1, by omega, by go_num, HR4, hf, hX3.out.trans p1⟩
            case measure => simp [intOf]; omega
          · have V : Hid (decide (m + (nSs (ss.take j) : Int) + 1 + (nBs ((sAt ss j).kids.take k) : Int) + (nSs (bAt (sAt ss j).kids k).steps : Int) ≤ 600) = false) := by
              have := HSk.out; have := HEk.out
              exact decide_eq_false (by omega)
            have V2 : ¬ m + (nSs ss : Int) ≤ 600 := by have := HS.out; have := HE.out; have := HLE.out; have := HLk.out; omega
            have V3 := Lib.hid (decide_eq_false V2)
            go_wp2_with fail
            refine (IH.out j k (by have := HL.out; omega) (by have := HL4.out; omega) _ _ _ p D _ _ q5 hDp hR3.out (by omega) hsz2).mono ?_
            rw [V.out]
            rintro e w1 ⟨rfl, _, p1⟩
            go_wp2_with fail
            exact fin_ hQ ⟨ret_b V3.out.symm, fun h => by omega, (hX.trans HX1.out).trans (hX3.out.trans p1)⟩
        · have HK : Hid (k = n4) := by show _ = _; omega
          have hz : (nSs (ss.take (j + 1)) : Int) = (nSs (ss.take j) : Int) + 1 + (nBs ((sAt ss j).kids.take k) : Int) := by
            have := HS.out; have := HE.out
            rw [List.take_of_length_le (l := (sAt ss j).kids) (i := k) (by have := HK.out; have := HL4.out; omega)]
            omega
          have HZ := Lib.hid hz
          clear hz
          go_wp2_with fail
          go_roundw
          case rel => exact ⟨j + 1, by omega, by go_num, by
            show World.rowIs _ _ _ _ _
            rw [show m + (nSs (ss.take (j + 1)) : Int) = m + (nSs (ss.take j) : Int) + 1 + (nBs ((sAt ss j).kids.take k) : Int) by have := HZ.out; omega]
            exact hR2.out, by have := HZ.out; omega, (hX.trans HX1.out).trans hX2⟩
          case measure => simp [intOf]; omega
    · have HJ : Hid (j = n) := by show _ = _; omega
      have hfin : m + (nSs ss : Int) = m + (nSs (ss.take j) : Int) := by
        have e := HJ.out
        subst e
        rw [List.take_of_length_le (Nat.le_of_eq HL.out)]
      have HF := Lib.hid hfin
      clear hfin
      go_wp2
      exact fin_ hQ ⟨ret_b (decide_eq_true (by rw [HF.out]; exact hsz)).symm, fun _ => by rw [HF.out]; exact hR.out, hX⟩

theorem implStepsOf (ss : List StepL) (res : Int) (a : Option Addr) (n c : Nat) (D : Nat → Prop) (w : World) (h : Rd w D (encSteps ss) (.slice a n c)) :
    Calls Try.prog 26 #[.agg #[.slice a n c, .int .i64 res]] w fun e w' => e = .returned (.int .i64 (stepsL ss)) ∧ Keep w w' := by
  refine calls_k fun Q hQ => ?_
  have K0 := Keep.al w (.cells #[.slice a n c, .int .i64 res] 42)
  have K1 := Keep.al (w.alloc (.cells #[.slice a n c, .int .i64 res] 42)) (.cells #[.int .i64 0] 3)
  have R := rowOf (w.alloc (.cells #[.slice a n c, .int .i64 res] 42)) #[.int .i64 0] 3
  simp only [World.size_alloc] at R
  replace R := R.congr (g := fun _ => .int .i64 0) (fun i hi => by
    obtain rfl : i = 0 := by simpa using hi
    rfl)
  have h' := ((h.lt.k K0).k K1)
  have HR := Lib.hid R
  clear R
  by_cases hl : nSs ss ≤ 600
  · have V := Lib.hid (stepsL_yes hl)
    have V2 : Hid (decide (0 + (nSs ss : Int) ≤ 600) = true) := decide_eq_true (by omega)
    have hl2 : 0 + (nSs ss : Int) ≤ 600 := by omega
    go_enter Try.func26, Try.ntmps26
    go_wp2_with fail
    refine (implCountSteps_n _ ss res (Nat.lt_succ_self _) _ _ _ (w.heap.size + 1) _ 0 _ h' (by omega) HR.out (by omega) (by omega)).mono ?_
    rw [V2.out]
    rintro e w1 ⟨rfl, hr, p1⟩
    have v0 := (hr hl2).cell (i := 0) (by omega)
    clear hr
    go_wp2_with fail
    exact fin_ hQ ⟨ret_i (by simp [V.out]), (K0.trans K1).then_ p1 (fun q hq e => by omega)⟩
  · have V := Lib.hid (stepsL_no hl)
    have V2 : Hid (decide (0 + (nSs ss : Int) ≤ 600) = false) := decide_eq_false (by omega)
    clear hl
    go_enter Try.func26, Try.ntmps26
    go_wp2_with fail
    refine (implCountSteps_n _ ss res (Nat.lt_succ_self _) _ _ _ (w.heap.size + 1) _ 0 _ h' (by omega) HR.out (by omega) (by omega)).mono ?_
    rw [V2.out]
    rintro e w1 ⟨rfl, _, p1⟩
    go_wp2_with fail
    exact fin_ hQ ⟨ret_i V.out.symm, (K0.trans K1).then_ p1 (fun q hq e => by omega)⟩
end Go.Proofs.Ytpebcclabaennaa
