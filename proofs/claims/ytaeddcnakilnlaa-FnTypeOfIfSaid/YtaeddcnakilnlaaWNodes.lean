/- The nodes of an expression, counted by the reference and by the program. -/
import Derived.Test.YtaeddcnakilnlaaMGA
namespace Go.Proofs.Ytaeddcnakilnlaa
open Go.RowKit

/-- What is left of left, behind s; -1 if it is not enough. -/
def lft (s : Nat) (left : Int) : Int := if (s : Int) ≤ left then left - (s : Int) else -1
theorem lft_yes {s : Nat} {left : Int} (h : (s : Int) ≤ left) : lft s left = left - (s : Int) := if_pos h
theorem lft_no {s : Nat} {left : Int} (h : left < (s : Int)) : lft s left = -1 := if_neg (by omega)

set_option maxHeartbeats 1000000 in
theorem specNodesLeft_n (N : Nat) : ∀ (op num : Int) (es : List ExprL), nEs es < N → ∀ (a : Option Addr) (n c : Nat) (D : Nat → Prop) (left : Int) (w : World), Rd w D (encExprs es) (.slice a n c) → 0 ≤ left → left ≤ 1048576 →
    Calls Try.prog 122 #[.agg #[.int .i64 op, .int .i64 num, .slice a n c], .int .i64 left] w fun e w' => e = .returned (.int .i64 (lft (nEs es + 1) left)) ∧ Keep w w' := by
  induction N with
  | zero => intro _ _ es h; omega
  | succ N ihN =>
  intro op num es hN a n c D left w h h0 h1
  refine calls_k fun Q hQ => ?_
  obtain ⟨e1, hnc, hm, hat⟩ := exprs_at h
  have HL := Lib.hid e1
  have HA := Lib.hid hat
  have IH := Lib.hid (fun (j : Nat) (hj : j < es.length) => ihN (eAt es j).op (eAt es j).num (eAt es j).kids (by have := nE_le es hj; have := nE_eq (eAt es j); omega))
  clear e1 hat ihN hN
  have K0 := Keep.al w (.cells #[.int .i64 op, .int .i64 num, .slice a n c] 53)
  by_cases hl : left < 1
  · have V := Lib.hid (lft_no (s := nEs es + 1) (left := left) (by omega))
    go_enter Try.func122, Try.ntmps122
    go_wp2
    exact fin_ hQ ⟨ret_i V.out.symm, K0⟩
  go_enter Try.func122, Try.ntmps122
  go_wp2
  go_loopw [1, 5] (fun lv iv wr => ∃ j : Nat, j ≤ n ∧ iv = .int .i64 j ∧ lv = .int .i64 (left - 1 - (nEs (es.take j) : Int)) ∧ (nEs (es.take j) : Int) ≤ left - 1 ∧ Keep (w.alloc (.cells #[.int .i64 op, .int .i64 num, .slice a n c] 53)) wr) (fun _ i _ => n - (intOf i).toNat)
  case atStart => exact ⟨0, Nat.zero_le _, rfl, by simp [nEs], by simp only [List.take_zero, nEs]; omega, Ext.refl _ _⟩
  case round =>
    obtain ⟨j, hj, rfl, rfl, hsz, hK⟩ := hrel
    have x2 := boxk hK 2
    simp at x2
    by_cases hlt : j < n
    · have hst := nEs_take es (j := j) (by have := HL.out; omega)
      have hee := nE_eq (eAt es j)
      obtain ⟨b, o, rfl, hd, a2, n2, c2, d0, d1, d2, r2⟩ := HA.out j hlt
      have hKw := K0.trans hK
      have g0 := (hKw.cell (World.block_lt_of_cell? w _ d0) (fun h => h)).trans d0
      have g1 := (hKw.cell (World.block_lt_of_cell? w _ d1) (fun h => h)).trans d1
      have g2 := (hKw.cell (World.block_lt_of_cell? w _ d2) (fun h => h)).trans d2
      have q2 := r2.k hKw
      have t0 : 0 ≤ left - 1 - (nEs (es.take j) : Int) := by omega
      have HS := Lib.hid hst
      have HE := Lib.hid hee
      clear d0 d1 d2 r2 hst hee
      by_cases hf : (nEs (es.take (j + 1)) : Int) ≤ left - 1
      · have V : Hid (lft (nEs (eAt es j).kids + 1) (left - 1 - (nEs (es.take j) : Int)) = left - 1 - (nEs (es.take (j + 1)) : Int)) := by
          show _ = _
          have := HS.out; have := HE.out
          rw [lft_yes (by omega)]; omega
        have t1 : 0 ≤ left - 1 - (nEs (es.take (j + 1)) : Int) := by omega
        go_wp2_with fail
        refine (IH.out j (by have := HL.out; omega) _ _ _ _ _ _ q2 (by omega) (by omega)).mono ?_
        rw [V.out]
        rintro e w1 ⟨rfl, p1⟩
        go_wp2_with fail
        go_roundw
        case rel => exact ⟨j + 1, by omega, by go_num, rfl, by omega, hK.trans p1⟩
        case measure => simp [intOf]; omega
      · have V : Hid (lft (nEs (eAt es j).kids + 1) (left - 1 - (nEs (es.take j) : Int)) = -1) := by
          have := HS.out; have := HE.out
          exact lft_no (by omega)
        have hle := nEs_take_le es (j + 1)
        have V2 := Lib.hid (lft_no (s := nEs es + 1) (left := left) (by omega))
        go_wp2_with fail
        refine (IH.out j (by have := HL.out; omega) _ _ _ _ _ _ q2 (by omega) (by omega)).mono ?_
        rw [V.out]
        rintro e w1 ⟨rfl, p1⟩
        go_wp2_with fail
        exact fin_ hQ ⟨ret_i V2.out.symm, (K0.trans hK).trans p1⟩
    · have HJ : Hid (j = n) := by show _ = _; omega
      go_wp2
      exact fin_ hQ ⟨ret_i (by
        have e := HJ.out
        subst e
        rw [List.take_of_length_le (Nat.le_of_eq HL.out)] at hsz ⊢
        rw [lft_yes (by omega)]; omega), K0.trans hK⟩

theorem specNodesLeft (op num : Int) (es : List ExprL) (a : Option Addr) (n c : Nat) (D : Nat → Prop) (left : Int) (w : World) (h : Rd w D (encExprs es) (.slice a n c)) (h0 : 0 ≤ left) (h1 : left ≤ 1048576) :
    Calls Try.prog 122 #[.agg #[.int .i64 op, .int .i64 num, .slice a n c], .int .i64 left] w fun e w' => e = .returned (.int .i64 (lft (nEs es + 1) left)) ∧ Keep w w' :=
  specNodesLeft_n _ op num es (Nat.lt_succ_self _) a n c D left w h h0 h1

/-- The number of nodes; -1 if there are too many. -/
def nodesL (es : List ExprL) : Int := if nEs es + 1 ≤ 30 then ((nEs es + 1 : Nat) : Int) else -1
theorem nodesL_yes {es : List ExprL} (h : nEs es + 1 ≤ 30) : nodesL es = ((nEs es + 1 : Nat) : Int) := if_pos h
theorem nodesL_no {es : List ExprL} (h : ¬ nEs es + 1 ≤ 30) : nodesL es = -1 := if_neg h

theorem specNodesOf0 (op num : Int) (es : List ExprL) (a : Option Addr) (n c : Nat) (D : Nat → Prop) (w : World) (h : Rd w D (encExprs es) (.slice a n c)) :
    Calls Try.prog 76 #[.agg #[.int .i64 op, .int .i64 num, .slice a n c]] w fun e w' => e = .returned (.int .i64 (nodesL es)) ∧ Keep w w' := by
  refine calls_k fun Q hQ => ?_
  have K0 := Keep.al w (.cells #[.int .i64 op, .int .i64 num, .slice a n c] 53)
  by_cases hl : nEs es + 1 ≤ 30
  · have V := Lib.hid (nodesL_yes hl)
    have V2 := Lib.hid (lft_yes (s := nEs es + 1) (left := 30) (by omega))
    have b1 : 0 ≤ 30 - ((nEs es + 1 : Nat) : Int) := by omega
    generalize hm : nEs es + 1 = m at V V2 b1 hl
    have HM := Lib.hid hm
    clear hm
    go_enter Try.func76, Try.ntmps76
    go_wp2_with fail
    refine (specNodesLeft _ _ _ _ _ _ _ _ _ (h.k K0) (by omega) (by omega)).mono ?_
    rw [HM.out, V2.out]
    rintro e w1 ⟨rfl, p1⟩
    go_wp2_with fail
    exact fin_ hQ ⟨ret_i (by rw [V.out]; omega), K0.trans p1⟩
  · have V := Lib.hid (nodesL_no hl)
    have V2 := Lib.hid (lft_no (s := nEs es + 1) (left := 30) (by omega))
    clear hl
    go_enter Try.func76, Try.ntmps76
    go_wp2_with fail
    refine (specNodesLeft _ _ _ _ _ _ _ _ _ (h.k K0) (by omega) (by omega)).mono ?_
    rw [V2.out]
    rintro e w1 ⟨rfl, p1⟩
    go_wp2_with fail
    exact fin_ hQ ⟨ret_i V.out.symm, K0.trans p1⟩

set_option maxHeartbeats 1000000 in
theorem implCountNodes_n (N : Nat) : ∀ (op num : Int) (es : List ExprL), nEs es < N → ∀ (a : Option Addr) (n c p : Nat) (D : Nat → Prop) (m : Int) (w : World), Rd w D (encExprs es) (.slice a n c) → ¬ D p → w.rowIs p 3 1 (fun _ => .int .i64 m) → 0 ≤ m → m ≤ 30 →
    Calls Try.prog 78 #[.agg #[.int .i64 op, .int .i64 num, .slice a n c], .pointer (some ⟨p, 0, none⟩)] w fun e w' => e = .returned (.bool (decide (m + ((nEs es + 1 : Nat) : Int) ≤ 30))) ∧
      (m + ((nEs es + 1 : Nat) : Int) ≤ 30 → w'.rowIs p 3 1 (fun _ => .int .i64 (m + ((nEs es + 1 : Nat) : Int)))) ∧ Ext (· = p) w w' := by
  induction N with
  | zero => intro _ _ es h; omega
  | succ N ihN =>
  intro op num es hN a n c p D m w h hDp hp h0 h1
  refine calls_k fun Q hQ => ?_
  obtain ⟨e1, hnc, hm, hat⟩ := exprs_at h
  have HL := Lib.hid e1
  have HA := Lib.hid hat
  have IH := Lib.hid (fun (j : Nat) (hj : j < es.length) => ihN (eAt es j).op (eAt es j).num (eAt es j).kids (by have := nE_le es hj; have := nE_eq (eAt es j); omega))
  have hbox : ∀ k, D k → k ≠ p := fun k hk e => hDp (e ▸ hk)
  clear e1 hat ihN hN
  have hpl := hp.lt
  have v0 := hp.cell (i := 0) (by omega)
  have f0 := hp.frozen 0
  have X0 : Ext (· = p) w ((w.setCell ⟨p, 0, none⟩ (.int .i64 (m + 1))).alloc (.cells #[.int .i64 op, .int .i64 num, .slice a n c] 53)) := ((Ext.refl (· = p) w).setCell (p := ⟨p, 0, none⟩) (.inr rfl) _).alloc _
  have R0 : ((w.setCell ⟨p, 0, none⟩ (.int .i64 (m + 1))).alloc (.cells #[.int .i64 op, .int .i64 num, .slice a n c] 53)).rowIs p 3 1 (fun _ => .int .i64 (m + 1)) :=
    ((hp.set 0 (.int .i64 (m + 1))).alloc _).congr (fun i hi => by rw [if_pos (by omega)])
  have HR0 := Lib.hid R0
  have HX0 := Lib.hid X0
  have Hh := Lib.hid h
  clear hp X0 R0 h
  by_cases hm30 : 30 < m + 1
  · go_enter Try.func78, Try.ntmps78
    go_wp2
    exact fin_ hQ ⟨ret_b (decide_eq_false (by omega)).symm, fun h => by omega, HX0.out⟩
  go_enter Try.func78, Try.ntmps78
  go_wp2
  go_loopw [19] (fun iv wr => ∃ j : Nat, j ≤ n ∧ iv = .int .i64 j ∧ Hid (wr.rowIs p 3 1 (fun _ => .int .i64 (m + 1 + (nEs (es.take j) : Int)))) ∧ m + 1 + (nEs (es.take j) : Int) ≤ 30 ∧ Ext (· = p) w wr) (fun i _ => n - (intOf i).toNat)
  case atStart => exact ⟨0, Nat.zero_le _, rfl, by show World.rowIs _ _ _ _ _; simpa [nEs] using HR0.out, by simp only [List.take_zero, nEs]; omega, HX0.out⟩
  case round =>
    obtain ⟨j, hj, rfl, hR, hsz, hX⟩ := hrel
    by_cases hlt : j < n
    · have hst := nEs_take es (j := j) (by have := HL.out; omega)
      have hee := nE_eq (eAt es j)
      obtain ⟨b, o, rfl, hd, a2, n2, c2, d0, d1, d2, r2⟩ := HA.out j hlt
      have g0 := (hX.cell (World.block_lt_of_cell? w _ d0) (hbox _ hd)).trans d0
      have g1 := (hX.cell (World.block_lt_of_cell? w _ d1) (hbox _ hd)).trans d1
      have g2 := (hX.cell (World.block_lt_of_cell? w _ d2) (hbox _ hd)).trans d2
      have q2 := (r2.ext hX (fun k hk => hbox k hk)).k (Keep.al wr (.cells #[.int .i64 (eAt es j).op, .int .i64 (eAt es j).num, .slice a2 n2 c2] 53))
      have hR2 := Lib.hid (hR.out.alloc (.cells #[.int .i64 (eAt es j).op, .int .i64 (eAt es j).num, .slice a2 n2 c2] 53))
      have hX2 : Ext (· = p) w (wr.alloc (.cells #[.int .i64 (eAt es j).op, .int .i64 (eAt es j).num, .slice a2 n2 c2] 53)) := hX.trans (Keep.to (Keep.al _ _))
      have HS := Lib.hid hst
      have HE := Lib.hid hee
      clear d0 d1 d2 r2 hst hee hR hX
      by_cases hf : m + 1 + (nEs (es.take (j + 1)) : Int) ≤ 30
      · have V : Hid (decide (m + 1 + (nEs (es.take j) : Int) + ((nEs (eAt es j).kids + 1 : Nat) : Int) ≤ 30) = true) := by
          have := HS.out; have := HE.out
          exact decide_eq_true (by omega)
        go_wp2_with fail
        refine (IH.out j (by have := HL.out; omega) _ _ _ p D _ _ q2 hDp hR2.out (by omega) hsz).mono ?_
        rw [V.out]
        rintro e w1 ⟨rfl, hr1, p1⟩
        have HR1 : Hid (w1.rowIs p 3 1 (fun _ => .int .i64 (m + 1 + (nEs (es.take (j + 1)) : Int)))) := by
          have := HS.out; have := HE.out
          show World.rowIs _ _ _ _ _
          rw [show m + 1 + (nEs (es.take (j + 1)) : Int) = m + 1 + (nEs (es.take j) : Int) + ((nEs (eAt es j).kids + 1 : Nat) : Int) by omega]
          exact hr1 (by omega)
        clear hr1
        go_wp2_with fail
        go_roundw
        case rel => exact ⟨j + 1, by omega, by go_num, HR1, hf, hX2.trans p1⟩
        case measure => simp [intOf]; omega
      · have V : Hid (decide (m + 1 + (nEs (es.take j) : Int) + ((nEs (eAt es j).kids + 1 : Nat) : Int) ≤ 30) = false) := by
          have := HS.out; have := HE.out
          exact decide_eq_false (by omega)
        have hle := nEs_take_le es (j + 1)
        have V2 : ¬ m + ((nEs es + 1 : Nat) : Int) ≤ 30 := by omega
        have V3 := Lib.hid (decide_eq_false V2)
        go_wp2_with fail
        refine (IH.out j (by have := HL.out; omega) _ _ _ p D _ _ q2 hDp hR2.out (by omega) hsz).mono ?_
        rw [V.out]
        rintro e w1 ⟨rfl, _, p1⟩
        go_wp2_with fail
        exact fin_ hQ ⟨ret_b V3.out.symm, fun h => by omega, hX2.trans p1⟩
    · have HJ : Hid (j = n) := by show _ = _; omega
      have hfin : m + ((nEs es + 1 : Nat) : Int) = m + 1 + (nEs (es.take j) : Int) := by
        have e := HJ.out
        subst e
        rw [List.take_of_length_le (Nat.le_of_eq HL.out)]
        omega
      have HF := Lib.hid hfin
      clear hfin
      go_wp2
      exact fin_ hQ ⟨ret_b (decide_eq_true (by rw [HF.out]; exact hsz)).symm, fun _ => by rw [HF.out]; exact hR.out, hX⟩

theorem implNodesOf (op num : Int) (es : List ExprL) (a : Option Addr) (n c : Nat) (D : Nat → Prop) (w : World) (h : Rd w D (encExprs es) (.slice a n c)) :
    Calls Try.prog 26 #[.agg #[.int .i64 op, .int .i64 num, .slice a n c]] w fun e w' => e = .returned (.int .i64 (nodesL es)) ∧ Keep w w' := by
  refine calls_k fun Q hQ => ?_
  have K0 := Keep.al w (.cells #[.int .i64 op, .int .i64 num, .slice a n c] 53)
  have K1 := Keep.al (w.alloc (.cells #[.int .i64 op, .int .i64 num, .slice a n c] 53)) (.cells #[.int .i64 0] 3)
  have R := rowOf (w.alloc (.cells #[.int .i64 op, .int .i64 num, .slice a n c] 53)) #[.int .i64 0] 3
  simp only [World.size_alloc] at R
  replace R := R.congr (g := fun _ => .int .i64 0) (fun i hi => by
    obtain rfl : i = 0 := by simpa using hi
    rfl)
  have h' := ((h.lt.k K0).k K1)
  have HR := Lib.hid R
  clear R
  by_cases hl : nEs es + 1 ≤ 30
  · have V := Lib.hid (nodesL_yes hl)
    have V2 : Hid (decide (0 + ((nEs es + 1 : Nat) : Int) ≤ 30) = true) := decide_eq_true (by omega)
    have hl2 : 0 + ((nEs es + 1 : Nat) : Int) ≤ 30 := by omega
    go_enter Try.func26, Try.ntmps26
    go_wp2_with fail
    refine (implCountNodes_n _ op num es (Nat.lt_succ_self _) _ _ _ (w.heap.size + 1) _ 0 _ h' (by omega) HR.out (by omega) (by omega)).mono ?_
    rw [V2.out]
    rintro e w1 ⟨rfl, hr, p1⟩
    have v0 := (hr hl2).cell (i := 0) (by omega)
    clear hr
    go_wp2_with fail
    exact fin_ hQ ⟨ret_i (by rw [V.out]; omega), (K0.trans K1).then_ p1 (fun q hq e => by omega)⟩
  · have V := Lib.hid (nodesL_no hl)
    have V2 : Hid (decide (0 + ((nEs es + 1 : Nat) : Int) ≤ 30) = false) := decide_eq_false (by omega)
    clear hl
    go_enter Try.func26, Try.ntmps26
    go_wp2_with fail
    refine (implCountNodes_n _ op num es (Nat.lt_succ_self _) _ _ _ (w.heap.size + 1) _ 0 _ h' (by omega) HR.out (by omega) (by omega)).mono ?_
    rw [V2.out]
    rintro e w1 ⟨rfl, _, p1⟩
    go_wp2_with fail
    exact fin_ hQ ⟨ret_i V.out.symm, (K0.trans K1).then_ p1 (fun q hq e => by omega)⟩
end Go.Proofs.Ytaeddcnakilnlaa
