/- The laws' own helpers: the sizes of data. -/
import Derived.Test.YtkapldpmjkdmcaaGreatTAB
import Derived.StillTailTactics
import Derived.IntWalk
import Derived.Test.YtkapldpmjkdmcaaGreatTAC
namespace Go.Proofs.YtkapldpmjkdmcaaGreat
open Go.RowKit


/-- What is left of left, behind s. -/
def szo (s : Nat) (left : Int) : Int := if (s : Int) ≤ left then left - (s : Int) else -1
theorem szo_yes {s : Nat} {left : Int} (h : (s : Int) ≤ left) : szo s left = left - (s : Int) := if_pos h
theorem szo_no {s : Nat} {left : Int} (h : left < (s : Int)) : szo s left = -1 := if_neg (by omega)
def SzC (f : FuncId) (d : Dat) : Prop := ∀ (a : Option Addr) (n c : Nat) (D : Nat → Prop) (w : World) (left : Int), Rd w D d (.slice a n c) → 0 ≤ left → left ≤ 1048576 →
  Calls Tryz.prog f #[.slice a n c, .int .i64 left] w fun e w' => e = .returned (.int .i64 (szo (szD d) left)) ∧ Keep w w'
theorem szRR_ints (xs : List Int) : szRR (xs.map rowI) = 0 := by induction xs <;> simp_all [szRR, szR, rowI, szD]


theorem szIntS (xs : List Int) : SzC 124 (encInts xs) := by
  intro a n c D w left h h0 h1
  refine calls_k fun Q hQ => ?_
  obtain ⟨e1, hnc, hm, _⟩ := ints_at h
  have e2 : szD (encInts xs) = n := by rw [encInts, szD, szRR_ints, List.length_map]; omega
  rw [e2] at hQ
  clear e1 e2
  by_cases hl : (n : Int) ≤ left
  · have V := Lib.hid (szo_yes hl)
    go_enter Tryz.func124, Tryz.ntmps124
    go_wp2_with fail
    exact fin_ hQ ⟨ret_i V.out.symm, Ext.refl _ _⟩
  · have V := Lib.hid (szo_no (s := n) (left := left) (by omega))
    have t : left - (n : Int) < 0 := by omega
    go_enter Tryz.func124, Tryz.ntmps124
    go_wp2_with fail
    exact fin_ hQ ⟨ret_i V.out.symm, Ext.refl _ _⟩

theorem szCon (D : Nat → Prop) (w : World) (left : Int) (a0 : Option Addr) (n0 c0 : Nat) (d0 : Dat) (r0 : Rd w D d0 (.slice a0 n0 c0)) (k0 : SzC 124 d0) (h0 : 0 ≤ left) (h1 : left ≤ 1048576) :
    Calls Tryz.prog 179 #[.agg #[.slice a0 n0 c0], .int .i64 left] w fun e w' => e = .returned (.int .i64 (szo (szD d0) left)) ∧ Keep w w' := by
  refine calls_k fun Q hQ => ?_
  by_cases y0 : ((szD d0 : Nat) : Int) ≤ left
  case neg =>
    go_enter Tryz.func179, Tryz.ntmps179
    have kb : Keep w (w.alloc (.cells #[.slice a0 n0 c0] 224)) := Keep.al _ _
    have q0 := r0.k kb
    have V0 : Hid (szo (szD d0) (left) = -1) := szo_no (by omega)
    go_wp2_with fail
    refine (k0 _ _ _ _ _ _ q0 (by omega) (by omega)).mono ?_
    rw [V0.out]
    rintro e w1 ⟨rfl, p0⟩
    replace kb := kb.trans p0
    replace q0 := q0.k p0
    go_wp2_with fail
    exact fin_ hQ ⟨ret_i (szo_no (by omega)).symm, kb⟩
  go_enter Tryz.func179, Tryz.ntmps179
  have kb : Keep w (w.alloc (.cells #[.slice a0 n0 c0] 224)) := Keep.al _ _
  have q0 := r0.k kb
  have V0 : Hid (szo (szD d0) (left) = left - ((szD d0 : Int))) := by show _ = _; rw [szo_yes (by omega)] <;> omega
  go_wp2_with fail
  refine (k0 _ _ _ _ _ _ q0 (by omega) (by omega)).mono ?_
  rw [V0.out]
  rintro e w1 ⟨rfl, p0⟩
  replace kb := kb.trans p0
  replace q0 := q0.k p0
  have t0 : 0 ≤ left - ((szD d0 : Int)) := by omega
  go_wp2_with fail
  exact fin_ hQ ⟨ret_i (szo_yes (by omega)).symm, kb⟩

set_option maxHeartbeats 1000000 in
theorem szConS (xs : List (List Int)) : SzC 123 (encCons xs) := by
  intro a n c D w left h h0 h1
  refine calls_k fun Q hQ => ?_
  obtain ⟨e1, hnc, hm, hat⟩ := cons_at h
  have HL := Lib.hid e1
  have hrl : (xs.map rowC).length = n := by rw [cons_len]; exact e1
  have e2 : szD (encCons xs) = n + szRR (xs.map rowC) := by rw [encCons, szD, hrl]
  rw [e2] at hQ
  have HA := Lib.hid hat
  clear hat e1 e2
  by_cases hl : (n : Int) ≤ left
  case neg =>
    have V := Lib.hid (szo_no (s := n + szRR (xs.map rowC)) (left := left) (by omega))
    have t : left - (n : Int) < 0 := by omega
    go_enter Tryz.func123, Tryz.ntmps123
    go_wp2_with fail
    exact fin_ hQ ⟨ret_i V.out.symm, Ext.refl _ _⟩
  have HRL := Lib.hid hrl
  clear hrl
  go_enter Tryz.func123, Tryz.ntmps123
  go_wp2_with fail
  go_loopw [1, 5] (fun lv iv wr => ∃ j : Nat, j ≤ n ∧ iv = .int .i64 j ∧ lv = .int .i64 (left - (n : Int) - (szRR ((xs.map rowC).take j) : Int)) ∧ (szRR ((xs.map rowC).take j) : Int) ≤ left - (n : Int) ∧ Keep w wr) (fun _ i _ => n - (intOf i).toNat)
  case atStart => exact ⟨0, Nat.zero_le _, rfl, by simp [szRR], by simp only [List.take_zero, szRR]; omega, Ext.refl _ _⟩
  case round =>
    obtain ⟨j, hj, rfl, rfl, hsz, hK⟩ := hrel
    by_cases hlt : j < n
    · have hst := szRR_take (xs.map rowC) j (by have := HRL.out; omega)
      rw [cons_row xs j (by have := HL.out; omega)] at hst
      simp only [szR, Nat.add_zero] at hst
      have htl := szRR_take_le (xs.map rowC) (j + 1)
      obtain ⟨b, o, rfl, hd, a0, n0, c0, d0, r0⟩ := HA.out j hlt
      have g0 := (hK.cell (World.block_lt_of_cell? w _ d0) (fun h => h)).trans d0
      have q0 := r0.k hK
      clear d0
      replace hst : szRR ((xs.map rowC).take (j + 1)) = szRR ((xs.map rowC).take j) + (szD (encInts (cAt xs j))) := by rw [hst]
      generalize hS : szD (encInts (cAt xs j)) = S at hst
      have HS := Lib.hid hS
      clear hS
      have t0 : 0 ≤ left - (n : Int) - (szRR ((xs.map rowC).take j) : Int) := by omega
      by_cases hf : (S : Int) ≤ left - (n : Int) - (szRR ((xs.map rowC).take j) : Int)
      · have V : Hid (szo S (left - (n : Int) - (szRR ((xs.map rowC).take j) : Int)) = left - (n : Int) - (szRR ((xs.map rowC).take (j + 1)) : Int)) := by show _ = _; rw [szo_yes hf]; omega
        have t1 : 0 ≤ left - (n : Int) - (szRR ((xs.map rowC).take (j + 1)) : Int) := by omega
        go_wp2_with fail
        refine (szCon _ _ _ _ _ _ _ q0 (szIntS _) (by omega) (by omega)).mono ?_
        rw [HS.out, V.out]
        rintro e w1 ⟨rfl, p1⟩
        go_wp2_with fail
        go_roundw
        case rel => exact ⟨j + 1, by omega, by go_num, by rw [hst, Int.natCast_add], by omega, hK.trans p1⟩
        case measure => simp [intOf]; omega
      · have V : Hid (szo S (left - (n : Int) - (szRR ((xs.map rowC).take j) : Int)) = -1) := szo_no (by omega)
        go_wp2_with fail
        refine (szCon _ _ _ _ _ _ _ q0 (szIntS _) (by omega) (by omega)).mono ?_
        rw [HS.out, V.out]
        rintro e w1 ⟨rfl, p1⟩
        go_wp2_with fail
        exact fin_ hQ ⟨ret_i (szo_no (by omega)).symm, hK.trans p1⟩
    · have HJ : Hid (j = n) := by show _ = _; omega
      go_wp2
      exact fin_ hQ ⟨ret_i (by rw [HJ.out, List.take_of_length_le (Nat.le_of_eq HRL.out)]; have e := HJ.out; subst e; rw [List.take_of_length_le (Nat.le_of_eq HRL.out)] at hsz; rw [szo_yes (by omega)]; omega), hK⟩

theorem szDecl (D : Nat → Prop) (w : World) (left : Int) (z0 : Int) (z1 : Int) (a2 : Option Addr) (n2 c2 : Nat) (d2 : Dat) (r2 : Rd w D d2 (.slice a2 n2 c2)) (k2 : SzC 123 d2) (h0 : 0 ≤ left) (h1 : left ≤ 1048576) :
    Calls Tryz.prog 74 #[.agg #[.int .i64 z0, .int .i64 z1, .slice a2 n2 c2], .int .i64 left] w fun e w' => e = .returned (.int .i64 (szo (szD d2) left)) ∧ Keep w w' := by
  refine calls_k fun Q hQ => ?_
  by_cases y0 : ((szD d2 : Nat) : Int) ≤ left
  case neg =>
    go_enter Tryz.func74, Tryz.ntmps74
    have kb : Keep w (w.alloc (.cells #[.int .i64 z0, .int .i64 z1, .slice a2 n2 c2] 114)) := Keep.al _ _
    have q2 := r2.k kb
    have V0 : Hid (szo (szD d2) (left) = -1) := szo_no (by omega)
    go_wp2_with fail
    refine (k2 _ _ _ _ _ _ q2 (by omega) (by omega)).mono ?_
    rw [V0.out]
    rintro e w1 ⟨rfl, p0⟩
    replace kb := kb.trans p0
    replace q2 := q2.k p0
    go_wp2_with fail
    exact fin_ hQ ⟨ret_i (szo_no (by omega)).symm, kb⟩
  go_enter Tryz.func74, Tryz.ntmps74
  have kb : Keep w (w.alloc (.cells #[.int .i64 z0, .int .i64 z1, .slice a2 n2 c2] 114)) := Keep.al _ _
  have q2 := r2.k kb
  have V0 : Hid (szo (szD d2) (left) = left - ((szD d2 : Int))) := by show _ = _; rw [szo_yes (by omega)] <;> omega
  go_wp2_with fail
  refine (k2 _ _ _ _ _ _ q2 (by omega) (by omega)).mono ?_
  rw [V0.out]
  rintro e w1 ⟨rfl, p0⟩
  replace kb := kb.trans p0
  replace q2 := q2.k p0
  have t0 : 0 ≤ left - ((szD d2 : Int)) := by omega
  go_wp2_with fail
  exact fin_ hQ ⟨ret_i (szo_yes (by omega)).symm, kb⟩

set_option maxHeartbeats 1000000 in
theorem szDeclS (xs : List DeclL) : SzC 32 (encDecls xs) := by
  intro a n c D w left h h0 h1
  refine calls_k fun Q hQ => ?_
  obtain ⟨e1, hnc, hm, hat⟩ := decls_at h
  have HL := Lib.hid e1
  have hrl : (xs.map rowD).length = n := by rw [decls_len]; exact e1
  have e2 : szD (encDecls xs) = n + szRR (xs.map rowD) := by rw [encDecls, szD, hrl]
  rw [e2] at hQ
  have HA := Lib.hid hat
  clear hat e1 e2
  by_cases hl : (n : Int) ≤ left
  case neg =>
    have V := Lib.hid (szo_no (s := n + szRR (xs.map rowD)) (left := left) (by omega))
    have t : left - (n : Int) < 0 := by omega
    go_enter Tryz.func32, Tryz.ntmps32
    go_wp2_with fail
    exact fin_ hQ ⟨ret_i V.out.symm, Ext.refl _ _⟩
  have HRL := Lib.hid hrl
  clear hrl
  go_enter Tryz.func32, Tryz.ntmps32
  go_wp2_with fail
  go_loopw [1, 5] (fun lv iv wr => ∃ j : Nat, j ≤ n ∧ iv = .int .i64 j ∧ lv = .int .i64 (left - (n : Int) - (szRR ((xs.map rowD).take j) : Int)) ∧ (szRR ((xs.map rowD).take j) : Int) ≤ left - (n : Int) ∧ Keep w wr) (fun _ i _ => n - (intOf i).toNat)
  case atStart => exact ⟨0, Nat.zero_le _, rfl, by simp [szRR], by simp only [List.take_zero, szRR]; omega, Ext.refl _ _⟩
  case round =>
    obtain ⟨j, hj, rfl, rfl, hsz, hK⟩ := hrel
    by_cases hlt : j < n
    · have hst := szRR_take (xs.map rowD) j (by have := HRL.out; omega)
      rw [decls_row xs j (by have := HL.out; omega)] at hst
      simp only [szR, szD, Nat.zero_add, Nat.add_zero] at hst
      have htl := szRR_take_le (xs.map rowD) (j + 1)
      obtain ⟨b, o, rfl, hd, a2, n2, c2, d0, d1, d2, r2⟩ := HA.out j hlt
      have g0 := (hK.cell (World.block_lt_of_cell? w _ d0) (fun h => h)).trans d0
      have g1 := (hK.cell (World.block_lt_of_cell? w _ d1) (fun h => h)).trans d1
      have g2 := (hK.cell (World.block_lt_of_cell? w _ d2) (fun h => h)).trans d2
      have q2 := r2.k hK
      clear d0 d1 d2
      replace hst : szRR ((xs.map rowD).take (j + 1)) = szRR ((xs.map rowD).take j) + (szD (encCons ((dAt xs j).cons))) := by rw [hst]
      generalize hS : szD (encCons ((dAt xs j).cons)) = S at hst
      have HS := Lib.hid hS
      clear hS
      have t0 : 0 ≤ left - (n : Int) - (szRR ((xs.map rowD).take j) : Int) := by omega
      by_cases hf : (S : Int) ≤ left - (n : Int) - (szRR ((xs.map rowD).take j) : Int)
      · have V : Hid (szo S (left - (n : Int) - (szRR ((xs.map rowD).take j) : Int)) = left - (n : Int) - (szRR ((xs.map rowD).take (j + 1)) : Int)) := by show _ = _; rw [szo_yes hf]; omega
        have t1 : 0 ≤ left - (n : Int) - (szRR ((xs.map rowD).take (j + 1)) : Int) := by omega
        go_wp2_with fail
        refine (szDecl _ _ _ _ _ _ _ _ _ q2 (szConS _) (by omega) (by omega)).mono ?_
        rw [HS.out, V.out]
        rintro e w1 ⟨rfl, p1⟩
        go_wp2_with fail
        go_roundw
        case rel => exact ⟨j + 1, by omega, by go_num, by rw [hst, Int.natCast_add], by omega, hK.trans p1⟩
        case measure => simp [intOf]; omega
      · have V : Hid (szo S (left - (n : Int) - (szRR ((xs.map rowD).take j) : Int)) = -1) := szo_no (by omega)
        go_wp2_with fail
        refine (szDecl _ _ _ _ _ _ _ _ _ q2 (szConS _) (by omega) (by omega)).mono ?_
        rw [HS.out, V.out]
        rintro e w1 ⟨rfl, p1⟩
        go_wp2_with fail
        exact fin_ hQ ⟨ret_i (szo_no (by omega)).symm, hK.trans p1⟩
    · have HJ : Hid (j = n) := by show _ = _; omega
      go_wp2
      exact fin_ hQ ⟨ret_i (by rw [HJ.out, List.take_of_length_le (Nat.le_of_eq HRL.out)]; have e := HJ.out; subst e; rw [List.take_of_length_le (Nat.le_of_eq HRL.out)] at hsz; rw [szo_yes (by omega)]; omega), hK⟩

theorem szStep (D : Nat → Prop) (w : World) (left : Int) (z0 : Int) (z1 : Int) (z2 : Int) (a3 : Option Addr) (n3 c3 : Nat) (d3 : Dat) (a4 : Option Addr) (n4 c4 : Nat) (d4 : Dat) (r3 : Rd w D d3 (.slice a3 n3 c3)) (r4 : Rd w D d4 (.slice a4 n4 c4)) (k3 : SzC 124 d3) (k4 : SzC 231 d4) (h0 : 0 ≤ left) (h1 : left ≤ 1048576) :
    Calls Tryz.prog 222 #[.agg #[.int .i64 z0, .int .i64 z1, .int .i64 z2, .slice a3 n3 c3, .slice a4 n4 c4], .int .i64 left] w fun e w' => e = .returned (.int .i64 (szo (szD d3 + szD d4) left)) ∧ Keep w w' := by
  refine calls_k fun Q hQ => ?_
  by_cases y0 : ((szD d3 : Nat) : Int) ≤ left
  case neg =>
    go_enter Tryz.func222, Tryz.ntmps222
    have kb : Keep w (w.alloc (.cells #[.int .i64 z0, .int .i64 z1, .int .i64 z2, .slice a3 n3 c3, .slice a4 n4 c4] 256)) := Keep.al _ _
    have q3 := r3.k kb
    have q4 := r4.k kb
    have V0 : Hid (szo (szD d3) (left) = -1) := szo_no (by omega)
    go_wp2_with fail
    refine (k3 _ _ _ _ _ _ q3 (by omega) (by omega)).mono ?_
    rw [V0.out]
    rintro e w1 ⟨rfl, p0⟩
    replace kb := kb.trans p0
    replace q3 := q3.k p0
    replace q4 := q4.k p0
    go_wp2_with fail
    exact fin_ hQ ⟨ret_i (szo_no (by omega)).symm, kb⟩
  by_cases y1 : ((szD d3 + szD d4 : Nat) : Int) ≤ left
  case neg =>
    go_enter Tryz.func222, Tryz.ntmps222
    have kb : Keep w (w.alloc (.cells #[.int .i64 z0, .int .i64 z1, .int .i64 z2, .slice a3 n3 c3, .slice a4 n4 c4] 256)) := Keep.al _ _
    have bk : Keep (w.alloc (.cells #[.int .i64 z0, .int .i64 z1, .int .i64 z2, .slice a3 n3 c3, .slice a4 n4 c4] 256)) (w.alloc (.cells #[.int .i64 z0, .int .i64 z1, .int .i64 z2, .slice a3 n3 c3, .slice a4 n4 c4] 256)) := Ext.refl _ _
    have q3 := r3.k kb
    have q4 := r4.k kb
    have V0 : Hid (szo (szD d3) (left) = left - ((szD d3 : Int))) := by show _ = _; rw [szo_yes (by omega)] <;> omega
    go_wp2_with fail
    refine (k3 _ _ _ _ _ _ q3 (by omega) (by omega)).mono ?_
    rw [V0.out]
    rintro e w1 ⟨rfl, p0⟩
    replace kb := kb.trans p0
    replace bk := bk.trans p0
    replace q3 := q3.k p0
    replace q4 := q4.k p0
    have t0 : 0 ≤ left - ((szD d3 : Int)) := by omega
    have V1 : Hid (szo (szD d4) (left - ((szD d3 : Int))) = -1) := szo_no (by omega)
    have x0 := boxk bk 0
    have x1 := boxk bk 1
    have x2 := boxk bk 2
    have x3 := boxk bk 3
    have x4 := boxk bk 4
    simp at x0 x1 x2 x3 x4
    go_wp2_with fail
    clear x0 x1 x2 x3 x4
    refine (k4 _ _ _ _ _ _ q4 (by omega) (by omega)).mono ?_
    rw [V1.out]
    rintro e w2 ⟨rfl, p1⟩
    replace kb := kb.trans p1
    replace bk := bk.trans p1
    replace q3 := q3.k p1
    replace q4 := q4.k p1
    go_wp2_with fail
    exact fin_ hQ ⟨ret_i (szo_no (by omega)).symm, kb⟩
  go_enter Tryz.func222, Tryz.ntmps222
  have kb : Keep w (w.alloc (.cells #[.int .i64 z0, .int .i64 z1, .int .i64 z2, .slice a3 n3 c3, .slice a4 n4 c4] 256)) := Keep.al _ _
  have bk : Keep (w.alloc (.cells #[.int .i64 z0, .int .i64 z1, .int .i64 z2, .slice a3 n3 c3, .slice a4 n4 c4] 256)) (w.alloc (.cells #[.int .i64 z0, .int .i64 z1, .int .i64 z2, .slice a3 n3 c3, .slice a4 n4 c4] 256)) := Ext.refl _ _
  have q3 := r3.k kb
  have q4 := r4.k kb
  have V0 : Hid (szo (szD d3) (left) = left - ((szD d3 : Int))) := by show _ = _; rw [szo_yes (by omega)] <;> omega
  go_wp2_with fail
  refine (k3 _ _ _ _ _ _ q3 (by omega) (by omega)).mono ?_
  rw [V0.out]
  rintro e w1 ⟨rfl, p0⟩
  replace kb := kb.trans p0
  replace bk := bk.trans p0
  replace q3 := q3.k p0
  replace q4 := q4.k p0
  have t0 : 0 ≤ left - ((szD d3 : Int)) := by omega
  have V1 : Hid (szo (szD d4) (left - ((szD d3 : Int))) = left - ((szD d3 : Int) + (szD d4 : Int))) := by show _ = _; rw [szo_yes (by omega)] <;> omega
  have x0 := boxk bk 0
  have x1 := boxk bk 1
  have x2 := boxk bk 2
  have x3 := boxk bk 3
  have x4 := boxk bk 4
  simp at x0 x1 x2 x3 x4
  go_wp2_with fail
  clear x0 x1 x2 x3 x4
  refine (k4 _ _ _ _ _ _ q4 (by omega) (by omega)).mono ?_
  rw [V1.out]
  rintro e w2 ⟨rfl, p1⟩
  replace kb := kb.trans p1
  replace bk := bk.trans p1
  replace q3 := q3.k p1
  replace q4 := q4.k p1
  have t1 : 0 ≤ left - ((szD d3 : Int) + (szD d4 : Int)) := by omega
  go_wp2_with fail
  exact fin_ hQ ⟨ret_i (szo_yes (by omega)).symm, kb⟩

theorem szBlock (D : Nat → Prop) (w : World) (left : Int) (a0 : Option Addr) (n0 c0 : Nat) (d0 : Dat) (z1 : Int) (r0 : Rd w D d0 (.slice a0 n0 c0)) (k0 : SzC 180 d0) (h0 : 0 ≤ left) (h1 : left ≤ 1048576) :
    Calls Tryz.prog 125 #[.agg #[.slice a0 n0 c0, .int .i64 z1], .int .i64 left] w fun e w' => e = .returned (.int .i64 (szo (szD d0) left)) ∧ Keep w w' := by
  refine calls_k fun Q hQ => ?_
  by_cases y0 : ((szD d0 : Nat) : Int) ≤ left
  case neg =>
    go_enter Tryz.func125, Tryz.ntmps125
    have kb : Keep w (w.alloc (.cells #[.slice a0 n0 c0, .int .i64 z1] 118)) := Keep.al _ _
    have q0 := r0.k kb
    have V0 : Hid (szo (szD d0) (left) = -1) := szo_no (by omega)
    go_wp2_with fail
    refine (k0 _ _ _ _ _ _ q0 (by omega) (by omega)).mono ?_
    rw [V0.out]
    rintro e w1 ⟨rfl, p0⟩
    replace kb := kb.trans p0
    replace q0 := q0.k p0
    go_wp2_with fail
    exact fin_ hQ ⟨ret_i (szo_no (by omega)).symm, kb⟩
  go_enter Tryz.func125, Tryz.ntmps125
  have kb : Keep w (w.alloc (.cells #[.slice a0 n0 c0, .int .i64 z1] 118)) := Keep.al _ _
  have q0 := r0.k kb
  have V0 : Hid (szo (szD d0) (left) = left - ((szD d0 : Int))) := by show _ = _; rw [szo_yes (by omega)] <;> omega
  go_wp2_with fail
  refine (k0 _ _ _ _ _ _ q0 (by omega) (by omega)).mono ?_
  rw [V0.out]
  rintro e w1 ⟨rfl, p0⟩
  replace kb := kb.trans p0
  replace q0 := q0.k p0
  have t0 : 0 ≤ left - ((szD d0 : Int)) := by omega
  go_wp2_with fail
  exact fin_ hQ ⟨ret_i (szo_yes (by omega)).symm, kb⟩

set_option maxHeartbeats 2000000 in
theorem szSB_n (N : Nat) : (∀ xs : List StepL, volD (encSteps xs) < N → SzC 180 (encSteps xs)) ∧ (∀ xs : List BlockL, volD (encBlocks xs) < N → SzC 231 (encBlocks xs)) := by
  induction N with
  | zero => exact ⟨fun xs h => by omega, fun xs h => by omega⟩
  | succ N ihN =>
  obtain ⟨ihS, ihB⟩ := ihN
  refine ⟨?_, ?_⟩
  · intro xs hvol a n c D w left h h0 h1
    have IHStep : ∀ ys : List StepL, volD (encSteps ys) < volD (encSteps xs) → SzC 180 (encSteps ys) := fun ys hy => ihS ys (by omega)
    have IHBlock : ∀ ys : List BlockL, volD (encBlocks ys) < volD (encSteps xs) → SzC 231 (encBlocks ys) := fun ys hy => ihB ys (by omega)
    clear ihS ihB hvol
    refine calls_k fun Q hQ => ?_
    obtain ⟨e1, hnc, hm, hat⟩ := steps_at h
    have HL := Lib.hid e1
    have hrl : (rowsS xs).length = n := by rw [steps_len]; exact e1
    have e2 : szD (encSteps xs) = n + szRR (rowsS xs) := by rw [encSteps, szD, hrl]
    rw [e2] at hQ
    have HA := Lib.hid hat
    clear hat e1 e2
    by_cases hl : (n : Int) ≤ left
    case neg =>
      have V := Lib.hid (szo_no (s := n + szRR (rowsS xs)) (left := left) (by omega))
      have t : left - (n : Int) < 0 := by omega
      go_enter Tryz.func180, Tryz.ntmps180
      go_wp2_with fail
      exact fin_ hQ ⟨ret_i V.out.symm, Ext.refl _ _⟩
    have HRL := Lib.hid hrl
    clear hrl
    go_enter Tryz.func180, Tryz.ntmps180
    go_wp2_with fail
    go_loopw [1, 5] (fun lv iv wr => ∃ j : Nat, j ≤ n ∧ iv = .int .i64 j ∧ lv = .int .i64 (left - (n : Int) - (szRR ((rowsS xs).take j) : Int)) ∧ (szRR ((rowsS xs).take j) : Int) ≤ left - (n : Int) ∧ Keep w wr) (fun _ i _ => n - (intOf i).toNat)
    case atStart => exact ⟨0, Nat.zero_le _, rfl, by simp [szRR], by simp only [List.take_zero, szRR]; omega, Ext.refl _ _⟩
    case round =>
      obtain ⟨j, hj, rfl, rfl, hsz, hK⟩ := hrel
      by_cases hlt : j < n
      · have hst := szRR_take (rowsS xs) j (by have := HRL.out; omega)
        rw [steps_row xs j (by have := HL.out; omega)] at hst
        simp only [szR, szD, Nat.zero_add, Nat.add_zero] at hst
        have htl := szRR_take_le (rowsS xs) (j + 1)
        obtain ⟨b, o, rfl, hd, a3, n3, c3, a4, n4, c4, d0, d1, d2, d3, d4, r3, r4⟩ := HA.out j hlt
        have g0 := (hK.cell (World.block_lt_of_cell? w _ d0) (fun h => h)).trans d0
        have g1 := (hK.cell (World.block_lt_of_cell? w _ d1) (fun h => h)).trans d1
        have g2 := (hK.cell (World.block_lt_of_cell? w _ d2) (fun h => h)).trans d2
        have g3 := (hK.cell (World.block_lt_of_cell? w _ d3) (fun h => h)).trans d3
        have g4 := (hK.cell (World.block_lt_of_cell? w _ d4) (fun h => h)).trans d4
        have q3 := r3.k hK
        have q4 := r4.k hK
        clear d0 d1 d2 d3 d4
        replace hst : szRR ((rowsS xs).take (j + 1)) = szRR ((rowsS xs).take j) + (szD (encInts ((sAt xs j).args)) + szD (encBlocks ((sAt xs j).kids))) := by rw [hst]
        generalize hS : szD (encInts ((sAt xs j).args)) + szD (encBlocks ((sAt xs j).kids)) = S at hst
        have HS := Lib.hid hS
        clear hS
        have t0 : 0 ≤ left - (n : Int) - (szRR ((rowsS xs).take j) : Int) := by omega
        by_cases hf : (S : Int) ≤ left - (n : Int) - (szRR ((rowsS xs).take j) : Int)
        · have V : Hid (szo S (left - (n : Int) - (szRR ((rowsS xs).take j) : Int)) = left - (n : Int) - (szRR ((rowsS xs).take (j + 1)) : Int)) := by show _ = _; rw [szo_yes hf]; omega
          have t1 : 0 ≤ left - (n : Int) - (szRR ((rowsS xs).take (j + 1)) : Int) := by omega
          go_wp2_with fail
          refine (szStep _ _ _ _ _ _ _ _ _ _ _ _ _ _ q3 q4 (szIntS _) (IHBlock _ (by have := vol_lt (s := 5) (rows := (rowsS xs)) (i := j) (j := 4) (by have := HRL.out; omega) (by rw [steps_row xs j (by have := HL.out; omega)]; simp); rw [rAt, steps_row xs j (by have := HL.out; omega)] at this; simp only [dGet, List.getD, List.getElem?_cons_succ, List.getElem?_cons_zero, Option.getD_some] at this; exact this)) (by omega) (by omega)).mono ?_
          rw [HS.out, V.out]
          rintro e w1 ⟨rfl, p1⟩
          go_wp2_with fail
          go_roundw
          case rel => exact ⟨j + 1, by omega, by go_num, by rw [hst, Int.natCast_add], by omega, hK.trans p1⟩
          case measure => simp [intOf]; omega
        · have V : Hid (szo S (left - (n : Int) - (szRR ((rowsS xs).take j) : Int)) = -1) := szo_no (by omega)
          go_wp2_with fail
          refine (szStep _ _ _ _ _ _ _ _ _ _ _ _ _ _ q3 q4 (szIntS _) (IHBlock _ (by have := vol_lt (s := 5) (rows := (rowsS xs)) (i := j) (j := 4) (by have := HRL.out; omega) (by rw [steps_row xs j (by have := HL.out; omega)]; simp); rw [rAt, steps_row xs j (by have := HL.out; omega)] at this; simp only [dGet, List.getD, List.getElem?_cons_succ, List.getElem?_cons_zero, Option.getD_some] at this; exact this)) (by omega) (by omega)).mono ?_
          rw [HS.out, V.out]
          rintro e w1 ⟨rfl, p1⟩
          go_wp2_with fail
          exact fin_ hQ ⟨ret_i (szo_no (by omega)).symm, hK.trans p1⟩
      · have HJ : Hid (j = n) := by show _ = _; omega
        go_wp2
        exact fin_ hQ ⟨ret_i (by rw [HJ.out, List.take_of_length_le (Nat.le_of_eq HRL.out)]; have e := HJ.out; subst e; rw [List.take_of_length_le (Nat.le_of_eq HRL.out)] at hsz; rw [szo_yes (by omega)]; omega), hK⟩
  · intro xs hvol a n c D w left h h0 h1
    have IHStep : ∀ ys : List StepL, volD (encSteps ys) < volD (encBlocks xs) → SzC 180 (encSteps ys) := fun ys hy => ihS ys (by omega)
    have IHBlock : ∀ ys : List BlockL, volD (encBlocks ys) < volD (encBlocks xs) → SzC 231 (encBlocks ys) := fun ys hy => ihB ys (by omega)
    clear ihS ihB hvol
    refine calls_k fun Q hQ => ?_
    obtain ⟨e1, hnc, hm, hat⟩ := blocks_at h
    have HL := Lib.hid e1
    have hrl : (rowsB xs).length = n := by rw [blocks_len]; exact e1
    have e2 : szD (encBlocks xs) = n + szRR (rowsB xs) := by rw [encBlocks, szD, hrl]
    rw [e2] at hQ
    have HA := Lib.hid hat
    clear hat e1 e2
    by_cases hl : (n : Int) ≤ left
    case neg =>
      have V := Lib.hid (szo_no (s := n + szRR (rowsB xs)) (left := left) (by omega))
      have t : left - (n : Int) < 0 := by omega
      go_enter Tryz.func231, Tryz.ntmps231
      go_wp2_with fail
      exact fin_ hQ ⟨ret_i V.out.symm, Ext.refl _ _⟩
    have HRL := Lib.hid hrl
    clear hrl
    go_enter Tryz.func231, Tryz.ntmps231
    go_wp2_with fail
    go_loopw [1, 5] (fun lv iv wr => ∃ j : Nat, j ≤ n ∧ iv = .int .i64 j ∧ lv = .int .i64 (left - (n : Int) - (szRR ((rowsB xs).take j) : Int)) ∧ (szRR ((rowsB xs).take j) : Int) ≤ left - (n : Int) ∧ Keep w wr) (fun _ i _ => n - (intOf i).toNat)
    case atStart => exact ⟨0, Nat.zero_le _, rfl, by simp [szRR], by simp only [List.take_zero, szRR]; omega, Ext.refl _ _⟩
    case round =>
      obtain ⟨j, hj, rfl, rfl, hsz, hK⟩ := hrel
      by_cases hlt : j < n
      · have hst := szRR_take (rowsB xs) j (by have := HRL.out; omega)
        rw [blocks_row xs j (by have := HL.out; omega)] at hst
        simp only [szR, szD, Nat.add_zero] at hst
        have htl := szRR_take_le (rowsB xs) (j + 1)
        obtain ⟨b, o, rfl, hd, a0, n0, c0, d0, d1, r0⟩ := HA.out j hlt
        have g0 := (hK.cell (World.block_lt_of_cell? w _ d0) (fun h => h)).trans d0
        have g1 := (hK.cell (World.block_lt_of_cell? w _ d1) (fun h => h)).trans d1
        have q0 := r0.k hK
        clear d0 d1
        replace hst : szRR ((rowsB xs).take (j + 1)) = szRR ((rowsB xs).take j) + (szD (encSteps ((bAt xs j).steps))) := by rw [hst]
        generalize hS : szD (encSteps ((bAt xs j).steps)) = S at hst
        have HS := Lib.hid hS
        clear hS
        have t0 : 0 ≤ left - (n : Int) - (szRR ((rowsB xs).take j) : Int) := by omega
        by_cases hf : (S : Int) ≤ left - (n : Int) - (szRR ((rowsB xs).take j) : Int)
        · have V : Hid (szo S (left - (n : Int) - (szRR ((rowsB xs).take j) : Int)) = left - (n : Int) - (szRR ((rowsB xs).take (j + 1)) : Int)) := by show _ = _; rw [szo_yes hf]; omega
          have t1 : 0 ≤ left - (n : Int) - (szRR ((rowsB xs).take (j + 1)) : Int) := by omega
          go_wp2_with fail
          refine (szBlock _ _ _ _ _ _ _ _ q0 (IHStep _ (by have := vol_lt (s := 2) (rows := (rowsB xs)) (i := j) (j := 0) (by have := HRL.out; omega) (by rw [blocks_row xs j (by have := HL.out; omega)]; simp); rw [rAt, blocks_row xs j (by have := HL.out; omega)] at this; simp only [dGet, List.getD, List.getElem?_cons_zero, Option.getD_some] at this; exact this)) (by omega) (by omega)).mono ?_
          rw [HS.out, V.out]
          rintro e w1 ⟨rfl, p1⟩
          go_wp2_with fail
          go_roundw
          case rel => exact ⟨j + 1, by omega, by go_num, by rw [hst, Int.natCast_add], by omega, hK.trans p1⟩
          case measure => simp [intOf]; omega
        · have V : Hid (szo S (left - (n : Int) - (szRR ((rowsB xs).take j) : Int)) = -1) := szo_no (by omega)
          go_wp2_with fail
          refine (szBlock _ _ _ _ _ _ _ _ q0 (IHStep _ (by have := vol_lt (s := 2) (rows := (rowsB xs)) (i := j) (j := 0) (by have := HRL.out; omega) (by rw [blocks_row xs j (by have := HL.out; omega)]; simp); rw [rAt, blocks_row xs j (by have := HL.out; omega)] at this; simp only [dGet, List.getD, List.getElem?_cons_zero, Option.getD_some] at this; exact this)) (by omega) (by omega)).mono ?_
          rw [HS.out, V.out]
          rintro e w1 ⟨rfl, p1⟩
          go_wp2_with fail
          exact fin_ hQ ⟨ret_i (szo_no (by omega)).symm, hK.trans p1⟩
      · have HJ : Hid (j = n) := by show _ = _; omega
        go_wp2
        exact fin_ hQ ⟨ret_i (by rw [HJ.out, List.take_of_length_le (Nat.le_of_eq HRL.out)]; have e := HJ.out; subst e; rw [List.take_of_length_le (Nat.le_of_eq HRL.out)] at hsz; rw [szo_yes (by omega)]; omega), hK⟩
theorem szStepS (xs : List StepL) : SzC 180 (encSteps xs) := (szSB_n _).1 xs (Nat.lt_succ_self _)
theorem szRoutine (D : Nat → Prop) (w : World) (left : Int) (a0 : Option Addr) (n0 c0 : Nat) (d0 : Dat) (a1 : Option Addr) (n1 c1 : Nat) (d1 : Dat) (z2 : Int) (a3 : Option Addr) (n3 c3 : Nat) (d3 : Dat) (z4 : Int) (r0 : Rd w D d0 (.slice a0 n0 c0)) (r1 : Rd w D d1 (.slice a1 n1 c1)) (r3 : Rd w D d3 (.slice a3 n3 c3)) (k0 : SzC 124 d0) (k1 : SzC 124 d1) (k3 : SzC 180 d3) (h0 : 0 ≤ left) (h1 : left ≤ 1048576) :
    Calls Tryz.prog 75 #[.agg #[.slice a0 n0 c0, .slice a1 n1 c1, .int .i64 z2, .slice a3 n3 c3, .int .i64 z4], .int .i64 left] w fun e w' => e = .returned (.int .i64 (szo (szD d0 + szD d1 + szD d3) left)) ∧ Keep w w' := by
  refine calls_k fun Q hQ => ?_
  by_cases y0 : ((szD d0 : Nat) : Int) ≤ left
  case neg =>
    go_enter Tryz.func75, Tryz.ntmps75
    have kb : Keep w (w.alloc (.cells #[.slice a0 n0 c0, .slice a1 n1 c1, .int .i64 z2, .slice a3 n3 c3, .int .i64 z4] 120)) := Keep.al _ _
    have q0 := r0.k kb
    have q1 := r1.k kb
    have q3 := r3.k kb
    have V0 : Hid (szo (szD d0) (left) = -1) := szo_no (by omega)
    go_wp2_with fail
    refine (k0 _ _ _ _ _ _ q0 (by omega) (by omega)).mono ?_
    rw [V0.out]
    rintro e w1 ⟨rfl, p0⟩
    replace kb := kb.trans p0
    replace q0 := q0.k p0
    replace q1 := q1.k p0
    replace q3 := q3.k p0
    go_wp2_with fail
    exact fin_ hQ ⟨ret_i (szo_no (by omega)).symm, kb⟩
  by_cases y1 : ((szD d0 + szD d1 : Nat) : Int) ≤ left
  case neg =>
    go_enter Tryz.func75, Tryz.ntmps75
    have kb : Keep w (w.alloc (.cells #[.slice a0 n0 c0, .slice a1 n1 c1, .int .i64 z2, .slice a3 n3 c3, .int .i64 z4] 120)) := Keep.al _ _
    have bk : Keep (w.alloc (.cells #[.slice a0 n0 c0, .slice a1 n1 c1, .int .i64 z2, .slice a3 n3 c3, .int .i64 z4] 120)) (w.alloc (.cells #[.slice a0 n0 c0, .slice a1 n1 c1, .int .i64 z2, .slice a3 n3 c3, .int .i64 z4] 120)) := Ext.refl _ _
    have q0 := r0.k kb
    have q1 := r1.k kb
    have q3 := r3.k kb
    have V0 : Hid (szo (szD d0) (left) = left - ((szD d0 : Int))) := by show _ = _; rw [szo_yes (by omega)] <;> omega
    go_wp2_with fail
    refine (k0 _ _ _ _ _ _ q0 (by omega) (by omega)).mono ?_
    rw [V0.out]
    rintro e w1 ⟨rfl, p0⟩
    replace kb := kb.trans p0
    replace bk := bk.trans p0
    replace q0 := q0.k p0
    replace q1 := q1.k p0
    replace q3 := q3.k p0
    have t0 : 0 ≤ left - ((szD d0 : Int)) := by omega
    have V1 : Hid (szo (szD d1) (left - ((szD d0 : Int))) = -1) := szo_no (by omega)
    have x0 := boxk bk 0
    have x1 := boxk bk 1
    have x2 := boxk bk 2
    have x3 := boxk bk 3
    have x4 := boxk bk 4
    simp at x0 x1 x2 x3 x4
    go_wp2_with fail
    clear x0 x1 x2 x3 x4
    refine (k1 _ _ _ _ _ _ q1 (by omega) (by omega)).mono ?_
    rw [V1.out]
    rintro e w2 ⟨rfl, p1⟩
    replace kb := kb.trans p1
    replace bk := bk.trans p1
    replace q0 := q0.k p1
    replace q1 := q1.k p1
    replace q3 := q3.k p1
    go_wp2_with fail
    exact fin_ hQ ⟨ret_i (szo_no (by omega)).symm, kb⟩
  by_cases y2 : ((szD d0 + szD d1 + szD d3 : Nat) : Int) ≤ left
  case neg =>
    go_enter Tryz.func75, Tryz.ntmps75
    have kb : Keep w (w.alloc (.cells #[.slice a0 n0 c0, .slice a1 n1 c1, .int .i64 z2, .slice a3 n3 c3, .int .i64 z4] 120)) := Keep.al _ _
    have bk : Keep (w.alloc (.cells #[.slice a0 n0 c0, .slice a1 n1 c1, .int .i64 z2, .slice a3 n3 c3, .int .i64 z4] 120)) (w.alloc (.cells #[.slice a0 n0 c0, .slice a1 n1 c1, .int .i64 z2, .slice a3 n3 c3, .int .i64 z4] 120)) := Ext.refl _ _
    have q0 := r0.k kb
    have q1 := r1.k kb
    have q3 := r3.k kb
    have V0 : Hid (szo (szD d0) (left) = left - ((szD d0 : Int))) := by show _ = _; rw [szo_yes (by omega)] <;> omega
    go_wp2_with fail
    refine (k0 _ _ _ _ _ _ q0 (by omega) (by omega)).mono ?_
    rw [V0.out]
    rintro e w1 ⟨rfl, p0⟩
    replace kb := kb.trans p0
    replace bk := bk.trans p0
    replace q0 := q0.k p0
    replace q1 := q1.k p0
    replace q3 := q3.k p0
    have t0 : 0 ≤ left - ((szD d0 : Int)) := by omega
    have V1 : Hid (szo (szD d1) (left - ((szD d0 : Int))) = left - ((szD d0 : Int) + (szD d1 : Int))) := by show _ = _; rw [szo_yes (by omega)] <;> omega
    have x0 := boxk bk 0
    have x1 := boxk bk 1
    have x2 := boxk bk 2
    have x3 := boxk bk 3
    have x4 := boxk bk 4
    simp at x0 x1 x2 x3 x4
    go_wp2_with fail
    clear x0 x1 x2 x3 x4
    refine (k1 _ _ _ _ _ _ q1 (by omega) (by omega)).mono ?_
    rw [V1.out]
    rintro e w2 ⟨rfl, p1⟩
    replace kb := kb.trans p1
    replace bk := bk.trans p1
    replace q0 := q0.k p1
    replace q1 := q1.k p1
    replace q3 := q3.k p1
    have t1 : 0 ≤ left - ((szD d0 : Int) + (szD d1 : Int)) := by omega
    have V2 : Hid (szo (szD d3) (left - ((szD d0 : Int) + (szD d1 : Int))) = -1) := szo_no (by omega)
    have x0 := boxk bk 0
    have x1 := boxk bk 1
    have x2 := boxk bk 2
    have x3 := boxk bk 3
    have x4 := boxk bk 4
    simp at x0 x1 x2 x3 x4
    go_wp2_with fail
    clear x0 x1 x2 x3 x4
    refine (szBlock _ _ _ _ _ _ _ _ q3 k3 (by omega) (by omega)).mono ?_
    rw [V2.out]
    rintro e w3 ⟨rfl, p2⟩
    replace kb := kb.trans p2
    replace bk := bk.trans p2
    replace q0 := q0.k p2
    replace q1 := q1.k p2
    replace q3 := q3.k p2
    go_wp2_with fail
    exact fin_ hQ ⟨ret_i (szo_no (by omega)).symm, kb⟩
  go_enter Tryz.func75, Tryz.ntmps75
  have kb : Keep w (w.alloc (.cells #[.slice a0 n0 c0, .slice a1 n1 c1, .int .i64 z2, .slice a3 n3 c3, .int .i64 z4] 120)) := Keep.al _ _
  have bk : Keep (w.alloc (.cells #[.slice a0 n0 c0, .slice a1 n1 c1, .int .i64 z2, .slice a3 n3 c3, .int .i64 z4] 120)) (w.alloc (.cells #[.slice a0 n0 c0, .slice a1 n1 c1, .int .i64 z2, .slice a3 n3 c3, .int .i64 z4] 120)) := Ext.refl _ _
  have q0 := r0.k kb
  have q1 := r1.k kb
  have q3 := r3.k kb
  have V0 : Hid (szo (szD d0) (left) = left - ((szD d0 : Int))) := by show _ = _; rw [szo_yes (by omega)] <;> omega
  go_wp2_with fail
  refine (k0 _ _ _ _ _ _ q0 (by omega) (by omega)).mono ?_
  rw [V0.out]
  rintro e w1 ⟨rfl, p0⟩
  replace kb := kb.trans p0
  replace bk := bk.trans p0
  replace q0 := q0.k p0
  replace q1 := q1.k p0
  replace q3 := q3.k p0
  have t0 : 0 ≤ left - ((szD d0 : Int)) := by omega
  have V1 : Hid (szo (szD d1) (left - ((szD d0 : Int))) = left - ((szD d0 : Int) + (szD d1 : Int))) := by show _ = _; rw [szo_yes (by omega)] <;> omega
  have x0 := boxk bk 0
  have x1 := boxk bk 1
  have x2 := boxk bk 2
  have x3 := boxk bk 3
  have x4 := boxk bk 4
  simp at x0 x1 x2 x3 x4
  go_wp2_with fail
  clear x0 x1 x2 x3 x4
  refine (k1 _ _ _ _ _ _ q1 (by omega) (by omega)).mono ?_
  rw [V1.out]
  rintro e w2 ⟨rfl, p1⟩
  replace kb := kb.trans p1
  replace bk := bk.trans p1
  replace q0 := q0.k p1
  replace q1 := q1.k p1
  replace q3 := q3.k p1
  have t1 : 0 ≤ left - ((szD d0 : Int) + (szD d1 : Int)) := by omega
  have V2 : Hid (szo (szD d3) (left - ((szD d0 : Int) + (szD d1 : Int))) = left - ((szD d0 : Int) + (szD d1 : Int) + (szD d3 : Int))) := by show _ = _; rw [szo_yes (by omega)] <;> omega
  have x0 := boxk bk 0
  have x1 := boxk bk 1
  have x2 := boxk bk 2
  have x3 := boxk bk 3
  have x4 := boxk bk 4
  simp at x0 x1 x2 x3 x4
  go_wp2_with fail
  clear x0 x1 x2 x3 x4
  refine (szBlock _ _ _ _ _ _ _ _ q3 k3 (by omega) (by omega)).mono ?_
  rw [V2.out]
  rintro e w3 ⟨rfl, p2⟩
  replace kb := kb.trans p2
  replace bk := bk.trans p2
  replace q0 := q0.k p2
  replace q1 := q1.k p2
  replace q3 := q3.k p2
  have t2 : 0 ≤ left - ((szD d0 : Int) + (szD d1 : Int) + (szD d3 : Int)) := by omega
  go_wp2_with fail
  exact fin_ hQ ⟨ret_i (szo_yes (by omega)).symm, kb⟩

set_option maxHeartbeats 1000000 in
theorem szRoutineS (xs : List RoutL) : SzC 33 (encRouts xs) := by
  intro a n c D w left h h0 h1
  refine calls_k fun Q hQ => ?_
  obtain ⟨e1, hnc, hm, hat⟩ := routs_at h
  have HL := Lib.hid e1
  have hrl : (xs.map rowR).length = n := by rw [routs_len]; exact e1
  have e2 : szD (encRouts xs) = n + szRR (xs.map rowR) := by rw [encRouts, szD, hrl]
  rw [e2] at hQ
  have HA := Lib.hid hat
  clear hat e1 e2
  by_cases hl : (n : Int) ≤ left
  case neg =>
    have V := Lib.hid (szo_no (s := n + szRR (xs.map rowR)) (left := left) (by omega))
    have t : left - (n : Int) < 0 := by omega
    go_enter Tryz.func33, Tryz.ntmps33
    go_wp2_with fail
    exact fin_ hQ ⟨ret_i V.out.symm, Ext.refl _ _⟩
  have HRL := Lib.hid hrl
  clear hrl
  go_enter Tryz.func33, Tryz.ntmps33
  go_wp2_with fail
  go_loopw [1, 5] (fun lv iv wr => ∃ j : Nat, j ≤ n ∧ iv = .int .i64 j ∧ lv = .int .i64 (left - (n : Int) - (szRR ((xs.map rowR).take j) : Int)) ∧ (szRR ((xs.map rowR).take j) : Int) ≤ left - (n : Int) ∧ Keep w wr) (fun _ i _ => n - (intOf i).toNat)
  case atStart => exact ⟨0, Nat.zero_le _, rfl, by simp [szRR], by simp only [List.take_zero, szRR]; omega, Ext.refl _ _⟩
  case round =>
    obtain ⟨j, hj, rfl, rfl, hsz, hK⟩ := hrel
    by_cases hlt : j < n
    · have hst := szRR_take (xs.map rowR) j (by have := HRL.out; omega)
      rw [routs_row xs j (by have := HL.out; omega)] at hst
      simp only [szR, szD, Nat.zero_add, Nat.add_zero] at hst
      have htl := szRR_take_le (xs.map rowR) (j + 1)
      obtain ⟨b, o, rfl, hd, a0, n0, c0, a1, n1, c1, a3, n3, c3, d0, d1, d2, d3, d4, r0, r1, r3⟩ := HA.out j hlt
      have g0 := (hK.cell (World.block_lt_of_cell? w _ d0) (fun h => h)).trans d0
      have g1 := (hK.cell (World.block_lt_of_cell? w _ d1) (fun h => h)).trans d1
      have g2 := (hK.cell (World.block_lt_of_cell? w _ d2) (fun h => h)).trans d2
      have g3 := (hK.cell (World.block_lt_of_cell? w _ d3) (fun h => h)).trans d3
      have g4 := (hK.cell (World.block_lt_of_cell? w _ d4) (fun h => h)).trans d4
      have q0 := r0.k hK
      have q1 := r1.k hK
      have q3 := r3.k hK
      clear d0 d1 d2 d3 d4
      replace hst : szRR ((xs.map rowR).take (j + 1)) = szRR ((xs.map rowR).take j) + (szD (encInts ((rtAt xs j).params)) + szD (encInts ((rtAt xs j).lent)) + szD (encSteps ((rtAt xs j).body.steps))) := by rw [hst]; omega
      generalize hS : szD (encInts ((rtAt xs j).params)) + szD (encInts ((rtAt xs j).lent)) + szD (encSteps ((rtAt xs j).body.steps)) = S at hst
      have HS := Lib.hid hS
      clear hS
      have t0 : 0 ≤ left - (n : Int) - (szRR ((xs.map rowR).take j) : Int) := by omega
      by_cases hf : (S : Int) ≤ left - (n : Int) - (szRR ((xs.map rowR).take j) : Int)
      · have V : Hid (szo S (left - (n : Int) - (szRR ((xs.map rowR).take j) : Int)) = left - (n : Int) - (szRR ((xs.map rowR).take (j + 1)) : Int)) := by show _ = _; rw [szo_yes hf]; omega
        have t1 : 0 ≤ left - (n : Int) - (szRR ((xs.map rowR).take (j + 1)) : Int) := by omega
        go_wp2_with fail
        refine (szRoutine _ _ _ _ _ _ _ _ _ _ _ _ _ _ _ _ _ q0 q1 q3 (szIntS _) (szIntS _) (szStepS _) (by omega) (by omega)).mono ?_
        rw [HS.out, V.out]
        rintro e w1 ⟨rfl, p1⟩
        go_wp2_with fail
        go_roundw
        case rel => exact ⟨j + 1, by omega, by go_num, by rw [hst, Int.natCast_add], by omega, hK.trans p1⟩
        case measure => simp [intOf]; omega
      · have V : Hid (szo S (left - (n : Int) - (szRR ((xs.map rowR).take j) : Int)) = -1) := szo_no (by omega)
        go_wp2_with fail
        refine (szRoutine _ _ _ _ _ _ _ _ _ _ _ _ _ _ _ _ _ q0 q1 q3 (szIntS _) (szIntS _) (szStepS _) (by omega) (by omega)).mono ?_
        rw [HS.out, V.out]
        rintro e w1 ⟨rfl, p1⟩
        go_wp2_with fail
        exact fin_ hQ ⟨ret_i (szo_no (by omega)).symm, hK.trans p1⟩
    · have HJ : Hid (j = n) := by show _ = _; omega
      go_wp2
      exact fin_ hQ ⟨ret_i (by rw [HJ.out, List.take_of_length_le (Nat.le_of_eq HRL.out)]; have e := HJ.out; subst e; rw [List.take_of_length_le (Nat.le_of_eq HRL.out)] at hsz; rw [szo_yes (by omega)]; omega), hK⟩

theorem szNormal (D : Nat → Prop) (w : World) (left : Int) (a0 : Option Addr) (n0 c0 : Nat) (d0 : Dat) (a1 : Option Addr) (n1 c1 : Nat) (d1 : Dat) (r0 : Rd w D d0 (.slice a0 n0 c0)) (r1 : Rd w D d1 (.slice a1 n1 c1)) (k0 : SzC 32 d0) (k1 : SzC 33 d1) (h0 : 0 ≤ left) (h1 : left ≤ 1048576) :
    Calls Tryz.prog 7 #[.agg #[.slice a0 n0 c0, .slice a1 n1 c1], .int .i64 left] w fun e w' => e = .returned (.int .i64 (szo (szD d0 + szD d1) left)) ∧ Keep w w' := by
  refine calls_k fun Q hQ => ?_
  by_cases y0 : ((szD d0 : Nat) : Int) ≤ left
  case neg =>
    go_enter Tryz.func7, Tryz.ntmps7
    have kb : Keep w (w.alloc (.cells #[.slice a0 n0 c0, .slice a1 n1 c1] 25)) := Keep.al _ _
    have q0 := r0.k kb
    have q1 := r1.k kb
    have V0 : Hid (szo (szD d0) (left) = -1) := szo_no (by omega)
    go_wp2_with fail
    refine (k0 _ _ _ _ _ _ q0 (by omega) (by omega)).mono ?_
    rw [V0.out]
    rintro e w1 ⟨rfl, p0⟩
    replace kb := kb.trans p0
    replace q0 := q0.k p0
    replace q1 := q1.k p0
    go_wp2_with fail
    exact fin_ hQ ⟨ret_i (szo_no (by omega)).symm, kb⟩
  by_cases y1 : ((szD d0 + szD d1 : Nat) : Int) ≤ left
  case neg =>
    go_enter Tryz.func7, Tryz.ntmps7
    have kb : Keep w (w.alloc (.cells #[.slice a0 n0 c0, .slice a1 n1 c1] 25)) := Keep.al _ _
    have bk : Keep (w.alloc (.cells #[.slice a0 n0 c0, .slice a1 n1 c1] 25)) (w.alloc (.cells #[.slice a0 n0 c0, .slice a1 n1 c1] 25)) := Ext.refl _ _
    have q0 := r0.k kb
    have q1 := r1.k kb
    have V0 : Hid (szo (szD d0) (left) = left - ((szD d0 : Int))) := by show _ = _; rw [szo_yes (by omega)] <;> omega
    go_wp2_with fail
    refine (k0 _ _ _ _ _ _ q0 (by omega) (by omega)).mono ?_
    rw [V0.out]
    rintro e w1 ⟨rfl, p0⟩
    replace kb := kb.trans p0
    replace bk := bk.trans p0
    replace q0 := q0.k p0
    replace q1 := q1.k p0
    have t0 : 0 ≤ left - ((szD d0 : Int)) := by omega
    have V1 : Hid (szo (szD d1) (left - ((szD d0 : Int))) = -1) := szo_no (by omega)
    have x0 := boxk bk 0
    have x1 := boxk bk 1
    simp at x0 x1
    go_wp2_with fail
    clear x0 x1
    refine (k1 _ _ _ _ _ _ q1 (by omega) (by omega)).mono ?_
    rw [V1.out]
    rintro e w2 ⟨rfl, p1⟩
    replace kb := kb.trans p1
    replace bk := bk.trans p1
    replace q0 := q0.k p1
    replace q1 := q1.k p1
    go_wp2_with fail
    exact fin_ hQ ⟨ret_i (szo_no (by omega)).symm, kb⟩
  go_enter Tryz.func7, Tryz.ntmps7
  have kb : Keep w (w.alloc (.cells #[.slice a0 n0 c0, .slice a1 n1 c1] 25)) := Keep.al _ _
  have bk : Keep (w.alloc (.cells #[.slice a0 n0 c0, .slice a1 n1 c1] 25)) (w.alloc (.cells #[.slice a0 n0 c0, .slice a1 n1 c1] 25)) := Ext.refl _ _
  have q0 := r0.k kb
  have q1 := r1.k kb
  have V0 : Hid (szo (szD d0) (left) = left - ((szD d0 : Int))) := by show _ = _; rw [szo_yes (by omega)] <;> omega
  go_wp2_with fail
  refine (k0 _ _ _ _ _ _ q0 (by omega) (by omega)).mono ?_
  rw [V0.out]
  rintro e w1 ⟨rfl, p0⟩
  replace kb := kb.trans p0
  replace bk := bk.trans p0
  replace q0 := q0.k p0
  replace q1 := q1.k p0
  have t0 : 0 ≤ left - ((szD d0 : Int)) := by omega
  have V1 : Hid (szo (szD d1) (left - ((szD d0 : Int))) = left - ((szD d0 : Int) + (szD d1 : Int))) := by show _ = _; rw [szo_yes (by omega)] <;> omega
  have x0 := boxk bk 0
  have x1 := boxk bk 1
  simp at x0 x1
  go_wp2_with fail
  clear x0 x1
  refine (k1 _ _ _ _ _ _ q1 (by omega) (by omega)).mono ?_
  rw [V1.out]
  rintro e w2 ⟨rfl, p1⟩
  replace kb := kb.trans p1
  replace bk := bk.trans p1
  replace q0 := q0.k p1
  replace q1 := q1.k p1
  have t1 : 0 ≤ left - ((szD d0 : Int) + (szD d1 : Int)) := by omega
  go_wp2_with fail
  exact fin_ hQ ⟨ret_i (szo_yes (by omega)).symm, kb⟩

end Go.Proofs.YtkapldpmjkdmcaaGreat
/- The laws' own helpers: copies of data. -/
namespace Go.Proofs.YtkapldpmjkdmcaaGreat
open Go.RowKit


def ToC (f : FuncId) (d : Dat) : Prop := ∀ (a : Option Addr) (n c : Nat) (D : Nat → Prop) (w : World), Rd w D d (.slice a n c) → szD d ≤ 1048576 →
  Calls Tryz.prog f #[.slice a n c] w fun e w' => ∃ a', e = .returned (.slice a' n n) ∧ Own w' (fun k => w.heap.size ≤ k) d (.slice a' n n) ∧ Keep w w'
theorem keep_set {w w' : World} {b o : Nat} {us : List Value} (k : Keep w w') (h : w.heap.size ≤ b) : Keep w (setAll w' b o us) := k.then_ (setAll_ext w' b o us) (fun i hi e => by omega)
set_option maxHeartbeats 2000000 in
theorem toCon (D : Nat → Prop) (w : World) (a0 : Option Addr) (n0 c0 : Nat) (d0 : Dat) (r0 : Rd w D d0 (.slice a0 n0 c0)) (y0 : szD d0 ≤ 1048576) (k0 : ToC 132 d0) :
    Calls Tryz.prog 187 #[.agg #[.slice a0 n0 c0]] w fun e w' => ∃ b0, e = .returned (.agg #[.slice b0 n0 n0]) ∧ ToS w.heap.size w'.heap.size w' [d0] [.slice b0 n0 n0] ∧ Keep w w' := by
  refine calls_k fun Q hQ => ?_
  have K : Keep w (((w.alloc (.cells #[.slice a0 n0 c0] 224)).alloc (.cells #[.slice none 0 0] 155)).alloc (.cells #[.slice none 0 0] 155)) := (Keep.al _ _).trans ((Keep.al _ _).trans (Keep.al _ _))
  have R0 := ((rowOf w #[.slice a0 n0 c0] 224).alloc (.cells #[.slice none 0 0] 155)).alloc (.cells #[.slice none 0 0] 155)
  have R1 := (rowOf (w.alloc (.cells #[.slice a0 n0 c0] 224)) #[.slice none 0 0] 155).alloc (.cells #[.slice none 0 0] 155)
  have R2 := rowOf ((w.alloc (.cells #[.slice a0 n0 c0] 224)).alloc (.cells #[.slice none 0 0] 155)) #[.slice none 0 0] 155
  have q0 := r0.lt.k K
  have S0 : w.heap.size + 3 = (((w.alloc (.cells #[.slice a0 n0 c0] 224)).alloc (.cells #[.slice none 0 0] 155)).alloc (.cells #[.slice none 0 0] 155)).heap.size := by simp
  clear r0
  simp only [World.size_alloc] at R1 R2
  go_enter Tryz.func187, Tryz.ntmps187
  go_wp2_with fail
  refine (k0 _ _ _ _ _ q0 y0).mono ?_
  rintro e w1 ⟨b0, rfl, o0, p1⟩
  rw [← S0] at o0
  have t1 := ToS.own o0
  clear o0
  have zw1 := p1.size
  simp only [World.size_alloc] at zw1
  replace K := K.trans p1
  replace R0 := row_ext R0 p1 (fun h => h)
  replace R1 := row_ext R1 p1 (fun h => h)
  replace R2 := row_ext R2 p1 (fun h => h)
  replace q0 := q0.k p1
  have v0 := R2.cell (i := 0) (by simp)
  have x0 := R0.cell (i := 0) (by simp)
  have u0 := R1.cell (i := 0) (by simp)
  have f2 := R2.frozen
  have f1 := R1.frozen
  have g0 := f2 0
  have h0 := f1 0
  clear f2 f1
  simp at v0 x0 u0
  have X := (((Ext.refl (fun q => q < w.heap.size + 3) w1).setCell (p := ⟨w.heap.size + 1 + 1, 0, none⟩) (.inr (by simp)) (.slice b0 n0 n0)).setCell (p := ⟨w.heap.size + 1, 0, none⟩) (.inr (by simp)) (.slice b0 n0 n0))
  replace t1 := t1.ext X (fun q h1 h2 h3 => by omega)
  replace K := ((K.setCell (p := ⟨w.heap.size + 1 + 1, 0, none⟩) (.inl (by simp; omega)) (.slice b0 n0 n0)).setCell (p := ⟨w.heap.size + 1, 0, none⟩) (.inl (by simp)) (.slice b0 n0 n0))
  clear X R0 R1 R2 q0
  go_wp2_with fail
  refine bodyPost_ret (v := .agg #[.slice b0 n0 n0]) (by simp [results, Tryz.results187, go_sem, u0]) rfl (fin_ hQ ⟨b0, rfl, ?_, K⟩)
  simp only [World.size_setCell]
  exact ((ToS.nil w.heap.size (w.heap.size + 3) _).app (t1.wide (lo' := w.heap.size + 3) (hi' := w1.heap.size) (by omega) (by omega)) (by omega) (by omega))

set_option maxHeartbeats 2000000 in
theorem toDecl (D : Nat → Prop) (w : World) (z0 : Int) (z1 : Int) (a2 : Option Addr) (n2 c2 : Nat) (d2 : Dat) (r2 : Rd w D d2 (.slice a2 n2 c2)) (y2 : szD d2 ≤ 1048576) (k2 : ToC 131 d2) :
    Calls Tryz.prog 82 #[.agg #[.int .i64 z0, .int .i64 z1, .slice a2 n2 c2]] w fun e w' => ∃ b2, e = .returned (.agg #[.int .i64 z0, .int .i64 z1, .slice b2 n2 n2]) ∧ ToS w.heap.size w'.heap.size w' [.num z0, .num z1, d2] [.int .i64 z0, .int .i64 z1, .slice b2 n2 n2] ∧ Keep w w' := by
  refine calls_k fun Q hQ => ?_
  have K : Keep w (((w.alloc (.cells #[.int .i64 z0, .int .i64 z1, .slice a2 n2 c2] 114)).alloc (.cells #[.int .i64 0, .int .i64 0, .slice none 0 0] 125)).alloc (.cells #[.int .i64 z0, .int .i64 z1, .slice none 0 0] 125)) := (Keep.al _ _).trans ((Keep.al _ _).trans (Keep.al _ _))
  have R0 := ((rowOf w #[.int .i64 z0, .int .i64 z1, .slice a2 n2 c2] 114).alloc (.cells #[.int .i64 0, .int .i64 0, .slice none 0 0] 125)).alloc (.cells #[.int .i64 z0, .int .i64 z1, .slice none 0 0] 125)
  have R1 := (rowOf (w.alloc (.cells #[.int .i64 z0, .int .i64 z1, .slice a2 n2 c2] 114)) #[.int .i64 0, .int .i64 0, .slice none 0 0] 125).alloc (.cells #[.int .i64 z0, .int .i64 z1, .slice none 0 0] 125)
  have R2 := rowOf ((w.alloc (.cells #[.int .i64 z0, .int .i64 z1, .slice a2 n2 c2] 114)).alloc (.cells #[.int .i64 0, .int .i64 0, .slice none 0 0] 125)) #[.int .i64 z0, .int .i64 z1, .slice none 0 0] 125
  have q2 := r2.lt.k K
  have S0 : w.heap.size + 3 = (((w.alloc (.cells #[.int .i64 z0, .int .i64 z1, .slice a2 n2 c2] 114)).alloc (.cells #[.int .i64 0, .int .i64 0, .slice none 0 0] 125)).alloc (.cells #[.int .i64 z0, .int .i64 z1, .slice none 0 0] 125)).heap.size := by simp
  clear r2
  simp only [World.size_alloc] at R1 R2
  go_enter Tryz.func82, Tryz.ntmps82
  go_wp2_with fail
  refine (k2 _ _ _ _ _ q2 y2).mono ?_
  rintro e w1 ⟨b2, rfl, o2, p1⟩
  rw [← S0] at o2
  have t1 := ToS.own o2
  clear o2
  have zw1 := p1.size
  simp only [World.size_alloc] at zw1
  replace K := K.trans p1
  replace R0 := row_ext R0 p1 (fun h => h)
  replace R1 := row_ext R1 p1 (fun h => h)
  replace R2 := row_ext R2 p1 (fun h => h)
  replace q2 := q2.k p1
  have v0 := R2.cell (i := 0) (by simp)
  have x0 := R0.cell (i := 0) (by simp)
  have u0 := R1.cell (i := 0) (by simp)
  have v1 := R2.cell (i := 1) (by simp)
  have x1 := R0.cell (i := 1) (by simp)
  have u1 := R1.cell (i := 1) (by simp)
  have v2 := R2.cell (i := 2) (by simp)
  have x2 := R0.cell (i := 2) (by simp)
  have u2 := R1.cell (i := 2) (by simp)
  have f2 := R2.frozen
  have f1 := R1.frozen
  have g0 := f2 0
  have h0 := f1 0
  have g1 := f2 1
  have h1 := f1 1
  have g2 := f2 2
  have h2 := f1 2
  clear f2 f1
  simp at v0 x0 u0 v1 x1 u1 v2 x2 u2
  have X := (((((Ext.refl (fun q => q < w.heap.size + 3) w1).setCell (p := ⟨w.heap.size + 1 + 1, 2, none⟩) (.inr (by simp)) (.slice b2 n2 n2)).setCell (p := ⟨w.heap.size + 1, 0, none⟩) (.inr (by simp)) (.int .i64 z0)).setCell (p := ⟨w.heap.size + 1, 1, none⟩) (.inr (by simp)) (.int .i64 z1)).setCell (p := ⟨w.heap.size + 1, 2, none⟩) (.inr (by simp)) (.slice b2 n2 n2))
  replace t1 := t1.ext X (fun q h1 h2 h3 => by omega)
  replace K := ((((K.setCell (p := ⟨w.heap.size + 1 + 1, 2, none⟩) (.inl (by simp; omega)) (.slice b2 n2 n2)).setCell (p := ⟨w.heap.size + 1, 0, none⟩) (.inl (by simp)) (.int .i64 z0)).setCell (p := ⟨w.heap.size + 1, 1, none⟩) (.inl (by simp)) (.int .i64 z1)).setCell (p := ⟨w.heap.size + 1, 2, none⟩) (.inl (by simp)) (.slice b2 n2 n2))
  clear X R0 R1 R2 q2
  go_wp2_with fail
  refine bodyPost_ret (v := .agg #[.int .i64 z0, .int .i64 z1, .slice b2 n2 n2]) (by simp [results, Tryz.results82, go_sem, u0, u1, u2]) rfl (fin_ hQ ⟨b2, rfl, ?_, K⟩)
  simp only [World.size_setCell]
  exact ((((ToS.nil w.heap.size (w.heap.size + 3) _).app (ToS.int (w.heap.size + 3) (w.heap.size + 3) _ z0) (by omega) (by omega)).app (ToS.int (w.heap.size + 3) (w.heap.size + 3) _ z1) (by omega) (by omega)).app (t1.wide (lo' := w.heap.size + 3) (hi' := w1.heap.size) (by omega) (by omega)) (by omega) (by omega))

set_option maxHeartbeats 2000000 in
theorem toStep (D : Nat → Prop) (w : World) (z0 : Int) (z1 : Int) (z2 : Int) (a3 : Option Addr) (n3 c3 : Nat) (d3 : Dat) (a4 : Option Addr) (n4 c4 : Nat) (d4 : Dat) (r3 : Rd w D d3 (.slice a3 n3 c3)) (y3 : szD d3 ≤ 1048576) (r4 : Rd w D d4 (.slice a4 n4 c4)) (y4 : szD d4 ≤ 1048576) (k3 : ToC 132 d3) (k4 : ToC 232 d4) :
    Calls Tryz.prog 223 #[.agg #[.int .i64 z0, .int .i64 z1, .int .i64 z2, .slice a3 n3 c3, .slice a4 n4 c4]] w fun e w' => ∃ b3 b4, e = .returned (.agg #[.int .i64 z0, .int .i64 z1, .int .i64 z2, .slice b3 n3 n3, .slice b4 n4 n4]) ∧ ToS w.heap.size w'.heap.size w' [.num z0, .num z1, .num z2, d3, d4] [.int .i64 z0, .int .i64 z1, .int .i64 z2, .slice b3 n3 n3, .slice b4 n4 n4] ∧ Keep w w' := by
  refine calls_k fun Q hQ => ?_
  have K : Keep w (((w.alloc (.cells #[.int .i64 z0, .int .i64 z1, .int .i64 z2, .slice a3 n3 c3, .slice a4 n4 c4] 256)).alloc (.cells #[.int .i64 0, .int .i64 0, .int .i64 0, .slice none 0 0, .slice none 0 0] 136)).alloc (.cells #[.int .i64 z0, .int .i64 z1, .int .i64 z2, .slice none 0 0, .slice none 0 0] 136)) := (Keep.al _ _).trans ((Keep.al _ _).trans (Keep.al _ _))
  have R0 := ((rowOf w #[.int .i64 z0, .int .i64 z1, .int .i64 z2, .slice a3 n3 c3, .slice a4 n4 c4] 256).alloc (.cells #[.int .i64 0, .int .i64 0, .int .i64 0, .slice none 0 0, .slice none 0 0] 136)).alloc (.cells #[.int .i64 z0, .int .i64 z1, .int .i64 z2, .slice none 0 0, .slice none 0 0] 136)
  have R1 := (rowOf (w.alloc (.cells #[.int .i64 z0, .int .i64 z1, .int .i64 z2, .slice a3 n3 c3, .slice a4 n4 c4] 256)) #[.int .i64 0, .int .i64 0, .int .i64 0, .slice none 0 0, .slice none 0 0] 136).alloc (.cells #[.int .i64 z0, .int .i64 z1, .int .i64 z2, .slice none 0 0, .slice none 0 0] 136)
  have R2 := rowOf ((w.alloc (.cells #[.int .i64 z0, .int .i64 z1, .int .i64 z2, .slice a3 n3 c3, .slice a4 n4 c4] 256)).alloc (.cells #[.int .i64 0, .int .i64 0, .int .i64 0, .slice none 0 0, .slice none 0 0] 136)) #[.int .i64 z0, .int .i64 z1, .int .i64 z2, .slice none 0 0, .slice none 0 0] 136
  have q3 := r3.lt.k K
  have q4 := r4.lt.k K
  have S0 : w.heap.size + 3 = (((w.alloc (.cells #[.int .i64 z0, .int .i64 z1, .int .i64 z2, .slice a3 n3 c3, .slice a4 n4 c4] 256)).alloc (.cells #[.int .i64 0, .int .i64 0, .int .i64 0, .slice none 0 0, .slice none 0 0] 136)).alloc (.cells #[.int .i64 z0, .int .i64 z1, .int .i64 z2, .slice none 0 0, .slice none 0 0] 136)).heap.size := by simp
  clear r3 r4
  simp only [World.size_alloc] at R1 R2
  go_enter Tryz.func223, Tryz.ntmps223
  go_wp2_with fail
  refine (k3 _ _ _ _ _ q3 y3).mono ?_
  rintro e w1 ⟨b3, rfl, o3, p1⟩
  rw [← S0] at o3
  have t1 := ToS.own o3
  clear o3
  have zw1 := p1.size
  simp only [World.size_alloc] at zw1
  replace K := K.trans p1
  replace R0 := row_ext R0 p1 (fun h => h)
  replace R1 := row_ext R1 p1 (fun h => h)
  replace R2 := row_ext R2 p1 (fun h => h)
  replace q3 := q3.k p1
  replace q4 := q4.k p1
  have v0 := R2.cell (i := 0) (by simp)
  have x0 := R0.cell (i := 0) (by simp)
  have v1 := R2.cell (i := 1) (by simp)
  have x1 := R0.cell (i := 1) (by simp)
  have v2 := R2.cell (i := 2) (by simp)
  have x2 := R0.cell (i := 2) (by simp)
  have v3 := R2.cell (i := 3) (by simp)
  have x3 := R0.cell (i := 3) (by simp)
  have v4 := R2.cell (i := 4) (by simp)
  have x4 := R0.cell (i := 4) (by simp)
  have f2 := R2.frozen
  have g0 := f2 0
  have g1 := f2 1
  have g2 := f2 2
  have g3 := f2 3
  have g4 := f2 4
  clear f2
  simp at v0 x0 v1 x1 v2 x2 v3 x3 v4 x4
  have X := ((Ext.refl (fun q => q < w.heap.size + 3 ∧ w.heap.size + 2 ≤ q) w1).setCell (p := ⟨w.heap.size + 1 + 1, 3, none⟩) (.inr (by simp)) (.slice b3 n3 n3))
  replace R0 := row_ext R0 X (by omega)
  replace R1 := row_ext R1 X (by omega)
  replace R2 := R2.set 3 (.slice b3 n3 n3)
  replace t1 := t1.ext X (fun q h1 h2 h3 => by omega)
  replace q3 := q3.ext X (fun q h1 h2 => by have := h1.2; omega)
  replace q4 := q4.ext X (fun q h1 h2 => by have := h1.2; omega)
  replace K := K.then_ X (fun q h1 h2 => by omega)
  clear X
  have x0 := R0.cell (i := 0) (by simp)
  have x1 := R0.cell (i := 1) (by simp)
  have x2 := R0.cell (i := 2) (by simp)
  have x3 := R0.cell (i := 3) (by simp)
  have x4 := R0.cell (i := 4) (by simp)
  simp at x0 x1 x2 x3 x4
  go_wp2_with fail
  clear x0 x1 x2 x3 x4
  refine (k4 _ _ _ _ _ q4 y4).mono ?_
  rintro e w2 ⟨b4, rfl, o4, p2⟩
  have t2 := ToS.own o4
  clear o4
  simp only [World.size_setCell] at t2
  have zw2 := p2.size
  simp only [World.size_setCell] at zw2
  replace K := K.trans p2
  replace t1 := t1.ext p2 (fun _ _ _ h => h)
  replace R0 := row_ext R0 p2 (fun h => h)
  replace R1 := row_ext R1 p2 (fun h => h)
  replace R2 := row_ext R2 p2 (fun h => h)
  replace q3 := q3.k p2
  replace q4 := q4.k p2
  have v0 := R2.cell (i := 0) (by simp)
  have x0 := R0.cell (i := 0) (by simp)
  have u0 := R1.cell (i := 0) (by simp)
  have v1 := R2.cell (i := 1) (by simp)
  have x1 := R0.cell (i := 1) (by simp)
  have u1 := R1.cell (i := 1) (by simp)
  have v2 := R2.cell (i := 2) (by simp)
  have x2 := R0.cell (i := 2) (by simp)
  have u2 := R1.cell (i := 2) (by simp)
  have v3 := R2.cell (i := 3) (by simp)
  have x3 := R0.cell (i := 3) (by simp)
  have u3 := R1.cell (i := 3) (by simp)
  have v4 := R2.cell (i := 4) (by simp)
  have x4 := R0.cell (i := 4) (by simp)
  have u4 := R1.cell (i := 4) (by simp)
  have f2 := R2.frozen
  have f1 := R1.frozen
  have g0 := f2 0
  have h0 := f1 0
  have g1 := f2 1
  have h1 := f1 1
  have g2 := f2 2
  have h2 := f1 2
  have g3 := f2 3
  have h3 := f1 3
  have g4 := f2 4
  have h4 := f1 4
  clear f2 f1
  simp at v0 x0 u0 v1 x1 u1 v2 x2 u2 v3 x3 u3 v4 x4 u4
  have X := (((((((Ext.refl (fun q => q < w.heap.size + 3) w2).setCell (p := ⟨w.heap.size + 1 + 1, 4, none⟩) (.inr (by simp)) (.slice b4 n4 n4)).setCell (p := ⟨w.heap.size + 1, 0, none⟩) (.inr (by simp)) (.int .i64 z0)).setCell (p := ⟨w.heap.size + 1, 1, none⟩) (.inr (by simp)) (.int .i64 z1)).setCell (p := ⟨w.heap.size + 1, 2, none⟩) (.inr (by simp)) (.int .i64 z2)).setCell (p := ⟨w.heap.size + 1, 3, none⟩) (.inr (by simp)) (.slice b3 n3 n3)).setCell (p := ⟨w.heap.size + 1, 4, none⟩) (.inr (by simp)) (.slice b4 n4 n4))
  replace t1 := t1.ext X (fun q h1 h2 h3 => by omega)
  replace t2 := t2.ext X (fun q h1 h2 h3 => by omega)
  replace K := ((((((K.setCell (p := ⟨w.heap.size + 1 + 1, 4, none⟩) (.inl (by simp; omega)) (.slice b4 n4 n4)).setCell (p := ⟨w.heap.size + 1, 0, none⟩) (.inl (by simp)) (.int .i64 z0)).setCell (p := ⟨w.heap.size + 1, 1, none⟩) (.inl (by simp)) (.int .i64 z1)).setCell (p := ⟨w.heap.size + 1, 2, none⟩) (.inl (by simp)) (.int .i64 z2)).setCell (p := ⟨w.heap.size + 1, 3, none⟩) (.inl (by simp)) (.slice b3 n3 n3)).setCell (p := ⟨w.heap.size + 1, 4, none⟩) (.inl (by simp)) (.slice b4 n4 n4))
  clear X R0 R1 R2 q3 q4
  go_wp2_with fail
  refine bodyPost_ret (v := .agg #[.int .i64 z0, .int .i64 z1, .int .i64 z2, .slice b3 n3 n3, .slice b4 n4 n4]) (by simp [results, Tryz.results223, go_sem, u0, u1, u2, u3, u4]) rfl (fin_ hQ ⟨b3, b4, rfl, ?_, K⟩)
  simp only [World.size_setCell]
  exact ((((((ToS.nil w.heap.size (w.heap.size + 3) _).app (ToS.int (w.heap.size + 3) (w.heap.size + 3) _ z0) (by omega) (by omega)).app (ToS.int (w.heap.size + 3) (w.heap.size + 3) _ z1) (by omega) (by omega)).app (ToS.int (w.heap.size + 3) (w.heap.size + 3) _ z2) (by omega) (by omega)).app (t1.wide (lo' := w.heap.size + 3) (hi' := w1.heap.size) (by omega) (by omega)) (by omega) (by omega)).app (t2.wide (lo' := w1.heap.size) (hi' := w2.heap.size) (by omega) (by omega)) (by omega) (by omega))

set_option maxHeartbeats 2000000 in
theorem toBlock (D : Nat → Prop) (w : World) (a0 : Option Addr) (n0 c0 : Nat) (d0 : Dat) (z1 : Int) (r0 : Rd w D d0 (.slice a0 n0 c0)) (y0 : szD d0 ≤ 1048576) (k0 : ToC 188 d0) :
    Calls Tryz.prog 133 #[.agg #[.slice a0 n0 c0, .int .i64 z1]] w fun e w' => ∃ b0, e = .returned (.agg #[.slice b0 n0 n0, .int .i64 z1]) ∧ ToS w.heap.size w'.heap.size w' [d0, .num z1] [.slice b0 n0 n0, .int .i64 z1] ∧ Keep w w' := by
  refine calls_k fun Q hQ => ?_
  have K : Keep w (((w.alloc (.cells #[.slice a0 n0 c0, .int .i64 z1] 118)).alloc (.cells #[.slice none 0 0, .int .i64 0] 69)).alloc (.cells #[.slice none 0 0, .int .i64 0] 69)) := (Keep.al _ _).trans ((Keep.al _ _).trans (Keep.al _ _))
  have R0 := ((rowOf w #[.slice a0 n0 c0, .int .i64 z1] 118).alloc (.cells #[.slice none 0 0, .int .i64 0] 69)).alloc (.cells #[.slice none 0 0, .int .i64 0] 69)
  have R1 := (rowOf (w.alloc (.cells #[.slice a0 n0 c0, .int .i64 z1] 118)) #[.slice none 0 0, .int .i64 0] 69).alloc (.cells #[.slice none 0 0, .int .i64 0] 69)
  have R2 := rowOf ((w.alloc (.cells #[.slice a0 n0 c0, .int .i64 z1] 118)).alloc (.cells #[.slice none 0 0, .int .i64 0] 69)) #[.slice none 0 0, .int .i64 0] 69
  have q0 := r0.lt.k K
  have S0 : w.heap.size + 3 = (((w.alloc (.cells #[.slice a0 n0 c0, .int .i64 z1] 118)).alloc (.cells #[.slice none 0 0, .int .i64 0] 69)).alloc (.cells #[.slice none 0 0, .int .i64 0] 69)).heap.size := by simp
  clear r0
  simp only [World.size_alloc] at R1 R2
  go_enter Tryz.func133, Tryz.ntmps133
  go_wp2_with fail
  refine (k0 _ _ _ _ _ q0 y0).mono ?_
  rintro e w1 ⟨b0, rfl, o0, p1⟩
  rw [← S0] at o0
  have t1 := ToS.own o0
  clear o0
  have zw1 := p1.size
  simp only [World.size_alloc] at zw1
  replace K := K.trans p1
  replace R0 := row_ext R0 p1 (fun h => h)
  replace R1 := row_ext R1 p1 (fun h => h)
  replace R2 := row_ext R2 p1 (fun h => h)
  replace q0 := q0.k p1
  have v0 := R2.cell (i := 0) (by simp)
  have x0 := R0.cell (i := 0) (by simp)
  have u0 := R1.cell (i := 0) (by simp)
  have v1 := R2.cell (i := 1) (by simp)
  have x1 := R0.cell (i := 1) (by simp)
  have u1 := R1.cell (i := 1) (by simp)
  have f2 := R2.frozen
  have f1 := R1.frozen
  have g0 := f2 0
  have h0 := f1 0
  have g1 := f2 1
  have h1 := f1 1
  clear f2 f1
  simp at v0 x0 u0 v1 x1 u1
  have X := (((((Ext.refl (fun q => q < w.heap.size + 3) w1).setCell (p := ⟨w.heap.size + 1 + 1, 0, none⟩) (.inr (by simp)) (.slice b0 n0 n0)).setCell (p := ⟨w.heap.size + 1 + 1, 1, none⟩) (.inr (by simp)) (.int .i64 z1)).setCell (p := ⟨w.heap.size + 1, 0, none⟩) (.inr (by simp)) (.slice b0 n0 n0)).setCell (p := ⟨w.heap.size + 1, 1, none⟩) (.inr (by simp)) (.int .i64 z1))
  replace t1 := t1.ext X (fun q h1 h2 h3 => by omega)
  replace K := ((((K.setCell (p := ⟨w.heap.size + 1 + 1, 0, none⟩) (.inl (by simp; omega)) (.slice b0 n0 n0)).setCell (p := ⟨w.heap.size + 1 + 1, 1, none⟩) (.inl (by simp; omega)) (.int .i64 z1)).setCell (p := ⟨w.heap.size + 1, 0, none⟩) (.inl (by simp)) (.slice b0 n0 n0)).setCell (p := ⟨w.heap.size + 1, 1, none⟩) (.inl (by simp)) (.int .i64 z1))
  clear X R0 R1 R2 q0
  go_wp2_with fail
  refine bodyPost_ret (v := .agg #[.slice b0 n0 n0, .int .i64 z1]) (by simp [results, Tryz.results133, go_sem, u0, u1]) rfl (fin_ hQ ⟨b0, rfl, ?_, K⟩)
  simp only [World.size_setCell]
  exact (((ToS.nil w.heap.size (w.heap.size + 3) _).app (t1.wide (lo' := w.heap.size + 3) (hi' := w1.heap.size) (by omega) (by omega)) (by omega) (by omega)).app (ToS.int (w1.heap.size) (w1.heap.size) _ z1) (by omega) (by omega))

set_option maxHeartbeats 2000000 in
theorem toRoutine (D : Nat → Prop) (w : World) (a0 : Option Addr) (n0 c0 : Nat) (d0 : Dat) (a1 : Option Addr) (n1 c1 : Nat) (d1 : Dat) (z2 : Int) (a3 : Option Addr) (n3 c3 : Nat) (d3 : Dat) (z4 : Int) (r0 : Rd w D d0 (.slice a0 n0 c0)) (y0 : szD d0 ≤ 1048576) (r1 : Rd w D d1 (.slice a1 n1 c1)) (y1 : szD d1 ≤ 1048576) (r3 : Rd w D d3 (.slice a3 n3 c3)) (y3 : szD d3 ≤ 1048576) (k0 : ToC 132 d0) (k1 : ToC 132 d1) (k3 : ToC 188 d3) :
    Calls Tryz.prog 83 #[.agg #[.slice a0 n0 c0, .slice a1 n1 c1, .int .i64 z2, .slice a3 n3 c3, .int .i64 z4]] w fun e w' => ∃ b0 b1 b3, e = .returned (.agg #[.slice b0 n0 n0, .slice b1 n1 n1, .int .i64 z2, .slice b3 n3 n3, .int .i64 z4]) ∧ ToS w.heap.size w'.heap.size w' [d0, d1, .num z2, d3, .num z4] [.slice b0 n0 n0, .slice b1 n1 n1, .int .i64 z2, .slice b3 n3 n3, .int .i64 z4] ∧ Keep w w' := by
  refine calls_k fun Q hQ => ?_
  have K : Keep w (((w.alloc (.cells #[.slice a0 n0 c0, .slice a1 n1 c1, .int .i64 z2, .slice a3 n3 c3, .int .i64 z4] 120)).alloc (.cells #[.slice none 0 0, .slice none 0 0, .int .i64 0, .slice none 0 0, .int .i64 0] 71)).alloc (.cells #[.slice none 0 0, .slice none 0 0, .int .i64 0, .slice none 0 0, .int .i64 0] 71)) := (Keep.al _ _).trans ((Keep.al _ _).trans (Keep.al _ _))
  have R0 := ((rowOf w #[.slice a0 n0 c0, .slice a1 n1 c1, .int .i64 z2, .slice a3 n3 c3, .int .i64 z4] 120).alloc (.cells #[.slice none 0 0, .slice none 0 0, .int .i64 0, .slice none 0 0, .int .i64 0] 71)).alloc (.cells #[.slice none 0 0, .slice none 0 0, .int .i64 0, .slice none 0 0, .int .i64 0] 71)
  have R1 := (rowOf (w.alloc (.cells #[.slice a0 n0 c0, .slice a1 n1 c1, .int .i64 z2, .slice a3 n3 c3, .int .i64 z4] 120)) #[.slice none 0 0, .slice none 0 0, .int .i64 0, .slice none 0 0, .int .i64 0] 71).alloc (.cells #[.slice none 0 0, .slice none 0 0, .int .i64 0, .slice none 0 0, .int .i64 0] 71)
  have R2 := rowOf ((w.alloc (.cells #[.slice a0 n0 c0, .slice a1 n1 c1, .int .i64 z2, .slice a3 n3 c3, .int .i64 z4] 120)).alloc (.cells #[.slice none 0 0, .slice none 0 0, .int .i64 0, .slice none 0 0, .int .i64 0] 71)) #[.slice none 0 0, .slice none 0 0, .int .i64 0, .slice none 0 0, .int .i64 0] 71
  have q0 := r0.lt.k K
  have q1 := r1.lt.k K
  have q3 := r3.lt.k K
  have S0 : w.heap.size + 3 = (((w.alloc (.cells #[.slice a0 n0 c0, .slice a1 n1 c1, .int .i64 z2, .slice a3 n3 c3, .int .i64 z4] 120)).alloc (.cells #[.slice none 0 0, .slice none 0 0, .int .i64 0, .slice none 0 0, .int .i64 0] 71)).alloc (.cells #[.slice none 0 0, .slice none 0 0, .int .i64 0, .slice none 0 0, .int .i64 0] 71)).heap.size := by simp
  clear r0 r1 r3
  simp only [World.size_alloc] at R1 R2
  go_enter Tryz.func83, Tryz.ntmps83
  go_wp2_with fail
  refine (k0 _ _ _ _ _ q0 y0).mono ?_
  rintro e w1 ⟨b0, rfl, o0, p1⟩
  rw [← S0] at o0
  have t1 := ToS.own o0
  clear o0
  have zw1 := p1.size
  simp only [World.size_alloc] at zw1
  replace K := K.trans p1
  replace R0 := row_ext R0 p1 (fun h => h)
  replace R1 := row_ext R1 p1 (fun h => h)
  replace R2 := row_ext R2 p1 (fun h => h)
  replace q0 := q0.k p1
  replace q1 := q1.k p1
  replace q3 := q3.k p1
  have v0 := R2.cell (i := 0) (by simp)
  have x0 := R0.cell (i := 0) (by simp)
  have v1 := R2.cell (i := 1) (by simp)
  have x1 := R0.cell (i := 1) (by simp)
  have v2 := R2.cell (i := 2) (by simp)
  have x2 := R0.cell (i := 2) (by simp)
  have v3 := R2.cell (i := 3) (by simp)
  have x3 := R0.cell (i := 3) (by simp)
  have v4 := R2.cell (i := 4) (by simp)
  have x4 := R0.cell (i := 4) (by simp)
  have f2 := R2.frozen
  have g0 := f2 0
  have g1 := f2 1
  have g2 := f2 2
  have g3 := f2 3
  have g4 := f2 4
  clear f2
  simp at v0 x0 v1 x1 v2 x2 v3 x3 v4 x4
  have X := ((Ext.refl (fun q => q < w.heap.size + 3 ∧ w.heap.size + 2 ≤ q) w1).setCell (p := ⟨w.heap.size + 1 + 1, 0, none⟩) (.inr (by simp)) (.slice b0 n0 n0))
  replace R0 := row_ext R0 X (by omega)
  replace R1 := row_ext R1 X (by omega)
  replace R2 := R2.set 0 (.slice b0 n0 n0)
  replace t1 := t1.ext X (fun q h1 h2 h3 => by omega)
  replace q0 := q0.ext X (fun q h1 h2 => by have := h1.2; omega)
  replace q1 := q1.ext X (fun q h1 h2 => by have := h1.2; omega)
  replace q3 := q3.ext X (fun q h1 h2 => by have := h1.2; omega)
  replace K := K.then_ X (fun q h1 h2 => by omega)
  clear X
  have x0 := R0.cell (i := 0) (by simp)
  have x1 := R0.cell (i := 1) (by simp)
  have x2 := R0.cell (i := 2) (by simp)
  have x3 := R0.cell (i := 3) (by simp)
  have x4 := R0.cell (i := 4) (by simp)
  simp at x0 x1 x2 x3 x4
  go_wp2_with fail
  clear x0 x1 x2 x3 x4
  refine (k1 _ _ _ _ _ q1 y1).mono ?_
  rintro e w2 ⟨b1, rfl, o1, p2⟩
  have t2 := ToS.own o1
  clear o1
  simp only [World.size_setCell] at t2
  have zw2 := p2.size
  simp only [World.size_setCell] at zw2
  replace K := K.trans p2
  replace t1 := t1.ext p2 (fun _ _ _ h => h)
  replace R0 := row_ext R0 p2 (fun h => h)
  replace R1 := row_ext R1 p2 (fun h => h)
  replace R2 := row_ext R2 p2 (fun h => h)
  replace q0 := q0.k p2
  replace q1 := q1.k p2
  replace q3 := q3.k p2
  have v0 := R2.cell (i := 0) (by simp)
  have x0 := R0.cell (i := 0) (by simp)
  have v1 := R2.cell (i := 1) (by simp)
  have x1 := R0.cell (i := 1) (by simp)
  have v2 := R2.cell (i := 2) (by simp)
  have x2 := R0.cell (i := 2) (by simp)
  have v3 := R2.cell (i := 3) (by simp)
  have x3 := R0.cell (i := 3) (by simp)
  have v4 := R2.cell (i := 4) (by simp)
  have x4 := R0.cell (i := 4) (by simp)
  have f2 := R2.frozen
  have g0 := f2 0
  have g1 := f2 1
  have g2 := f2 2
  have g3 := f2 3
  have g4 := f2 4
  clear f2
  simp at v0 x0 v1 x1 v2 x2 v3 x3 v4 x4
  have X := (((Ext.refl (fun q => q < w.heap.size + 3 ∧ w.heap.size + 2 ≤ q) w2).setCell (p := ⟨w.heap.size + 1 + 1, 1, none⟩) (.inr (by simp)) (.slice b1 n1 n1)).setCell (p := ⟨w.heap.size + 1 + 1, 2, none⟩) (.inr (by simp)) (.int .i64 z2))
  replace R0 := row_ext R0 X (by omega)
  replace R1 := row_ext R1 X (by omega)
  replace R2 := R2.set 1 (.slice b1 n1 n1)
  replace R2 := R2.set 2 (.int .i64 z2)
  replace t1 := t1.ext X (fun q h1 h2 h3 => by omega)
  replace t2 := t2.ext X (fun q h1 h2 h3 => by omega)
  replace q0 := q0.ext X (fun q h1 h2 => by have := h1.2; omega)
  replace q1 := q1.ext X (fun q h1 h2 => by have := h1.2; omega)
  replace q3 := q3.ext X (fun q h1 h2 => by have := h1.2; omega)
  replace K := K.then_ X (fun q h1 h2 => by omega)
  clear X
  have x0 := R0.cell (i := 0) (by simp)
  have x1 := R0.cell (i := 1) (by simp)
  have x2 := R0.cell (i := 2) (by simp)
  have x3 := R0.cell (i := 3) (by simp)
  have x4 := R0.cell (i := 4) (by simp)
  simp at x0 x1 x2 x3 x4
  go_wp2_with fail
  clear x0 x1 x2 x3 x4
  refine (toBlock _ _ _ _ _ _ _ q3 y3 k3).mono ?_
  rintro e w3 ⟨b3, rfl, t3, p3⟩
  simp only [World.size_setCell] at t3
  have zw3 := p3.size
  simp only [World.size_setCell] at zw3
  replace K := K.trans p3
  replace t1 := t1.ext p3 (fun _ _ _ h => h)
  replace t2 := t2.ext p3 (fun _ _ _ h => h)
  replace R0 := row_ext R0 p3 (fun h => h)
  replace R1 := row_ext R1 p3 (fun h => h)
  replace R2 := row_ext R2 p3 (fun h => h)
  replace q0 := q0.k p3
  replace q1 := q1.k p3
  replace q3 := q3.k p3
  have v0 := R2.cell (i := 0) (by simp)
  have x0 := R0.cell (i := 0) (by simp)
  have u0 := R1.cell (i := 0) (by simp)
  have v1 := R2.cell (i := 1) (by simp)
  have x1 := R0.cell (i := 1) (by simp)
  have u1 := R1.cell (i := 1) (by simp)
  have v2 := R2.cell (i := 2) (by simp)
  have x2 := R0.cell (i := 2) (by simp)
  have u2 := R1.cell (i := 2) (by simp)
  have v3 := R2.cell (i := 3) (by simp)
  have x3 := R0.cell (i := 3) (by simp)
  have u3 := R1.cell (i := 3) (by simp)
  have v4 := R2.cell (i := 4) (by simp)
  have x4 := R0.cell (i := 4) (by simp)
  have u4 := R1.cell (i := 4) (by simp)
  have f2 := R2.frozen
  have f1 := R1.frozen
  have g0 := f2 0
  have h0 := f1 0
  have g1 := f2 1
  have h1 := f1 1
  have g2 := f2 2
  have h2 := f1 2
  have g3 := f2 3
  have h3 := f1 3
  have g4 := f2 4
  have h4 := f1 4
  clear f2 f1
  simp at v0 x0 u0 v1 x1 u1 v2 x2 u2 v3 x3 u3 v4 x4 u4
  have X := ((((((((Ext.refl (fun q => q < w.heap.size + 3) w3).setCell (p := ⟨w.heap.size + 1 + 1, 3, none⟩) (.inr (by simp)) (.slice b3 n3 n3)).setCell (p := ⟨w.heap.size + 1 + 1, 4, none⟩) (.inr (by simp)) (.int .i64 z4)).setCell (p := ⟨w.heap.size + 1, 0, none⟩) (.inr (by simp)) (.slice b0 n0 n0)).setCell (p := ⟨w.heap.size + 1, 1, none⟩) (.inr (by simp)) (.slice b1 n1 n1)).setCell (p := ⟨w.heap.size + 1, 2, none⟩) (.inr (by simp)) (.int .i64 z2)).setCell (p := ⟨w.heap.size + 1, 3, none⟩) (.inr (by simp)) (.slice b3 n3 n3)).setCell (p := ⟨w.heap.size + 1, 4, none⟩) (.inr (by simp)) (.int .i64 z4))
  replace t1 := t1.ext X (fun q h1 h2 h3 => by omega)
  replace t2 := t2.ext X (fun q h1 h2 h3 => by omega)
  replace t3 := t3.ext X (fun q h1 h2 h3 => by omega)
  replace K := (((((((K.setCell (p := ⟨w.heap.size + 1 + 1, 3, none⟩) (.inl (by simp; omega)) (.slice b3 n3 n3)).setCell (p := ⟨w.heap.size + 1 + 1, 4, none⟩) (.inl (by simp; omega)) (.int .i64 z4)).setCell (p := ⟨w.heap.size + 1, 0, none⟩) (.inl (by simp)) (.slice b0 n0 n0)).setCell (p := ⟨w.heap.size + 1, 1, none⟩) (.inl (by simp)) (.slice b1 n1 n1)).setCell (p := ⟨w.heap.size + 1, 2, none⟩) (.inl (by simp)) (.int .i64 z2)).setCell (p := ⟨w.heap.size + 1, 3, none⟩) (.inl (by simp)) (.slice b3 n3 n3)).setCell (p := ⟨w.heap.size + 1, 4, none⟩) (.inl (by simp)) (.int .i64 z4))
  clear X R0 R1 R2 q0 q1 q3
  go_wp2_with fail
  refine bodyPost_ret (v := .agg #[.slice b0 n0 n0, .slice b1 n1 n1, .int .i64 z2, .slice b3 n3 n3, .int .i64 z4]) (by simp [results, Tryz.results83, go_sem, u0, u1, u2, u3, u4]) rfl (fin_ hQ ⟨b0, b1, b3, rfl, ?_, K⟩)
  simp only [World.size_setCell]
  exact (((((ToS.nil w.heap.size (w.heap.size + 3) _).app (t1.wide (lo' := w.heap.size + 3) (hi' := w1.heap.size) (by omega) (by omega)) (by omega) (by omega)).app (t2.wide (lo' := w1.heap.size) (hi' := w2.heap.size) (by omega) (by omega)) (by omega) (by omega)).app (ToS.int (w2.heap.size) (w2.heap.size) _ z2) (by omega) (by omega)).app (t3.wide (lo' := w2.heap.size) (hi' := w3.heap.size) (by omega) (by omega)) (by omega) (by omega))

set_option maxHeartbeats 2000000 in
theorem toNormal (D : Nat → Prop) (w : World) (a0 : Option Addr) (n0 c0 : Nat) (d0 : Dat) (a1 : Option Addr) (n1 c1 : Nat) (d1 : Dat) (r0 : Rd w D d0 (.slice a0 n0 c0)) (y0 : szD d0 ≤ 1048576) (r1 : Rd w D d1 (.slice a1 n1 c1)) (y1 : szD d1 ≤ 1048576) (k0 : ToC 36 d0) (k1 : ToC 37 d1) :
    Calls Tryz.prog 9 #[.agg #[.slice a0 n0 c0, .slice a1 n1 c1]] w fun e w' => ∃ b0 b1, e = .returned (.agg #[.slice b0 n0 n0, .slice b1 n1 n1]) ∧ ToS w.heap.size w'.heap.size w' [d0, d1] [.slice b0 n0 n0, .slice b1 n1 n1] ∧ Keep w w' := by
  refine calls_k fun Q hQ => ?_
  have K : Keep w (((w.alloc (.cells #[.slice a0 n0 c0, .slice a1 n1 c1] 25)).alloc (.cells #[.slice none 0 0, .slice none 0 0] 30)).alloc (.cells #[.slice none 0 0, .slice none 0 0] 30)) := (Keep.al _ _).trans ((Keep.al _ _).trans (Keep.al _ _))
  have R0 := ((rowOf w #[.slice a0 n0 c0, .slice a1 n1 c1] 25).alloc (.cells #[.slice none 0 0, .slice none 0 0] 30)).alloc (.cells #[.slice none 0 0, .slice none 0 0] 30)
  have R1 := (rowOf (w.alloc (.cells #[.slice a0 n0 c0, .slice a1 n1 c1] 25)) #[.slice none 0 0, .slice none 0 0] 30).alloc (.cells #[.slice none 0 0, .slice none 0 0] 30)
  have R2 := rowOf ((w.alloc (.cells #[.slice a0 n0 c0, .slice a1 n1 c1] 25)).alloc (.cells #[.slice none 0 0, .slice none 0 0] 30)) #[.slice none 0 0, .slice none 0 0] 30
  have q0 := r0.lt.k K
  have q1 := r1.lt.k K
  have S0 : w.heap.size + 3 = (((w.alloc (.cells #[.slice a0 n0 c0, .slice a1 n1 c1] 25)).alloc (.cells #[.slice none 0 0, .slice none 0 0] 30)).alloc (.cells #[.slice none 0 0, .slice none 0 0] 30)).heap.size := by simp
  clear r0 r1
  simp only [World.size_alloc] at R1 R2
  go_enter Tryz.func9, Tryz.ntmps9
  go_wp2_with fail
  refine (k0 _ _ _ _ _ q0 y0).mono ?_
  rintro e w1 ⟨b0, rfl, o0, p1⟩
  rw [← S0] at o0
  have t1 := ToS.own o0
  clear o0
  have zw1 := p1.size
  simp only [World.size_alloc] at zw1
  replace K := K.trans p1
  replace R0 := row_ext R0 p1 (fun h => h)
  replace R1 := row_ext R1 p1 (fun h => h)
  replace R2 := row_ext R2 p1 (fun h => h)
  replace q0 := q0.k p1
  replace q1 := q1.k p1
  have v0 := R2.cell (i := 0) (by simp)
  have x0 := R0.cell (i := 0) (by simp)
  have v1 := R2.cell (i := 1) (by simp)
  have x1 := R0.cell (i := 1) (by simp)
  have f2 := R2.frozen
  have g0 := f2 0
  have g1 := f2 1
  clear f2
  simp at v0 x0 v1 x1
  have X := ((Ext.refl (fun q => q < w.heap.size + 3 ∧ w.heap.size + 2 ≤ q) w1).setCell (p := ⟨w.heap.size + 1 + 1, 0, none⟩) (.inr (by simp)) (.slice b0 n0 n0))
  replace R0 := row_ext R0 X (by omega)
  replace R1 := row_ext R1 X (by omega)
  replace R2 := R2.set 0 (.slice b0 n0 n0)
  replace t1 := t1.ext X (fun q h1 h2 h3 => by omega)
  replace q0 := q0.ext X (fun q h1 h2 => by have := h1.2; omega)
  replace q1 := q1.ext X (fun q h1 h2 => by have := h1.2; omega)
  replace K := K.then_ X (fun q h1 h2 => by omega)
  clear X
  have x0 := R0.cell (i := 0) (by simp)
  have x1 := R0.cell (i := 1) (by simp)
  simp at x0 x1
  go_wp2_with fail
  clear x0 x1
  refine (k1 _ _ _ _ _ q1 y1).mono ?_
  rintro e w2 ⟨b1, rfl, o1, p2⟩
  have t2 := ToS.own o1
  clear o1
  simp only [World.size_setCell] at t2
  have zw2 := p2.size
  simp only [World.size_setCell] at zw2
  replace K := K.trans p2
  replace t1 := t1.ext p2 (fun _ _ _ h => h)
  replace R0 := row_ext R0 p2 (fun h => h)
  replace R1 := row_ext R1 p2 (fun h => h)
  replace R2 := row_ext R2 p2 (fun h => h)
  replace q0 := q0.k p2
  replace q1 := q1.k p2
  have v0 := R2.cell (i := 0) (by simp)
  have x0 := R0.cell (i := 0) (by simp)
  have u0 := R1.cell (i := 0) (by simp)
  have v1 := R2.cell (i := 1) (by simp)
  have x1 := R0.cell (i := 1) (by simp)
  have u1 := R1.cell (i := 1) (by simp)
  have f2 := R2.frozen
  have f1 := R1.frozen
  have g0 := f2 0
  have h0 := f1 0
  have g1 := f2 1
  have h1 := f1 1
  clear f2 f1
  simp at v0 x0 u0 v1 x1 u1
  have X := ((((Ext.refl (fun q => q < w.heap.size + 3) w2).setCell (p := ⟨w.heap.size + 1 + 1, 1, none⟩) (.inr (by simp)) (.slice b1 n1 n1)).setCell (p := ⟨w.heap.size + 1, 0, none⟩) (.inr (by simp)) (.slice b0 n0 n0)).setCell (p := ⟨w.heap.size + 1, 1, none⟩) (.inr (by simp)) (.slice b1 n1 n1))
  replace t1 := t1.ext X (fun q h1 h2 h3 => by omega)
  replace t2 := t2.ext X (fun q h1 h2 h3 => by omega)
  replace K := (((K.setCell (p := ⟨w.heap.size + 1 + 1, 1, none⟩) (.inl (by simp; omega)) (.slice b1 n1 n1)).setCell (p := ⟨w.heap.size + 1, 0, none⟩) (.inl (by simp)) (.slice b0 n0 n0)).setCell (p := ⟨w.heap.size + 1, 1, none⟩) (.inl (by simp)) (.slice b1 n1 n1))
  clear X R0 R1 R2 q0 q1
  go_wp2_with fail
  refine bodyPost_ret (v := .agg #[.slice b0 n0 n0, .slice b1 n1 n1]) (by simp [results, Tryz.results9, go_sem, u0, u1]) rfl (fin_ hQ ⟨b0, b1, rfl, ?_, K⟩)
  simp only [World.size_setCell]
  exact (((ToS.nil w.heap.size (w.heap.size + 3) _).app (t1.wide (lo' := w.heap.size + 3) (hi' := w1.heap.size) (by omega) (by omega)) (by omega) (by omega)).app (t2.wide (lo' := w1.heap.size) (hi' := w2.heap.size) (by omega) (by omega)) (by omega) (by omega))

end Go.Proofs.YtkapldpmjkdmcaaGreat
/- The laws' own helpers: copies of slices of data. -/
namespace Go.Proofs.YtkapldpmjkdmcaaGreat
open Go.RowKit

theorem szD_arr {s : Nat} {rows : List (List Dat)} (h : szD (.arr s rows) ≤ 1048576) : rows.length ≤ 1048576 ∧ szRR rows ≤ 1048576 := by
  simp only [szD] at h; omega
theorem szD_cell {rows : List (List Dat)} (h : szRR rows ≤ 1048576) {i : Nat} (hi : i < rows.length) (j : Nat) : szD (dGet (rGet rows i) j) ≤ 1048576 := by
  have h1 := szR_le rows i hi
  have h2 := szD_le (rGet rows i) j
  omega

set_option maxHeartbeats 2000000 in
theorem toIntS (xs : List Int) : ToC 132 (encInts xs) := by
  intro a n c D w h hz
  refine calls_k fun Q hQ => ?_
  obtain ⟨e1, hnc, hm, hat⟩ := ints_at h
  have HL := Lib.hid e1
  have hrl : (xs.map rowI).length = n := by rw [ints_len]; exact e1
  obtain ⟨hz1, hz2⟩ := szD_arr (s := 1) (rows := (xs.map rowI)) hz
  have hn : n ≤ 1048576 := by omega
  have HRL := Lib.hid hrl
  have HA := Lib.hid hat
  clear hat e1 hrl hz hz1 hz2
  go_enter Tryz.func132, Tryz.ntmps132
  go_wp2_with (at_make; refine wpList_makeN _ rfl _ _ 52 rfl 3 (.int .i64 0) #[.int .i64 0] 1 8 Tryz.underlying52 (by kernel_rfl) rfl rfl n rfl rfl (by omega) (by omega) ?_; intro w1 hrow hk1 hsz)
  have O0 := Own.made (zd := [.num 0]) hrow rfl (by omega) (by omega) (fun j hj => by
    rcases j with _ | j
    · exact .num _ 0
    · omega)
  replace O0 := O0.mono (D' := fun k => w.heap.size ≤ k ∧ k < w1.heap.size) (fun k hk => by omega)
  rw [← HRL.out, ← rowsTo_zero, HRL.out] at O0
  clear hrow
  go_loopw [4] (fun iv wr => ∃ j : Nat, j ≤ n ∧ iv = .int .i64 j ∧ Own wr (fun k => w.heap.size ≤ k ∧ k < wr.heap.size) (.arr 1 (rowsTo (xs.map rowI) [.num 0] j)) (.slice (some ⟨w.heap.size, 0, none⟩) n n) ∧ Keep w wr ∧ w.heap.size < wr.heap.size) (fun i _ => n - (intOf i).toNat)
  case atStart => exact ⟨0, Nat.zero_le _, rfl, O0, hk1, by omega⟩
  case round =>
    obtain ⟨j, hj, rfl, hO, hK, hgt⟩ := hrel
    by_cases hlt : j < n
    · obtain ⟨b, o, rfl, hd, d0⟩ := HA.out j hlt
      have x0 := (hK.cell (World.block_lt_of_cell? w _ d0) (fun h => h)).trans d0
      clear d0
      obtain ⟨_, e, _, _, hfz, hcell⟩ := hO.cells hlt
      injection e with e
      injection e with e _ _
      subst e
      obtain ⟨u0, v0⟩ := hcell 0 (by omega)
      have g0 := hfz (j)
      rw [Nat.mul_one, Nat.add_zero] at v0
      clear hcell hfz
      go_wp2_with fail
      go_roundw
      case rel => exact ⟨j + 1, by omega, by go_num, by
        have hput := Own.put hO hlt [.int .i64 (iAt xs j)] [.num (iAt xs j)] rfl (ToS.int wr.heap.size wr.heap.size wr (iAt xs j)) (by omega) (by omega)
        have hset := rowsTo_succ (xs.map rowI) [.num 0] (j := j) (by have := HRL.out; omega)
        rw [ints_row xs j (by have := HL.out; omega)] at hset
        rw [hset] at hput
        rw [Nat.mul_one] at hput
        exact hput.mono (fun k hk => ⟨hk.1, by simp only [World.size_setCell]; omega⟩), by
        have hkk := keep_set (b := w.heap.size) (o := j) (us := [.int .i64 (iAt xs j)]) hK (Nat.le_refl _)
        exact hkk, by simp only [World.size_setCell]; omega⟩
      case measure => simp [intOf]; omega
    · have HJ : Hid (j = n) := by show _ = _; omega
      go_wp2
      exact fin_ hQ ⟨_, rfl, by
        have e := HJ.out
        subst e
        rw [rowsTo_all _ _ HRL.out.symm] at hO
        exact hO.mono (fun k hk => hk.1), hK⟩

set_option maxHeartbeats 2000000 in
theorem toConS (xs : List (List Int)) : ToC 131 (encCons xs) := by
  intro a n c D w h hz
  refine calls_k fun Q hQ => ?_
  obtain ⟨e1, hnc, hm, hat⟩ := cons_at h
  have HL := Lib.hid e1
  have hrl : (xs.map rowC).length = n := by rw [cons_len]; exact e1
  obtain ⟨hz1, hz2⟩ := szD_arr (s := 1) (rows := (xs.map rowC)) hz
  have hn : n ≤ 1048576 := by omega
  have HZ := Lib.hid (fun (j i : Nat) (hj : j < n) => szD_cell hz2 (i := j) (by rw [hrl]; exact hj) i)
  have HRL := Lib.hid hrl
  have HA := Lib.hid hat
  clear hat e1 hrl hz hz1 hz2
  go_enter Tryz.func131, Tryz.ntmps131
  go_wp2_with (at_make; refine wpList_makeN _ rfl _ _ 123 rfl 155 (.agg #[.slice none 0 0]) #[.slice none 0 0] 1 24 Tryz.underlying123 (by kernel_rfl) rfl rfl n rfl rfl (by omega) (by omega) ?_; intro w1 hrow hk1 hsz)
  have O0 := Own.made (zd := [.arr 1 []]) hrow rfl (by omega) (by omega) (fun j hj => by
    rcases j with _ | j
    · exact .nil _ _ _ _
    · omega)
  replace O0 := O0.mono (D' := fun k => w.heap.size ≤ k ∧ k < w1.heap.size) (fun k hk => by omega)
  rw [← HRL.out, ← rowsTo_zero, HRL.out] at O0
  clear hrow
  go_loopw [4] (fun iv wr => ∃ j : Nat, j ≤ n ∧ iv = .int .i64 j ∧ Own wr (fun k => w.heap.size ≤ k ∧ k < wr.heap.size) (.arr 1 (rowsTo (xs.map rowC) [.arr 1 []] j)) (.slice (some ⟨w.heap.size, 0, none⟩) n n) ∧ Keep w wr ∧ w.heap.size < wr.heap.size) (fun i _ => n - (intOf i).toNat)
  case atStart => exact ⟨0, Nat.zero_le _, rfl, O0, hk1, by omega⟩
  case round =>
    obtain ⟨j, hj, rfl, hO, hK, hgt⟩ := hrel
    by_cases hlt : j < n
    · obtain ⟨b, o, rfl, hd, a0, n0, c0, d0, r0⟩ := HA.out j hlt
      have x0 := (hK.cell (World.block_lt_of_cell? w _ d0) (fun h => h)).trans d0
      have q0 := r0.k hK
      have hrow := cons_row xs j (by have := HL.out; omega)
      have y0 := HZ.out j 0 hlt
      rw [hrow] at y0
      simp only [dGet, List.getD, List.getElem?_cons_zero, Option.getD_some] at y0
      clear hrow
      clear d0 r0
      go_wp2_with fail
      refine (toCon _ _ _ _ _ _ q0 y0 (toIntS _)).mono ?_
      rintro e w2 ⟨b0, rfl, ts, p2⟩
      have z2 := p2.size
      replace hO := hO.ext p2 (fun _ _ h => h)
      clear x0
      obtain ⟨_, e, _, _, hfz, hcell⟩ := hO.cells hlt
      injection e with e
      injection e with e _ _
      subst e
      obtain ⟨u0, v0⟩ := hcell 0 (by omega)
      have g0 := hfz (j)
      rw [Nat.mul_one, Nat.add_zero] at v0
      clear hcell hfz
      go_wp2_with fail
      go_roundw
      case rel => exact ⟨j + 1, by omega, by go_num, by
        have hput := Own.put hO hlt [.slice b0 n0 n0] [encInts (cAt xs j)] rfl ts (by omega) (by omega)
        have hset := rowsTo_succ (xs.map rowC) [.arr 1 []] (j := j) (by have := HRL.out; omega)
        rw [cons_row xs j (by have := HL.out; omega)] at hset
        rw [hset] at hput
        rw [Nat.mul_one] at hput
        exact hput.mono (fun k hk => ⟨hk.1, by simp only [World.size_setCell]; omega⟩), by
        have hkk := keep_set (b := w.heap.size) (o := j) (us := [.slice b0 n0 n0]) (hK.trans p2) (Nat.le_refl _)
        exact hkk, by simp only [World.size_setCell]; omega⟩
      case measure => simp [intOf]; omega
    · have HJ : Hid (j = n) := by show _ = _; omega
      go_wp2
      exact fin_ hQ ⟨_, rfl, by
        have e := HJ.out
        subst e
        rw [rowsTo_all _ _ HRL.out.symm] at hO
        exact hO.mono (fun k hk => hk.1), hK⟩

set_option maxHeartbeats 2000000 in
theorem toDeclS (xs : List DeclL) : ToC 36 (encDecls xs) := by
  intro a n c D w h hz
  refine calls_k fun Q hQ => ?_
  obtain ⟨e1, hnc, hm, hat⟩ := decls_at h
  have HL := Lib.hid e1
  have hrl : (xs.map rowD).length = n := by rw [decls_len]; exact e1
  obtain ⟨hz1, hz2⟩ := szD_arr (s := 3) (rows := (xs.map rowD)) hz
  have hn : n ≤ 1048576 := by omega
  have HZ := Lib.hid (fun (j i : Nat) (hj : j < n) => szD_cell hz2 (i := j) (by rw [hrl]; exact hj) i)
  have HRL := Lib.hid hrl
  have HA := Lib.hid hat
  clear hat e1 hrl hz hz1 hz2
  go_enter Tryz.func36, Tryz.ntmps36
  go_wp2_with (at_make; refine wpList_makeN _ rfl _ _ 27 rfl 125 (.agg #[.int .i64 0, .int .i64 0, .slice none 0 0]) #[.int .i64 0, .int .i64 0, .slice none 0 0] 3 40 Tryz.underlying27 (by kernel_rfl) rfl rfl n rfl rfl (by omega) (by omega) ?_; intro w1 hrow hk1 hsz)
  have O0 := Own.made (zd := [.num 0, .num 0, .arr 1 []]) hrow rfl (by omega) (by omega) (fun j hj => by
    rcases j with _ | _ | _ | j
    · exact .num _ 0
    · exact .num _ 0
    · exact .nil _ _ _ _
    · omega)
  replace O0 := O0.mono (D' := fun k => w.heap.size ≤ k ∧ k < w1.heap.size) (fun k hk => by omega)
  rw [← HRL.out, ← rowsTo_zero, HRL.out] at O0
  clear hrow
  go_loopw [4] (fun iv wr => ∃ j : Nat, j ≤ n ∧ iv = .int .i64 j ∧ Own wr (fun k => w.heap.size ≤ k ∧ k < wr.heap.size) (.arr 3 (rowsTo (xs.map rowD) [.num 0, .num 0, .arr 1 []] j)) (.slice (some ⟨w.heap.size, 0, none⟩) n n) ∧ Keep w wr ∧ w.heap.size < wr.heap.size) (fun i _ => n - (intOf i).toNat)
  case atStart => exact ⟨0, Nat.zero_le _, rfl, O0, hk1, by omega⟩
  case round =>
    obtain ⟨j, hj, rfl, hO, hK, hgt⟩ := hrel
    by_cases hlt : j < n
    · obtain ⟨b, o, rfl, hd, a2, n2, c2, d0, d1, d2, r2⟩ := HA.out j hlt
      have x0 := (hK.cell (World.block_lt_of_cell? w _ d0) (fun h => h)).trans d0
      have x1 := (hK.cell (World.block_lt_of_cell? w _ d1) (fun h => h)).trans d1
      have x2 := (hK.cell (World.block_lt_of_cell? w _ d2) (fun h => h)).trans d2
      have q2 := r2.k hK
      have hrow := decls_row xs j (by have := HL.out; omega)
      have y2 := HZ.out j 2 hlt
      rw [hrow] at y2
      simp only [dGet, List.getD, List.getElem?_cons_succ, List.getElem?_cons_zero, Option.getD_some] at y2
      clear hrow
      clear d0 d1 d2 r2
      go_wp2_with fail
      refine (toDecl _ _ _ _ _ _ _ _ q2 y2 (toConS _)).mono ?_
      rintro e w2 ⟨b2, rfl, ts, p2⟩
      have z2 := p2.size
      replace hO := hO.ext p2 (fun _ _ h => h)
      clear x0 x1 x2
      obtain ⟨_, e, _, _, hfz, hcell⟩ := hO.cells hlt
      injection e with e
      injection e with e _ _
      subst e
      obtain ⟨u0, v0⟩ := hcell 0 (by omega)
      have g0 := hfz (j * 3)
      obtain ⟨u1, v1⟩ := hcell 1 (by omega)
      have g1 := hfz (j * 3 + 1)
      obtain ⟨u2, v2⟩ := hcell 2 (by omega)
      have g2 := hfz (j * 3 + 2)
      rw [Nat.add_zero] at v0
      clear hcell hfz
      go_wp2_with fail
      go_roundw
      case rel => exact ⟨j + 1, by omega, by go_num, by
        have hput := Own.put hO hlt [.int .i64 ((dAt xs j).from_), .int .i64 ((dAt xs j).to_), .slice b2 n2 n2] [.num ((dAt xs j).from_), .num ((dAt xs j).to_), encCons ((dAt xs j).cons)] rfl ts (by omega) (by omega)
        have hset := rowsTo_succ (xs.map rowD) [.num 0, .num 0, .arr 1 []] (j := j) (by have := HRL.out; omega)
        rw [decls_row xs j (by have := HL.out; omega)] at hset
        rw [hset] at hput
        exact hput.mono (fun k hk => ⟨hk.1, by simp only [World.size_setCell]; omega⟩), by
        have hkk := keep_set (b := w.heap.size) (o := j * 3) (us := [.int .i64 ((dAt xs j).from_), .int .i64 ((dAt xs j).to_), .slice b2 n2 n2]) (hK.trans p2) (Nat.le_refl _)
        exact hkk, by simp only [World.size_setCell]; omega⟩
      case measure => simp [intOf]; omega
    · have HJ : Hid (j = n) := by show _ = _; omega
      go_wp2
      exact fin_ hQ ⟨_, rfl, by
        have e := HJ.out
        subst e
        rw [rowsTo_all _ _ HRL.out.symm] at hO
        exact hO.mono (fun k hk => hk.1), hK⟩

set_option maxHeartbeats 4000000 in
theorem toSB_n (N : Nat) : (∀ xs : List StepL, volD (encSteps xs) < N → ToC 188 (encSteps xs)) ∧ (∀ xs : List BlockL, volD (encBlocks xs) < N → ToC 232 (encBlocks xs)) := by
  induction N with
  | zero => exact ⟨fun xs h => by omega, fun xs h => by omega⟩
  | succ N ihN =>
  obtain ⟨ihS, ihB⟩ := ihN
  refine ⟨?_, ?_⟩
  · intro xs hvol a n c D w h hz
    have IHStep : ∀ ys : List StepL, volD (encSteps ys) < volD (encSteps xs) → ToC 188 (encSteps ys) := fun ys hy => ihS ys (by omega)
    have IHBlock : ∀ ys : List BlockL, volD (encBlocks ys) < volD (encSteps xs) → ToC 232 (encBlocks ys) := fun ys hy => ihB ys (by omega)
    clear ihS ihB hvol
    refine calls_k fun Q hQ => ?_
    obtain ⟨e1, hnc, hm, hat⟩ := steps_at h
    have HL := Lib.hid e1
    have hrl : (rowsS xs).length = n := by rw [steps_len]; exact e1
    obtain ⟨hz1, hz2⟩ := szD_arr (s := 5) (rows := (rowsS xs)) hz
    have hn : n ≤ 1048576 := by omega
    have HZ := Lib.hid (fun (j i : Nat) (hj : j < n) => szD_cell hz2 (i := j) (by rw [hrl]; exact hj) i)
    have HRL := Lib.hid hrl
    have HA := Lib.hid hat
    clear hat e1 hrl hz hz1 hz2
    go_enter Tryz.func188, Tryz.ntmps188
    go_wp2_with (at_make; refine wpList_makeN _ rfl _ _ 67 rfl 136 (.agg #[.int .i64 0, .int .i64 0, .int .i64 0, .slice none 0 0, .slice none 0 0]) #[.int .i64 0, .int .i64 0, .int .i64 0, .slice none 0 0, .slice none 0 0] 5 72 Tryz.underlying67 (by kernel_rfl) rfl rfl n rfl rfl (by omega) (by omega) ?_; intro w1 hrow hk1 hsz)
    have O0 := Own.made (zd := [.num 0, .num 0, .num 0, .arr 1 [], .arr 2 []]) hrow rfl (by omega) (by omega) (fun j hj => by
      rcases j with _ | _ | _ | _ | _ | j
      · exact .num _ 0
      · exact .num _ 0
      · exact .num _ 0
      · exact .nil _ _ _ _
      · exact .nil _ _ _ _
      · omega)
    replace O0 := O0.mono (D' := fun k => w.heap.size ≤ k ∧ k < w1.heap.size) (fun k hk => by omega)
    rw [← HRL.out, ← rowsTo_zero, HRL.out] at O0
    clear hrow
    go_loopw [4] (fun iv wr => ∃ j : Nat, j ≤ n ∧ iv = .int .i64 j ∧ Own wr (fun k => w.heap.size ≤ k ∧ k < wr.heap.size) (.arr 5 (rowsTo (rowsS xs) [.num 0, .num 0, .num 0, .arr 1 [], .arr 2 []] j)) (.slice (some ⟨w.heap.size, 0, none⟩) n n) ∧ Keep w wr ∧ w.heap.size < wr.heap.size) (fun i _ => n - (intOf i).toNat)
    case atStart => exact ⟨0, Nat.zero_le _, rfl, O0, hk1, by omega⟩
    case round =>
      obtain ⟨j, hj, rfl, hO, hK, hgt⟩ := hrel
      by_cases hlt : j < n
      · obtain ⟨b, o, rfl, hd, a3, n3, c3, a4, n4, c4, d0, d1, d2, d3, d4, r3, r4⟩ := HA.out j hlt
        have x0 := (hK.cell (World.block_lt_of_cell? w _ d0) (fun h => h)).trans d0
        have x1 := (hK.cell (World.block_lt_of_cell? w _ d1) (fun h => h)).trans d1
        have x2 := (hK.cell (World.block_lt_of_cell? w _ d2) (fun h => h)).trans d2
        have x3 := (hK.cell (World.block_lt_of_cell? w _ d3) (fun h => h)).trans d3
        have x4 := (hK.cell (World.block_lt_of_cell? w _ d4) (fun h => h)).trans d4
        have q3 := r3.k hK
        have q4 := r4.k hK
        have hrow := steps_row xs j (by have := HL.out; omega)
        have y3 := HZ.out j 3 hlt
        rw [hrow] at y3
        simp only [dGet, List.getD, List.getElem?_cons_succ, List.getElem?_cons_zero, Option.getD_some] at y3
        have y4 := HZ.out j 4 hlt
        rw [hrow] at y4
        simp only [dGet, List.getD, List.getElem?_cons_succ, List.getElem?_cons_zero, Option.getD_some] at y4
        clear hrow
        clear d0 d1 d2 d3 d4 r3 r4
        go_wp2_with fail
        refine (toStep _ _ _ _ _ _ _ _ _ _ _ _ _ q3 y3 q4 y4 (toIntS _) (IHBlock _ (by have := vol_lt (s := 5) (rows := (rowsS xs)) (i := j) (j := 4) (by have := HRL.out; omega) (by rw [steps_row xs j (by have := HL.out; omega)]; simp); rw [rAt, steps_row xs j (by have := HL.out; omega)] at this; simp only [dGet, List.getD, List.getElem?_cons_succ, List.getElem?_cons_zero, Option.getD_some] at this; exact this))).mono ?_
        rintro e w2 ⟨b3, b4, rfl, ts, p2⟩
        have z2 := p2.size
        replace hO := hO.ext p2 (fun _ _ h => h)
        clear x0 x1 x2 x3 x4
        obtain ⟨_, e, _, _, hfz, hcell⟩ := hO.cells hlt
        injection e with e
        injection e with e _ _
        subst e
        obtain ⟨u0, v0⟩ := hcell 0 (by omega)
        have g0 := hfz (j * 5)
        obtain ⟨u1, v1⟩ := hcell 1 (by omega)
        have g1 := hfz (j * 5 + 1)
        obtain ⟨u2, v2⟩ := hcell 2 (by omega)
        have g2 := hfz (j * 5 + 2)
        obtain ⟨u3, v3⟩ := hcell 3 (by omega)
        have g3 := hfz (j * 5 + 3)
        obtain ⟨u4, v4⟩ := hcell 4 (by omega)
        have g4 := hfz (j * 5 + 4)
        rw [Nat.add_zero] at v0
        clear hcell hfz
        go_wp2_with fail
        go_roundw
        case rel => exact ⟨j + 1, by omega, by go_num, by
          have hput := Own.put hO hlt [.int .i64 ((sAt xs j).op), .int .i64 ((sAt xs j).num), .int .i64 ((sAt xs j).into), .slice b3 n3 n3, .slice b4 n4 n4] [.num ((sAt xs j).op), .num ((sAt xs j).num), .num ((sAt xs j).into), encInts ((sAt xs j).args), encBlocks ((sAt xs j).kids)] rfl ts (by omega) (by omega)
          have hset := rowsTo_succ (rowsS xs) [.num 0, .num 0, .num 0, .arr 1 [], .arr 2 []] (j := j) (by have := HRL.out; omega)
          rw [steps_row xs j (by have := HL.out; omega)] at hset
          rw [hset] at hput
          exact hput.mono (fun k hk => ⟨hk.1, by simp only [World.size_setCell]; omega⟩), by
          have hkk := keep_set (b := w.heap.size) (o := j * 5) (us := [.int .i64 ((sAt xs j).op), .int .i64 ((sAt xs j).num), .int .i64 ((sAt xs j).into), .slice b3 n3 n3, .slice b4 n4 n4]) (hK.trans p2) (Nat.le_refl _)
          exact hkk, by simp only [World.size_setCell]; omega⟩
        case measure => simp [intOf]; omega
      · have HJ : Hid (j = n) := by show _ = _; omega
        go_wp2
        exact fin_ hQ ⟨_, rfl, by
          have e := HJ.out
          subst e
          rw [rowsTo_all _ _ HRL.out.symm] at hO
          exact hO.mono (fun k hk => hk.1), hK⟩
  · intro xs hvol a n c D w h hz
    have IHStep : ∀ ys : List StepL, volD (encSteps ys) < volD (encBlocks xs) → ToC 188 (encSteps ys) := fun ys hy => ihS ys (by omega)
    have IHBlock : ∀ ys : List BlockL, volD (encBlocks ys) < volD (encBlocks xs) → ToC 232 (encBlocks ys) := fun ys hy => ihB ys (by omega)
    clear ihS ihB hvol
    refine calls_k fun Q hQ => ?_
    obtain ⟨e1, hnc, hm, hat⟩ := blocks_at h
    have HL := Lib.hid e1
    have hrl : (rowsB xs).length = n := by rw [blocks_len]; exact e1
    obtain ⟨hz1, hz2⟩ := szD_arr (s := 2) (rows := (rowsB xs)) hz
    have hn : n ≤ 1048576 := by omega
    have HZ := Lib.hid (fun (j i : Nat) (hj : j < n) => szD_cell hz2 (i := j) (by rw [hrl]; exact hj) i)
    have HRL := Lib.hid hrl
    have HA := Lib.hid hat
    clear hat e1 hrl hz hz1 hz2
    go_enter Tryz.func232, Tryz.ntmps232
    go_wp2_with (at_make; refine wpList_makeN _ rfl _ _ 134 rfl 69 (.agg #[.slice none 0 0, .int .i64 0]) #[.slice none 0 0, .int .i64 0] 2 32 Tryz.underlying134 (by kernel_rfl) rfl rfl n rfl rfl (by omega) (by omega) ?_; intro w1 hrow hk1 hsz)
    have O0 := Own.made (zd := [.arr 5 [], .num 0]) hrow rfl (by omega) (by omega) (fun j hj => by
      rcases j with _ | _ | j
      · exact .nil _ _ _ _
      · exact .num _ 0
      · omega)
    replace O0 := O0.mono (D' := fun k => w.heap.size ≤ k ∧ k < w1.heap.size) (fun k hk => by omega)
    rw [← HRL.out, ← rowsTo_zero, HRL.out] at O0
    clear hrow
    go_loopw [4] (fun iv wr => ∃ j : Nat, j ≤ n ∧ iv = .int .i64 j ∧ Own wr (fun k => w.heap.size ≤ k ∧ k < wr.heap.size) (.arr 2 (rowsTo (rowsB xs) [.arr 5 [], .num 0] j)) (.slice (some ⟨w.heap.size, 0, none⟩) n n) ∧ Keep w wr ∧ w.heap.size < wr.heap.size) (fun i _ => n - (intOf i).toNat)
    case atStart => exact ⟨0, Nat.zero_le _, rfl, O0, hk1, by omega⟩
    case round =>
      obtain ⟨j, hj, rfl, hO, hK, hgt⟩ := hrel
      by_cases hlt : j < n
      · obtain ⟨b, o, rfl, hd, a0, n0, c0, d0, d1, r0⟩ := HA.out j hlt
        have x0 := (hK.cell (World.block_lt_of_cell? w _ d0) (fun h => h)).trans d0
        have x1 := (hK.cell (World.block_lt_of_cell? w _ d1) (fun h => h)).trans d1
        have q0 := r0.k hK
        have hrow := blocks_row xs j (by have := HL.out; omega)
        have y0 := HZ.out j 0 hlt
        rw [hrow] at y0
        simp only [dGet, List.getD, List.getElem?_cons_zero, Option.getD_some] at y0
        clear hrow
        clear d0 d1 r0
        go_wp2_with fail
        refine (toBlock _ _ _ _ _ _ _ q0 y0 (IHStep _ (by have := vol_lt (s := 2) (rows := (rowsB xs)) (i := j) (j := 0) (by have := HRL.out; omega) (by rw [blocks_row xs j (by have := HL.out; omega)]; simp); rw [rAt, blocks_row xs j (by have := HL.out; omega)] at this; simp only [dGet, List.getD, List.getElem?_cons_zero, Option.getD_some] at this; exact this))).mono ?_
        rintro e w2 ⟨b0, rfl, ts, p2⟩
        have z2 := p2.size
        replace hO := hO.ext p2 (fun _ _ h => h)
        clear x0 x1
        obtain ⟨_, e, _, _, hfz, hcell⟩ := hO.cells hlt
        injection e with e
        injection e with e _ _
        subst e
        obtain ⟨u0, v0⟩ := hcell 0 (by omega)
        have g0 := hfz (j * 2)
        obtain ⟨u1, v1⟩ := hcell 1 (by omega)
        have g1 := hfz (j * 2 + 1)
        rw [Nat.add_zero] at v0
        clear hcell hfz
        go_wp2_with fail
        go_roundw
        case rel => exact ⟨j + 1, by omega, by go_num, by
          have hput := Own.put hO hlt [.slice b0 n0 n0, .int .i64 ((bAt xs j).result)] [encSteps ((bAt xs j).steps), .num ((bAt xs j).result)] rfl ts (by omega) (by omega)
          have hset := rowsTo_succ (rowsB xs) [.arr 5 [], .num 0] (j := j) (by have := HRL.out; omega)
          rw [blocks_row xs j (by have := HL.out; omega)] at hset
          rw [hset] at hput
          exact hput.mono (fun k hk => ⟨hk.1, by simp only [World.size_setCell]; omega⟩), by
          have hkk := keep_set (b := w.heap.size) (o := j * 2) (us := [.slice b0 n0 n0, .int .i64 ((bAt xs j).result)]) (hK.trans p2) (Nat.le_refl _)
          exact hkk, by simp only [World.size_setCell]; omega⟩
        case measure => simp [intOf]; omega
      · have HJ : Hid (j = n) := by show _ = _; omega
        go_wp2
        exact fin_ hQ ⟨_, rfl, by
          have e := HJ.out
          subst e
          rw [rowsTo_all _ _ HRL.out.symm] at hO
          exact hO.mono (fun k hk => hk.1), hK⟩
theorem toStepS (xs : List StepL) : ToC 188 (encSteps xs) := (toSB_n _).1 xs (Nat.lt_succ_self _)
set_option maxHeartbeats 2000000 in
theorem toRoutineS (xs : List RoutL) : ToC 37 (encRouts xs) := by
  intro a n c D w h hz
  refine calls_k fun Q hQ => ?_
  obtain ⟨e1, hnc, hm, hat⟩ := routs_at h
  have HL := Lib.hid e1
  have hrl : (xs.map rowR).length = n := by rw [routs_len]; exact e1
  obtain ⟨hz1, hz2⟩ := szD_arr (s := 5) (rows := (xs.map rowR)) hz
  have hn : n ≤ 1048576 := by omega
  have HZ := Lib.hid (fun (j i : Nat) (hj : j < n) => szD_cell hz2 (i := j) (by rw [hrl]; exact hj) i)
  have HRL := Lib.hid hrl
  have HA := Lib.hid hat
  clear hat e1 hrl hz hz1 hz2
  go_enter Tryz.func37, Tryz.ntmps37
  go_wp2_with (at_make; refine wpList_makeN _ rfl _ _ 28 rfl 71 (.agg #[.slice none 0 0, .slice none 0 0, .int .i64 0, .slice none 0 0, .int .i64 0]) #[.slice none 0 0, .slice none 0 0, .int .i64 0, .slice none 0 0, .int .i64 0] 5 88 Tryz.underlying28 (by kernel_rfl) rfl rfl n rfl rfl (by omega) (by omega) ?_; intro w1 hrow hk1 hsz)
  have O0 := Own.made (zd := [.arr 1 [], .arr 1 [], .num 0, .arr 5 [], .num 0]) hrow rfl (by omega) (by omega) (fun j hj => by
    rcases j with _ | _ | _ | _ | _ | j
    · exact .nil _ _ _ _
    · exact .nil _ _ _ _
    · exact .num _ 0
    · exact .nil _ _ _ _
    · exact .num _ 0
    · omega)
  replace O0 := O0.mono (D' := fun k => w.heap.size ≤ k ∧ k < w1.heap.size) (fun k hk => by omega)
  rw [← HRL.out, ← rowsTo_zero, HRL.out] at O0
  clear hrow
  go_loopw [4] (fun iv wr => ∃ j : Nat, j ≤ n ∧ iv = .int .i64 j ∧ Own wr (fun k => w.heap.size ≤ k ∧ k < wr.heap.size) (.arr 5 (rowsTo (xs.map rowR) [.arr 1 [], .arr 1 [], .num 0, .arr 5 [], .num 0] j)) (.slice (some ⟨w.heap.size, 0, none⟩) n n) ∧ Keep w wr ∧ w.heap.size < wr.heap.size) (fun i _ => n - (intOf i).toNat)
  case atStart => exact ⟨0, Nat.zero_le _, rfl, O0, hk1, by omega⟩
  case round =>
    obtain ⟨j, hj, rfl, hO, hK, hgt⟩ := hrel
    by_cases hlt : j < n
    · obtain ⟨b, o, rfl, hd, a0, n0, c0, a1, n1, c1, a3, n3, c3, d0, d1, d2, d3, d4, r0, r1, r3⟩ := HA.out j hlt
      have x0 := (hK.cell (World.block_lt_of_cell? w _ d0) (fun h => h)).trans d0
      have x1 := (hK.cell (World.block_lt_of_cell? w _ d1) (fun h => h)).trans d1
      have x2 := (hK.cell (World.block_lt_of_cell? w _ d2) (fun h => h)).trans d2
      have x3 := (hK.cell (World.block_lt_of_cell? w _ d3) (fun h => h)).trans d3
      have x4 := (hK.cell (World.block_lt_of_cell? w _ d4) (fun h => h)).trans d4
      have q0 := r0.k hK
      have q1 := r1.k hK
      have q3 := r3.k hK
      have hrow := routs_row xs j (by have := HL.out; omega)
      have y0 := HZ.out j 0 hlt
      rw [hrow] at y0
      simp only [dGet, List.getD, List.getElem?_cons_zero, Option.getD_some] at y0
      have y1 := HZ.out j 1 hlt
      rw [hrow] at y1
      simp only [dGet, List.getD, List.getElem?_cons_succ, List.getElem?_cons_zero, Option.getD_some] at y1
      have y3 := HZ.out j 3 hlt
      rw [hrow] at y3
      simp only [dGet, List.getD, List.getElem?_cons_succ, List.getElem?_cons_zero, Option.getD_some] at y3
      clear hrow
      clear d0 d1 d2 d3 d4 r0 r1 r3
      go_wp2_with fail
      refine (toRoutine _ _ _ _ _ _ _ _ _ _ _ _ _ _ _ _ q0 y0 q1 y1 q3 y3 (toIntS _) (toIntS _) (toStepS _)).mono ?_
      rintro e w2 ⟨b0, b1, b3, rfl, ts, p2⟩
      have z2 := p2.size
      replace hO := hO.ext p2 (fun _ _ h => h)
      clear x0 x1 x2 x3 x4
      obtain ⟨_, e, _, _, hfz, hcell⟩ := hO.cells hlt
      injection e with e
      injection e with e _ _
      subst e
      obtain ⟨u0, v0⟩ := hcell 0 (by omega)
      have g0 := hfz (j * 5)
      obtain ⟨u1, v1⟩ := hcell 1 (by omega)
      have g1 := hfz (j * 5 + 1)
      obtain ⟨u2, v2⟩ := hcell 2 (by omega)
      have g2 := hfz (j * 5 + 2)
      obtain ⟨u3, v3⟩ := hcell 3 (by omega)
      have g3 := hfz (j * 5 + 3)
      obtain ⟨u4, v4⟩ := hcell 4 (by omega)
      have g4 := hfz (j * 5 + 4)
      rw [Nat.add_zero] at v0
      clear hcell hfz
      go_wp2_with fail
      go_roundw
      case rel => exact ⟨j + 1, by omega, by go_num, by
        have hput := Own.put hO hlt [.slice b0 n0 n0, .slice b1 n1 n1, .int .i64 ((rtAt xs j).result), .slice b3 n3 n3, .int .i64 ((rtAt xs j).body.result)] [encInts ((rtAt xs j).params), encInts ((rtAt xs j).lent), .num ((rtAt xs j).result), encSteps ((rtAt xs j).body.steps), .num ((rtAt xs j).body.result)] rfl ts (by omega) (by omega)
        have hset := rowsTo_succ (xs.map rowR) [.arr 1 [], .arr 1 [], .num 0, .arr 5 [], .num 0] (j := j) (by have := HRL.out; omega)
        rw [routs_row xs j (by have := HL.out; omega)] at hset
        rw [hset] at hput
        exact hput.mono (fun k hk => ⟨hk.1, by simp only [World.size_setCell]; omega⟩), by
        have hkk := keep_set (b := w.heap.size) (o := j * 5) (us := [.slice b0 n0 n0, .slice b1 n1 n1, .int .i64 ((rtAt xs j).result), .slice b3 n3 n3, .int .i64 ((rtAt xs j).body.result)]) (hK.trans p2) (Nat.le_refl _)
        exact hkk, by simp only [World.size_setCell]; omega⟩
      case measure => simp [intOf]; omega
    · have HJ : Hid (j = n) := by show _ = _; omega
      go_wp2
      exact fin_ hQ ⟨_, rfl, by
        have e := HJ.out
        subst e
        rw [rowsTo_all _ _ HRL.out.symm] at hO
        exact hO.mono (fun k hk => hk.1), hK⟩

end Go.Proofs.YtkapldpmjkdmcaaGreat
