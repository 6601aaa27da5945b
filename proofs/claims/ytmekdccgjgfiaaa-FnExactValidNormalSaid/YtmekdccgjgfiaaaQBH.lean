/- The laws' own helpers: the sizes of data. -/
import Derived.Test.YtmekdccgjgfiaaaQAC
import Derived.StillTailTactics
import Derived.IntWalk
namespace Go.Proofs.Ytmekdccgjgfiaaa
open Go.RowKit


/-- What is left of left, behind s. -/
def szo (s : Nat) (left : Int) : Int := if (s : Int) ≤ left then left - (s : Int) else -1
theorem szo_yes {s : Nat} {left : Int} (h : (s : Int) ≤ left) : szo s left = left - (s : Int) := if_pos h
theorem szo_no {s : Nat} {left : Int} (h : left < (s : Int)) : szo s left = -1 := if_neg (by omega)
def SzC (f : FuncId) (d : Dat) : Prop := ∀ (a : Option Addr) (n c : Nat) (D : Nat → Prop) (w : World) (left : Int), Rd w D d (.slice a n c) → 0 ≤ left → left ≤ 1048576 →
  Calls Try.prog f #[.slice a n c, .int .i64 left] w fun e w' => e = .returned (.int .i64 (szo (szD d) left)) ∧ Keep w w'
theorem szRR_ints (xs : List Int) : szRR (xs.map rowI) = 0 := by induction xs <;> simp_all [szRR, szR, rowI, szD]


theorem szIntS (xs : List Int) : SzC 59 (encInts xs) := by
  intro a n c D w left h h0 h1
  refine calls_k fun Q hQ => ?_
  obtain ⟨e1, hnc, hm, _⟩ := ints_at h
  have e2 : szD (encInts xs) = n := by rw [encInts, szD, szRR_ints, List.length_map]; omega
  rw [e2] at hQ
  clear e1 e2
  by_cases hl : (n : Int) ≤ left
  · have V := Lib.hid (szo_yes hl)
    go_enter Try.func59, Try.ntmps59
    go_wp2_with fail
    exact fin_ hQ ⟨ret_i V.out.symm, Ext.refl _ _⟩
  · have V := Lib.hid (szo_no (s := n) (left := left) (by omega))
    have t : left - (n : Int) < 0 := by omega
    go_enter Try.func59, Try.ntmps59
    go_wp2_with fail
    exact fin_ hQ ⟨ret_i V.out.symm, Ext.refl _ _⟩

theorem szCon (D : Nat → Prop) (w : World) (left : Int) (a0 : Option Addr) (n0 c0 : Nat) (d0 : Dat) (r0 : Rd w D d0 (.slice a0 n0 c0)) (k0 : SzC 59 d0) (h0 : 0 ≤ left) (h1 : left ≤ 1048576) :
    Calls Try.prog 80 #[.agg #[.slice a0 n0 c0], .int .i64 left] w fun e w' => e = .returned (.int .i64 (szo (szD d0) left)) ∧ Keep w w' := by
  refine calls_k fun Q hQ => ?_
  by_cases y0 : ((szD d0 : Nat) : Int) ≤ left
  case neg =>
    go_enter Try.func80, Try.ntmps80
    have kb : Keep w (w.alloc (.cells #[.slice a0 n0 c0] 133)) := Keep.al _ _
    have q0 := r0.k kb
    have V0 : Hid (szo (szD d0) (left) = -1) := szo_no (by omega)
    go_wp2_with fail
    refine (k0 _ _ _ _ _ _ q0 (by omega) (by omega)).mono ?_
    rw [V0.out]
    rintro e w1 ⟨rfl, p0⟩
    replace kb := kb.trans p0
    replace q0 := q0.k p0
    go_wp2_with fail
    exact fin_ hQ ⟨ret_i (szo_no (by omega)).symm, kb⟩
  go_enter Try.func80, Try.ntmps80
  have kb : Keep w (w.alloc (.cells #[.slice a0 n0 c0] 133)) := Keep.al _ _
  have q0 := r0.k kb
  have V0 : Hid (szo (szD d0) (left) = left - ((szD d0 : Int))) := by show _ = _; rw [szo_yes (by omega)] <;> omega
  go_wp2_with fail
  refine (k0 _ _ _ _ _ _ q0 (by omega) (by omega)).mono ?_
  rw [V0.out]
  rintro e w1 ⟨rfl, p0⟩
  replace kb := kb.trans p0
  replace q0 := q0.k p0
  have t0 : 0 ≤ left - ((szD d0 : Int)) := by omega
  go_wp2_with fail
  exact fin_ hQ ⟨ret_i (szo_yes (by omega)).symm, kb⟩

set_option maxHeartbeats 1000000 in
theorem szConS (xs : List (List Int)) : SzC 58 (encCons xs) := by
  intro a n c D w left h h0 h1
  refine calls_k fun Q hQ => ?_
  obtain ⟨e1, hnc, hm, hat⟩ := cons_at h
  have HL := Lib.hid e1
  have hrl : (xs.map rowC).length = n := by rw [cons_len]; exact e1
  have e2 : szD (encCons xs) = n + szRR (xs.map rowC) := by rw [encCons, szD, hrl]
  rw [e2] at hQ
  have HA := Lib.hid hat
  clear hat e1 e2
  by_cases hl : (n : Int) ≤ left
  case neg =>
    have V := Lib.hid (szo_no (s := n + szRR (xs.map rowC)) (left := left) (by omega))
    have t : left - (n : Int) < 0 := by omega
    go_enter Try.func58, Try.ntmps58
    go_wp2_with fail
    exact fin_ hQ ⟨ret_i V.out.symm, Ext.refl _ _⟩
  have HRL := Lib.hid hrl
  clear hrl
  go_enter Try.func58, Try.ntmps58
  go_wp2_with fail
  go_loopw [1, 5] (fun lv iv wr => ∃ j : Nat, j ≤ n ∧ iv = .int .i64 j ∧ lv = .int .i64 (left - (n : Int) - (szRR ((xs.map rowC).take j) : Int)) ∧ (szRR ((xs.map rowC).take j) : Int) ≤ left - (n : Int) ∧ Keep w wr) (fun _ i _ => n - (intOf i).toNat)
  case atStart => exact ⟨0, Nat.zero_le _, rfl, by simp [szRR], by simp only [List.take_zero, szRR]; omega, Ext.refl _ _⟩
  case round =>
    obtain ⟨j, hj, rfl, rfl, hsz, hK⟩ := hrel
    by_cases hlt : j < n
    · have hst := szRR_take (xs.map rowC) j (by have := HRL.out; omega)
      rw [cons_row xs j (by have := HL.out; omega)] at hst
      simp only [szR, Nat.add_zero] at hst
      have htl := szRR_take_le (xs.map rowC) (j + 1)
      obtain ⟨b, o, rfl, hd, a0, n0, c0, d0, r0⟩ := HA.out j hlt
      have g0 := (hK.cell (World.block_lt_of_cell? w _ d0) (fun h => h)).trans d0
      have q0 := r0.k hK
      clear d0
      replace hst : szRR ((xs.map rowC).take (j + 1)) = szRR ((xs.map rowC).take j) + (szD (encInts (cAt xs j))) := by rw [hst]
      generalize hS : szD (encInts (cAt xs j)) = S at hst
      have HS := Lib.hid hS
      clear hS
      have t0 : 0 ≤ left - (n : Int) - (szRR ((xs.map rowC).take j) : Int) := by omega
      by_cases hf : (S : Int) ≤ left - (n : Int) - (szRR ((xs.map rowC).take j) : Int)
      · have V : Hid (szo S (left - (n : Int) - (szRR ((xs.map rowC).take j) : Int)) = left - (n : Int) - (szRR ((xs.map rowC).take (j + 1)) : Int)) := by show _ = _; rw [szo_yes hf]; omega
        have t1 : 0 ≤ left - (n : Int) - (szRR ((xs.map rowC).take (j + 1)) : Int) := by omega
        go_wp2_with fail
        refine (szCon _ _ _ _ _ _ _ q0 (szIntS _) (by omega) (by omega)).mono ?_
        rw [HS.out, V.out]
        rintro e w1 ⟨rfl, p1⟩
        go_wp2_with fail
        go_roundw
        case rel => exact ⟨j + 1, by omega, by go_num, by rw [hst, Int.natCast_add], by omega, hK.trans p1⟩
        case measure => simp [intOf]; omega
      · have V : Hid (szo S (left - (n : Int) - (szRR ((xs.map rowC).take j) : Int)) = -1) := szo_no (by omega)
        go_wp2_with fail
        refine (szCon _ _ _ _ _ _ _ q0 (szIntS _) (by omega) (by omega)).mono ?_
        rw [HS.out, V.out]
        rintro e w1 ⟨rfl, p1⟩
        go_wp2_with fail
        exact fin_ hQ ⟨ret_i (szo_no (by omega)).symm, hK.trans p1⟩
    · have HJ : Hid (j = n) := by show _ = _; omega
      go_wp2
      exact fin_ hQ ⟨ret_i (by rw [HJ.out, List.take_of_length_le (Nat.le_of_eq HRL.out)]; have e := HJ.out; subst e; rw [List.take_of_length_le (Nat.le_of_eq HRL.out)] at hsz; rw [szo_yes (by omega)]; omega), hK⟩

theorem szDecl (D : Nat → Prop) (w : World) (left : Int) (z0 : Int) (z1 : Int) (a2 : Option Addr) (n2 c2 : Nat) (d2 : Dat) (r2 : Rd w D d2 (.slice a2 n2 c2)) (k2 : SzC 58 d2) (h0 : 0 ≤ left) (h1 : left ≤ 1048576) :
    Calls Try.prog 35 #[.agg #[.int .i64 z0, .int .i64 z1, .slice a2 n2 c2], .int .i64 left] w fun e w' => e = .returned (.int .i64 (szo (szD d2) left)) ∧ Keep w w' := by
  refine calls_k fun Q hQ => ?_
  by_cases y0 : ((szD d2 : Nat) : Int) ≤ left
  case neg =>
    go_enter Try.func35, Try.ntmps35
    have kb : Keep w (w.alloc (.cells #[.int .i64 z0, .int .i64 z1, .slice a2 n2 c2] 71)) := Keep.al _ _
    have q2 := r2.k kb
    have V0 : Hid (szo (szD d2) (left) = -1) := szo_no (by omega)
    go_wp2_with fail
    refine (k2 _ _ _ _ _ _ q2 (by omega) (by omega)).mono ?_
    rw [V0.out]
    rintro e w1 ⟨rfl, p0⟩
    replace kb := kb.trans p0
    replace q2 := q2.k p0
    go_wp2_with fail
    exact fin_ hQ ⟨ret_i (szo_no (by omega)).symm, kb⟩
  go_enter Try.func35, Try.ntmps35
  have kb : Keep w (w.alloc (.cells #[.int .i64 z0, .int .i64 z1, .slice a2 n2 c2] 71)) := Keep.al _ _
  have q2 := r2.k kb
  have V0 : Hid (szo (szD d2) (left) = left - ((szD d2 : Int))) := by show _ = _; rw [szo_yes (by omega)] <;> omega
  go_wp2_with fail
  refine (k2 _ _ _ _ _ _ q2 (by omega) (by omega)).mono ?_
  rw [V0.out]
  rintro e w1 ⟨rfl, p0⟩
  replace kb := kb.trans p0
  replace q2 := q2.k p0
  have t0 : 0 ≤ left - ((szD d2 : Int)) := by omega
  go_wp2_with fail
  exact fin_ hQ ⟨ret_i (szo_yes (by omega)).symm, kb⟩

set_option maxHeartbeats 1000000 in
theorem szDeclS (xs : List DeclL) : SzC 17 (encDecls xs) := by
  intro a n c D w left h h0 h1
  refine calls_k fun Q hQ => ?_
  obtain ⟨e1, hnc, hm, hat⟩ := decls_at h
  have HL := Lib.hid e1
  have hrl : (xs.map rowD).length = n := by rw [decls_len]; exact e1
  have e2 : szD (encDecls xs) = n + szRR (xs.map rowD) := by rw [encDecls, szD, hrl]
  rw [e2] at hQ
  have HA := Lib.hid hat
  clear hat e1 e2
  by_cases hl : (n : Int) ≤ left
  case neg =>
    have V := Lib.hid (szo_no (s := n + szRR (xs.map rowD)) (left := left) (by omega))
    have t : left - (n : Int) < 0 := by omega
    go_enter Try.func17, Try.ntmps17
    go_wp2_with fail
    exact fin_ hQ ⟨ret_i V.out.symm, Ext.refl _ _⟩
  have HRL := Lib.hid hrl
  clear hrl
  go_enter Try.func17, Try.ntmps17
  go_wp2_with fail
  go_loopw [1, 5] (fun lv iv wr => ∃ j : Nat, j ≤ n ∧ iv = .int .i64 j ∧ lv = .int .i64 (left - (n : Int) - (szRR ((xs.map rowD).take j) : Int)) ∧ (szRR ((xs.map rowD).take j) : Int) ≤ left - (n : Int) ∧ Keep w wr) (fun _ i _ => n - (intOf i).toNat)
  case atStart => exact ⟨0, Nat.zero_le _, rfl, by simp [szRR], by simp only [List.take_zero, szRR]; omega, Ext.refl _ _⟩
  case round =>
    obtain ⟨j, hj, rfl, rfl, hsz, hK⟩ := hrel
    by_cases hlt : j < n
    · have hst := szRR_take (xs.map rowD) j (by have := HRL.out; omega)
      rw [decls_row xs j (by have := HL.out; omega)] at hst
      simp only [szR, szD, Nat.zero_add, Nat.add_zero] at hst
      have htl := szRR_take_le (xs.map rowD) (j + 1)
      obtain ⟨b, o, rfl, hd, a2, n2, c2, d0, d1, d2, r2⟩ := HA.out j hlt
      have g0 := (hK.cell (World.block_lt_of_cell? w _ d0) (fun h => h)).trans d0
      have g1 := (hK.cell (World.block_lt_of_cell? w _ d1) (fun h => h)).trans d1
      have g2 := (hK.cell (World.block_lt_of_cell? w _ d2) (fun h => h)).trans d2
      have q2 := r2.k hK
      clear d0 d1 d2
      replace hst : szRR ((xs.map rowD).take (j + 1)) = szRR ((xs.map rowD).take j) + (szD (encCons ((dAt xs j).cons))) := by rw [hst]
      generalize hS : szD (encCons ((dAt xs j).cons)) = S at hst
      have HS := Lib.hid hS
      clear hS
      have t0 : 0 ≤ left - (n : Int) - (szRR ((xs.map rowD).take j) : Int) := by omega
      by_cases hf : (S : Int) ≤ left - (n : Int) - (szRR ((xs.map rowD).take j) : Int)
      · have V : Hid (szo S (left - (n : Int) - (szRR ((xs.map rowD).take j) : Int)) = left - (n : Int) - (szRR ((xs.map rowD).take (j + 1)) : Int)) := by show _ = _; rw [szo_yes hf]; omega
        have t1 : 0 ≤ left - (n : Int) - (szRR ((xs.map rowD).take (j + 1)) : Int) := by omega
        go_wp2_with fail
        refine (szDecl _ _ _ _ _ _ _ _ _ q2 (szConS _) (by omega) (by omega)).mono ?_
        rw [HS.out, V.out]
        rintro e w1 ⟨rfl, p1⟩
        go_wp2_with fail
        go_roundw
        case rel => exact ⟨j + 1, by omega, by go_num, by rw [hst, Int.natCast_add], by omega, hK.trans p1⟩
        case measure => simp [intOf]; omega
      · have V : Hid (szo S (left - (n : Int) - (szRR ((xs.map rowD).take j) : Int)) = -1) := szo_no (by omega)
        go_wp2_with fail
        refine (szDecl _ _ _ _ _ _ _ _ _ q2 (szConS _) (by omega) (by omega)).mono ?_
        rw [HS.out, V.out]
        rintro e w1 ⟨rfl, p1⟩
        go_wp2_with fail
        exact fin_ hQ ⟨ret_i (szo_no (by omega)).symm, hK.trans p1⟩
    · have HJ : Hid (j = n) := by show _ = _; omega
      go_wp2
      exact fin_ hQ ⟨ret_i (by rw [HJ.out, List.take_of_length_le (Nat.le_of_eq HRL.out)]; have e := HJ.out; subst e; rw [List.take_of_length_le (Nat.le_of_eq HRL.out)] at hsz; rw [szo_yes (by omega)]; omega), hK⟩






theorem szStep (D : Nat → Prop) (w : World) (left : Int) (z0 : Int) (z1 : Int) (z2 : Int) (a3 : Option Addr) (n3 c3 : Nat) (d3 : Dat) (a4 : Option Addr) (n4 c4 : Nat) (d4 : Dat) (r3 : Rd w D d3 (.slice a3 n3 c3)) (r4 : Rd w D d4 (.slice a4 n4 c4)) (k3 : SzC 59 d3) (k4 : SzC 60 d4) (h0 : 0 ≤ left) (h1 : left ≤ 1048576) :
    Calls Try.prog 37 #[.agg #[.int .i64 z0, .int .i64 z1, .int .i64 z2, .slice a3 n3 c3, .slice a4 n4 c4], .int .i64 left] w fun e w' => e = .returned (.int .i64 (szo (szD d3 + szD d4) left)) ∧ Keep w w' := by
  refine calls_k fun Q hQ => ?_
  by_cases y0 : ((szD d3 : Nat) : Int) ≤ left
  case neg =>
    go_enter Try.func37, Try.ntmps37
    have kb : Keep w (w.alloc (.cells #[.int .i64 z0, .int .i64 z1, .int .i64 z2, .slice a3 n3 c3, .slice a4 n4 c4] 78)) := Keep.al _ _
    have q3 := r3.k kb
    have q4 := r4.k kb
    have V0 : Hid (szo (szD d3) (left) = -1) := szo_no (by omega)
    go_wp2_with fail
    refine (k3 _ _ _ _ _ _ q3 (by omega) (by omega)).mono ?_
    rw [V0.out]
    rintro e w1 ⟨rfl, p0⟩
    replace kb := kb.trans p0
    replace q3 := q3.k p0
    replace q4 := q4.k p0
    go_wp2_with fail
    exact fin_ hQ ⟨ret_i (szo_no (by omega)).symm, kb⟩
  by_cases y1 : ((szD d3 + szD d4 : Nat) : Int) ≤ left
  case neg =>
    go_enter Try.func37, Try.ntmps37
    have kb : Keep w (w.alloc (.cells #[.int .i64 z0, .int .i64 z1, .int .i64 z2, .slice a3 n3 c3, .slice a4 n4 c4] 78)) := Keep.al _ _
    have bk : Keep (w.alloc (.cells #[.int .i64 z0, .int .i64 z1, .int .i64 z2, .slice a3 n3 c3, .slice a4 n4 c4] 78)) (w.alloc (.cells #[.int .i64 z0, .int .i64 z1, .int .i64 z2, .slice a3 n3 c3, .slice a4 n4 c4] 78)) := Ext.refl _ _
    have q3 := r3.k kb
    have q4 := r4.k kb
    have V0 : Hid (szo (szD d3) (left) = left - ((szD d3 : Int))) := by show _ = _; rw [szo_yes (by omega)] <;> omega
    go_wp2_with fail
    refine (k3 _ _ _ _ _ _ q3 (by omega) (by omega)).mono ?_
    rw [V0.out]
    rintro e w1 ⟨rfl, p0⟩
    replace kb := kb.trans p0
    replace bk := bk.trans p0
    replace q3 := q3.k p0
    replace q4 := q4.k p0
    have t0 : 0 ≤ left - ((szD d3 : Int)) := by omega
    have V1 : Hid (szo (szD d4) (left - ((szD d3 : Int))) = -1) := szo_no (by omega)
    have x0 := boxk bk 0
    have x1 := boxk bk 1
    have x2 := boxk bk 2
    have x3 := boxk bk 3
    have x4 := boxk bk 4
    simp at x0 x1 x2 x3 x4
    go_wp2_with fail
    clear x0 x1 x2 x3 x4
    refine (k4 _ _ _ _ _ _ q4 (by omega) (by omega)).mono ?_
    rw [V1.out]
    rintro e w2 ⟨rfl, p1⟩
    replace kb := kb.trans p1
    replace bk := bk.trans p1
    replace q3 := q3.k p1
    replace q4 := q4.k p1
    go_wp2_with fail
    exact fin_ hQ ⟨ret_i (szo_no (by omega)).symm, kb⟩
  go_enter Try.func37, Try.ntmps37
  have kb : Keep w (w.alloc (.cells #[.int .i64 z0, .int .i64 z1, .int .i64 z2, .slice a3 n3 c3, .slice a4 n4 c4] 78)) := Keep.al _ _
  have bk : Keep (w.alloc (.cells #[.int .i64 z0, .int .i64 z1, .int .i64 z2, .slice a3 n3 c3, .slice a4 n4 c4] 78)) (w.alloc (.cells #[.int .i64 z0, .int .i64 z1, .int .i64 z2, .slice a3 n3 c3, .slice a4 n4 c4] 78)) := Ext.refl _ _
  have q3 := r3.k kb
  have q4 := r4.k kb
  have V0 : Hid (szo (szD d3) (left) = left - ((szD d3 : Int))) := by show _ = _; rw [szo_yes (by omega)] <;> omega
  go_wp2_with fail
  refine (k3 _ _ _ _ _ _ q3 (by omega) (by omega)).mono ?_
  rw [V0.out]
  rintro e w1 ⟨rfl, p0⟩
  replace kb := kb.trans p0
  replace bk := bk.trans p0
  replace q3 := q3.k p0
  replace q4 := q4.k p0
  have t0 : 0 ≤ left - ((szD d3 : Int)) := by omega
  have V1 : Hid (szo (szD d4) (left - ((szD d3 : Int))) = left - ((szD d3 : Int) + (szD d4 : Int))) := by show _ = _; rw [szo_yes (by omega)] <;> omega
  have x0 := boxk bk 0
  have x1 := boxk bk 1
  have x2 := boxk bk 2
  have x3 := boxk bk 3
  have x4 := boxk bk 4
  simp at x0 x1 x2 x3 x4
  go_wp2_with fail
  clear x0 x1 x2 x3 x4
  refine (k4 _ _ _ _ _ _ q4 (by omega) (by omega)).mono ?_
  rw [V1.out]
  rintro e w2 ⟨rfl, p1⟩
  replace kb := kb.trans p1
  replace bk := bk.trans p1
  replace q3 := q3.k p1
  replace q4 := q4.k p1
  have t1 : 0 ≤ left - ((szD d3 : Int) + (szD d4 : Int)) := by omega
  go_wp2_with fail
  exact fin_ hQ ⟨ret_i (szo_yes (by omega)).symm, kb⟩

theorem szBlock (D : Nat → Prop) (w : World) (left : Int) (a0 : Option Addr) (n0 c0 : Nat) (d0 : Dat) (z1 : Int) (r0 : Rd w D d0 (.slice a0 n0 c0)) (k0 : SzC 19 d0) (h0 : 0 ≤ left) (h1 : left ≤ 1048576) :
    Calls Try.prog 6 #[.agg #[.slice a0 n0 c0, .int .i64 z1], .int .i64 left] w fun e w' => e = .returned (.int .i64 (szo (szD d0) left)) ∧ Keep w w' := by
  refine calls_k fun Q hQ => ?_
  by_cases y0 : ((szD d0 : Nat) : Int) ≤ left
  case neg =>
    go_enter Try.func6, Try.ntmps6
    have kb : Keep w (w.alloc (.cells #[.slice a0 n0 c0, .int .i64 z1] 29)) := Keep.al _ _
    have q0 := r0.k kb
    have V0 : Hid (szo (szD d0) (left) = -1) := szo_no (by omega)
    go_wp2_with fail
    refine (k0 _ _ _ _ _ _ q0 (by omega) (by omega)).mono ?_
    rw [V0.out]
    rintro e w1 ⟨rfl, p0⟩
    replace kb := kb.trans p0
    replace q0 := q0.k p0
    go_wp2_with fail
    exact fin_ hQ ⟨ret_i (szo_no (by omega)).symm, kb⟩
  go_enter Try.func6, Try.ntmps6
  have kb : Keep w (w.alloc (.cells #[.slice a0 n0 c0, .int .i64 z1] 29)) := Keep.al _ _
  have q0 := r0.k kb
  have V0 : Hid (szo (szD d0) (left) = left - ((szD d0 : Int))) := by show _ = _; rw [szo_yes (by omega)] <;> omega
  go_wp2_with fail
  refine (k0 _ _ _ _ _ _ q0 (by omega) (by omega)).mono ?_
  rw [V0.out]
  rintro e w1 ⟨rfl, p0⟩
  replace kb := kb.trans p0
  replace q0 := q0.k p0
  have t0 : 0 ≤ left - ((szD d0 : Int)) := by omega
  go_wp2_with fail
  exact fin_ hQ ⟨ret_i (szo_yes (by omega)).symm, kb⟩

set_option maxHeartbeats 2000000 in
theorem szSB_n (N : Nat) : (∀ xs : List StepL, volD (encSteps xs) < N → SzC 19 (encSteps xs)) ∧ (∀ xs : List BlockL, volD (encBlocks xs) < N → SzC 60 (encBlocks xs)) := by
  induction N with
  | zero => exact ⟨fun xs h => by omega, fun xs h => by omega⟩
  | succ N ihN =>
  obtain ⟨ihS, ihB⟩ := ihN
  refine ⟨?_, ?_⟩
  · intro xs hvol a n c D w left h h0 h1
    have IHStep : ∀ ys : List StepL, volD (encSteps ys) < volD (encSteps xs) → SzC 19 (encSteps ys) := fun ys hy => ihS ys (by omega)
    have IHBlock : ∀ ys : List BlockL, volD (encBlocks ys) < volD (encSteps xs) → SzC 60 (encBlocks ys) := fun ys hy => ihB ys (by omega)
    clear ihS ihB hvol
    refine calls_k fun Q hQ => ?_
    obtain ⟨e1, hnc, hm, hat⟩ := steps_at h
    have HL := Lib.hid e1
    have hrl : (rowsS xs).length = n := by rw [steps_len]; exact e1
    have e2 : szD (encSteps xs) = n + szRR (rowsS xs) := by rw [encSteps, szD, hrl]
    rw [e2] at hQ
    have HA := Lib.hid hat
    clear hat e1 e2
    by_cases hl : (n : Int) ≤ left
    case neg =>
      have V := Lib.hid (szo_no (s := n + szRR (rowsS xs)) (left := left) (by omega))
      have t : left - (n : Int) < 0 := by omega
      go_enter Try.func19, Try.ntmps19
      go_wp2_with fail
      exact fin_ hQ ⟨ret_i V.out.symm, Ext.refl _ _⟩
    have HRL := Lib.hid hrl
    clear hrl
    go_enter Try.func19, Try.ntmps19
    go_wp2_with fail
    go_loopw [1, 5] (fun lv iv wr => ∃ j : Nat, j ≤ n ∧ iv = .int .i64 j ∧ lv = .int .i64 (left - (n : Int) - (szRR ((rowsS xs).take j) : Int)) ∧ (szRR ((rowsS xs).take j) : Int) ≤ left - (n : Int) ∧ Keep w wr) (fun _ i _ => n - (intOf i).toNat)
    case atStart => exact ⟨0, Nat.zero_le _, rfl, by simp [szRR], by simp only [List.take_zero, szRR]; omega, Ext.refl _ _⟩
    case round =>
      obtain ⟨j, hj, rfl, rfl, hsz, hK⟩ := hrel
      by_cases hlt : j < n
      · have hst := szRR_take (rowsS xs) j (by have := HRL.out; omega)
        rw [steps_row xs j (by have := HL.out; omega)] at hst
        simp only [szR, szD, Nat.zero_add, Nat.add_zero] at hst
        have htl := szRR_take_le (rowsS xs) (j + 1)
        obtain ⟨b, o, rfl, hd, a3, n3, c3, a4, n4, c4, d0, d1, d2, d3, d4, r3, r4⟩ := HA.out j hlt
        have g0 := (hK.cell (World.block_lt_of_cell? w _ d0) (fun h => h)).trans d0
        have g1 := (hK.cell (World.block_lt_of_cell? w _ d1) (fun h => h)).trans d1
        have g2 := (hK.cell (World.block_lt_of_cell? w _ d2) (fun h => h)).trans d2
        have g3 := (hK.cell (World.block_lt_of_cell? w _ d3) (fun h => h)).trans d3
        have g4 := (hK.cell (World.block_lt_of_cell? w _ d4) (fun h => h)).trans d4
        have q3 := r3.k hK
        have q4 := r4.k hK
        clear d0 d1 d2 d3 d4
        replace hst : szRR ((rowsS xs).take (j + 1)) = szRR ((rowsS xs).take j) + (szD (encInts ((sAt xs j).args)) + szD (encBlocks ((sAt xs j).kids))) := by rw [hst]
        generalize hS : szD (encInts ((sAt xs j).args)) + szD (encBlocks ((sAt xs j).kids)) = S at hst
        have HS := Lib.hid hS
        clear hS
        have t0 : 0 ≤ left - (n : Int) - (szRR ((rowsS xs).take j) : Int) := by omega
        by_cases hf : (S : Int) ≤ left - (n : Int) - (szRR ((rowsS xs).take j) : Int)
        · have V : Hid (szo S (left - (n : Int) - (szRR ((rowsS xs).take j) : Int)) = left - (n : Int) - (szRR ((rowsS xs).take (j + 1)) : Int)) := by show _ = _; rw [szo_yes hf]; omega
          have t1 : 0 ≤ left - (n : Int) - (szRR ((rowsS xs).take (j + 1)) : Int) := by omega
          go_wp2_with fail
          refine (szStep _ _ _ _ _ _ _ _ _ _ _ _ _ _ q3 q4 (szIntS _) (IHBlock _ (by have := vol_lt (s := 5) (rows := (rowsS xs)) (i := j) (j := 4) (by have := HRL.out; omega) (by rw [steps_row xs j (by have := HL.out; omega)]; simp); rw [rAt, steps_row xs j (by have := HL.out; omega)] at this; simp only [dGet, List.getD, List.getElem?_cons_succ, List.getElem?_cons_zero, Option.getD_some] at this; exact this)) (by omega) (by omega)).mono ?_
          rw [HS.out, V.out]
          rintro e w1 ⟨rfl, p1⟩
          go_wp2_with fail
          go_roundw
          case rel => exact ⟨j + 1, by omega, by go_num, by rw [hst, Int.natCast_add], by omega, hK.trans p1⟩
          case measure => simp [intOf]; omega
        · have V : Hid (szo S (left - (n : Int) - (szRR ((rowsS xs).take j) : Int)) = -1) := szo_no (by omega)
          go_wp2_with fail
          refine (szStep _ _ _ _ _ _ _ _ _ _ _ _ _ _ q3 q4 (szIntS _) (IHBlock _ (by have := vol_lt (s := 5) (rows := (rowsS xs)) (i := j) (j := 4) (by have := HRL.out; omega) (by rw [steps_row xs j (by have := HL.out; omega)]; simp); rw [rAt, steps_row xs j (by have := HL.out; omega)] at this; simp only [dGet, List.getD, List.getElem?_cons_succ, List.getElem?_cons_zero, Option.getD_some] at this; exact this)) (by omega) (by omega)).mono ?_
          rw [HS.out, V.out]
          rintro e w1 ⟨rfl, p1⟩
          go_wp2_with fail
          exact fin_ hQ ⟨ret_i (szo_no (by omega)).symm, hK.trans p1⟩
      · have HJ : Hid (j = n) := by show _ = _; omega
        go_wp2
        exact fin_ hQ ⟨ret_i (by rw [HJ.out, List.take_of_length_le (Nat.le_of_eq HRL.out)]; have e := HJ.out; subst e; rw [List.take_of_length_le (Nat.le_of_eq HRL.out)] at hsz; rw [szo_yes (by omega)]; omega), hK⟩
  · intro xs hvol a n c D w left h h0 h1
    have IHStep : ∀ ys : List StepL, volD (encSteps ys) < volD (encBlocks xs) → SzC 19 (encSteps ys) := fun ys hy => ihS ys (by omega)
    have IHBlock : ∀ ys : List BlockL, volD (encBlocks ys) < volD (encBlocks xs) → SzC 60 (encBlocks ys) := fun ys hy => ihB ys (by omega)
    clear ihS ihB hvol
    refine calls_k fun Q hQ => ?_
    obtain ⟨e1, hnc, hm, hat⟩ := blocks_at h
    have HL := Lib.hid e1
    have hrl : (rowsB xs).length = n := by rw [blocks_len]; exact e1
    have e2 : szD (encBlocks xs) = n + szRR (rowsB xs) := by rw [encBlocks, szD, hrl]
    rw [e2] at hQ
    have HA := Lib.hid hat
    clear hat e1 e2
    by_cases hl : (n : Int) ≤ left
    case neg =>
      have V := Lib.hid (szo_no (s := n + szRR (rowsB xs)) (left := left) (by omega))
      have t : left - (n : Int) < 0 := by omega
      go_enter Try.func60, Try.ntmps60
      go_wp2_with fail
      exact fin_ hQ ⟨ret_i V.out.symm, Ext.refl _ _⟩
    have HRL := Lib.hid hrl
    clear hrl
    go_enter Try.func60, Try.ntmps60
    go_wp2_with fail
    go_loopw [1, 5] (fun lv iv wr => ∃ j : Nat, j ≤ n ∧ iv = .int .i64 j ∧ lv = .int .i64 (left - (n : Int) - (szRR ((rowsB xs).take j) : Int)) ∧ (szRR ((rowsB xs).take j) : Int) ≤ left - (n : Int) ∧ Keep w wr) (fun _ i _ => n - (intOf i).toNat)
    case atStart => exact ⟨0, Nat.zero_le _, rfl, by simp [szRR], by simp only [List.take_zero, szRR]; omega, Ext.refl _ _⟩
    case round =>
      obtain ⟨j, hj, rfl, rfl, hsz, hK⟩ := hrel
      by_cases hlt : j < n
      · have hst := szRR_take (rowsB xs) j (by have := HRL.out; omega)
        rw [blocks_row xs j (by have := HL.out; omega)] at hst
        simp only [szR, szD, Nat.add_zero] at hst
        have htl := szRR_take_le (rowsB xs) (j + 1)
        obtain ⟨b, o, rfl, hd, a0, n0, c0, d0, d1, r0⟩ := HA.out j hlt
        have g0 := (hK.cell (World.block_lt_of_cell? w _ d0) (fun h => h)).trans d0
        have g1 := (hK.cell (World.block_lt_of_cell? w _ d1) (fun h => h)).trans d1
        have q0 := r0.k hK
        clear d0 d1
        replace hst : szRR ((rowsB xs).take (j + 1)) = szRR ((rowsB xs).take j) + (szD (encSteps ((bAt xs j).steps))) := by rw [hst]
        generalize hS : szD (encSteps ((bAt xs j).steps)) = S at hst
        have HS := Lib.hid hS
        clear hS
        have t0 : 0 ≤ left - (n : Int) - (szRR ((rowsB xs).take j) : Int) := by omega
        by_cases hf : (S : Int) ≤ left - (n : Int) - (szRR ((rowsB xs).take j) : Int)
        · have V : Hid (szo S (left - (n : Int) - (szRR ((rowsB xs).take j) : Int)) = left - (n : Int) - (szRR ((rowsB xs).take (j + 1)) : Int)) := by show _ = _; rw [szo_yes hf]; omega
          have t1 : 0 ≤ left - (n : Int) - (szRR ((rowsB xs).take (j + 1)) : Int) := by omega
          go_wp2_with fail
          refine (szBlock _ _ _ _ _ _ _ _ q0 (IHStep _ (by have := vol_lt (s := 2) (rows := (rowsB xs)) (i := j) (j := 0) (by have := HRL.out; omega) (by rw [blocks_row xs j (by have := HL.out; omega)]; simp); rw [rAt, blocks_row xs j (by have := HL.out; omega)] at this; simp only [dGet, List.getD, List.getElem?_cons_zero, Option.getD_some] at this; exact this)) (by omega) (by omega)).mono ?_
          rw [HS.out, V.out]
          rintro e w1 ⟨rfl, p1⟩
          go_wp2_with fail
          go_roundw
          case rel => exact ⟨j + 1, by omega, by go_num, by rw [hst, Int.natCast_add], by omega, hK.trans p1⟩
          case measure => simp [intOf]; omega
        · have V : Hid (szo S (left - (n : Int) - (szRR ((rowsB xs).take j) : Int)) = -1) := szo_no (by omega)
          go_wp2_with fail
          refine (szBlock _ _ _ _ _ _ _ _ q0 (IHStep _ (by have := vol_lt (s := 2) (rows := (rowsB xs)) (i := j) (j := 0) (by have := HRL.out; omega) (by rw [blocks_row xs j (by have := HL.out; omega)]; simp); rw [rAt, blocks_row xs j (by have := HL.out; omega)] at this; simp only [dGet, List.getD, List.getElem?_cons_zero, Option.getD_some] at this; exact this)) (by omega) (by omega)).mono ?_
          rw [HS.out, V.out]
          rintro e w1 ⟨rfl, p1⟩
          go_wp2_with fail
          exact fin_ hQ ⟨ret_i (szo_no (by omega)).symm, hK.trans p1⟩
      · have HJ : Hid (j = n) := by show _ = _; omega
        go_wp2
        exact fin_ hQ ⟨ret_i (by rw [HJ.out, List.take_of_length_le (Nat.le_of_eq HRL.out)]; have e := HJ.out; subst e; rw [List.take_of_length_le (Nat.le_of_eq HRL.out)] at hsz; rw [szo_yes (by omega)]; omega), hK⟩
theorem szStepS (xs : List StepL) : SzC 19 (encSteps xs) := (szSB_n _).1 xs (Nat.lt_succ_self _)
theorem szBlockS (xs : List BlockL) : SzC 60 (encBlocks xs) := (szSB_n _).2 xs (Nat.lt_succ_self _)

theorem szRoutine (D : Nat → Prop) (w : World) (left : Int) (a0 : Option Addr) (n0 c0 : Nat) (d0 : Dat) (a1 : Option Addr) (n1 c1 : Nat) (d1 : Dat) (z2 : Int) (a3 : Option Addr) (n3 c3 : Nat) (d3 : Dat) (z4 : Int) (r0 : Rd w D d0 (.slice a0 n0 c0)) (r1 : Rd w D d1 (.slice a1 n1 c1)) (r3 : Rd w D d3 (.slice a3 n3 c3)) (k0 : SzC 59 d0) (k1 : SzC 59 d1) (k3 : SzC 19 d3) (h0 : 0 ≤ left) (h1 : left ≤ 1048576) :
    Calls Try.prog 36 #[.agg #[.slice a0 n0 c0, .slice a1 n1 c1, .int .i64 z2, .slice a3 n3 c3, .int .i64 z4], .int .i64 left] w fun e w' => e = .returned (.int .i64 (szo (szD d0 + szD d1 + szD d3) left)) ∧ Keep w w' := by
  refine calls_k fun Q hQ => ?_
  by_cases y0 : ((szD d0 : Nat) : Int) ≤ left
  case neg =>
    go_enter Try.func36, Try.ntmps36
    have kb : Keep w (w.alloc (.cells #[.slice a0 n0 c0, .slice a1 n1 c1, .int .i64 z2, .slice a3 n3 c3, .int .i64 z4] 74)) := Keep.al _ _
    have q0 := r0.k kb
    have q1 := r1.k kb
    have q3 := r3.k kb
    have V0 : Hid (szo (szD d0) (left) = -1) := szo_no (by omega)
    go_wp2_with fail
    refine (k0 _ _ _ _ _ _ q0 (by omega) (by omega)).mono ?_
    rw [V0.out]
    rintro e w1 ⟨rfl, p0⟩
    replace kb := kb.trans p0
    replace q0 := q0.k p0
    replace q1 := q1.k p0
    replace q3 := q3.k p0
    go_wp2_with fail
    exact fin_ hQ ⟨ret_i (szo_no (by omega)).symm, kb⟩
  by_cases y1 : ((szD d0 + szD d1 : Nat) : Int) ≤ left
  case neg =>
    go_enter Try.func36, Try.ntmps36
    have kb : Keep w (w.alloc (.cells #[.slice a0 n0 c0, .slice a1 n1 c1, .int .i64 z2, .slice a3 n3 c3, .int .i64 z4] 74)) := Keep.al _ _
    have bk : Keep (w.alloc (.cells #[.slice a0 n0 c0, .slice a1 n1 c1, .int .i64 z2, .slice a3 n3 c3, .int .i64 z4] 74)) (w.alloc (.cells #[.slice a0 n0 c0, .slice a1 n1 c1, .int .i64 z2, .slice a3 n3 c3, .int .i64 z4] 74)) := Ext.refl _ _
    have q0 := r0.k kb
    have q1 := r1.k kb
    have q3 := r3.k kb
    have V0 : Hid (szo (szD d0) (left) = left - ((szD d0 : Int))) := by show _ = _; rw [szo_yes (by omega)] <;> omega
    go_wp2_with fail
    refine (k0 _ _ _ _ _ _ q0 (by omega) (by omega)).mono ?_
    rw [V0.out]
    rintro e w1 ⟨rfl, p0⟩
    replace kb := kb.trans p0
    replace bk := bk.trans p0
    replace q0 := q0.k p0
    replace q1 := q1.k p0
    replace q3 := q3.k p0
    have t0 : 0 ≤ left - ((szD d0 : Int)) := by omega
    have V1 : Hid (szo (szD d1) (left - ((szD d0 : Int))) = -1) := szo_no (by omega)
    have x0 := boxk bk 0
    have x1 := boxk bk 1
    have x2 := boxk bk 2
    have x3 := boxk bk 3
    have x4 := boxk bk 4
    simp at x0 x1 x2 x3 x4
    go_wp2_with fail
    clear x0 x1 x2 x3 x4
    refine (k1 _ _ _ _ _ _ q1 (by omega) (by omega)).mono ?_
    rw [V1.out]
    rintro e w2 ⟨rfl, p1⟩
    replace kb := kb.trans p1
    replace bk := bk.trans p1
    replace q0 := q0.k p1
    replace q1 := q1.k p1
    replace q3 := q3.k p1
    go_wp2_with fail
    exact fin_ hQ ⟨ret_i (szo_no (by omega)).symm, kb⟩
  by_cases y2 : ((szD d0 + szD d1 + szD d3 : Nat) : Int) ≤ left
  case neg =>
    go_enter Try.func36, Try.ntmps36
    have kb : Keep w (w.alloc (.cells #[.slice a0 n0 c0, .slice a1 n1 c1, .int .i64 z2, .slice a3 n3 c3, .int .i64 z4] 74)) := Keep.al _ _
    have bk : Keep (w.alloc (.cells #[.slice a0 n0 c0, .slice a1 n1 c1, .int .i64 z2, .slice a3 n3 c3, .int .i64 z4] 74)) (w.alloc (.cells #[.slice a0 n0 c0, .slice a1 n1 c1, .int .i64 z2, .slice a3 n3 c3, .int .i64 z4] 74)) := Ext.refl _ _
    have q0 := r0.k kb
    have q1 := r1.k kb
    have q3 := r3.k kb
    have V0 : Hid (szo (szD d0) (left) = left - ((szD d0 : Int))) := by show _ = _; rw [szo_yes (by omega)] <;> omega
    go_wp2_with fail
    refine (k0 _ _ _ _ _ _ q0 (by omega) (by omega)).mono ?_
    rw [V0.out]
    rintro e w1 ⟨rfl, p0⟩
    replace kb := kb.trans p0
    replace bk := bk.trans p0
    replace q0 := q0.k p0
    replace q1 := q1.k p0
    replace q3 := q3.k p0
    have t0 : 0 ≤ left - ((szD d0 : Int)) := by omega
    have V1 : Hid (szo (szD d1) (left - ((szD d0 : Int))) = left - ((szD d0 : Int) + (szD d1 : Int))) := by show _ = _; rw [szo_yes (by omega)] <;> omega
    have x0 := boxk bk 0
    have x1 := boxk bk 1
    have x2 := boxk bk 2
    have x3 := boxk bk 3
    have x4 := boxk bk 4
    simp at x0 x1 x2 x3 x4
    go_wp2_with fail
    clear x0 x1 x2 x3 x4
    refine (k1 _ _ _ _ _ _ q1 (by omega) (by omega)).mono ?_
    rw [V1.out]
    rintro e w2 ⟨rfl, p1⟩
    replace kb := kb.trans p1
    replace bk := bk.trans p1
    replace q0 := q0.k p1
    replace q1 := q1.k p1
    replace q3 := q3.k p1
    have t1 : 0 ≤ left - ((szD d0 : Int) + (szD d1 : Int)) := by omega
    have V2 : Hid (szo (szD d3) (left - ((szD d0 : Int) + (szD d1 : Int))) = -1) := szo_no (by omega)
    have x0 := boxk bk 0
    have x1 := boxk bk 1
    have x2 := boxk bk 2
    have x3 := boxk bk 3
    have x4 := boxk bk 4
    simp at x0 x1 x2 x3 x4
    go_wp2_with fail
    clear x0 x1 x2 x3 x4
    refine (szBlock _ _ _ _ _ _ _ _ q3 k3 (by omega) (by omega)).mono ?_
    rw [V2.out]
    rintro e w3 ⟨rfl, p2⟩
    replace kb := kb.trans p2
    replace bk := bk.trans p2
    replace q0 := q0.k p2
    replace q1 := q1.k p2
    replace q3 := q3.k p2
    go_wp2_with fail
    exact fin_ hQ ⟨ret_i (szo_no (by omega)).symm, kb⟩
  go_enter Try.func36, Try.ntmps36
  have kb : Keep w (w.alloc (.cells #[.slice a0 n0 c0, .slice a1 n1 c1, .int .i64 z2, .slice a3 n3 c3, .int .i64 z4] 74)) := Keep.al _ _
  have bk : Keep (w.alloc (.cells #[.slice a0 n0 c0, .slice a1 n1 c1, .int .i64 z2, .slice a3 n3 c3, .int .i64 z4] 74)) (w.alloc (.cells #[.slice a0 n0 c0, .slice a1 n1 c1, .int .i64 z2, .slice a3 n3 c3, .int .i64 z4] 74)) := Ext.refl _ _
  have q0 := r0.k kb
  have q1 := r1.k kb
  have q3 := r3.k kb
  have V0 : Hid (szo (szD d0) (left) = left - ((szD d0 : Int))) := by show _ = _; rw [szo_yes (by omega)] <;> omega
  go_wp2_with fail
  refine (k0 _ _ _ _ _ _ q0 (by omega) (by omega)).mono ?_
  rw [V0.out]
  rintro e w1 ⟨rfl, p0⟩
  replace kb := kb.trans p0
  replace bk := bk.trans p0
  replace q0 := q0.k p0
  replace q1 := q1.k p0
  replace q3 := q3.k p0
  have t0 : 0 ≤ left - ((szD d0 : Int)) := by omega
  have V1 : Hid (szo (szD d1) (left - ((szD d0 : Int))) = left - ((szD d0 : Int) + (szD d1 : Int))) := by show _ = _; rw [szo_yes (by omega)] <;> omega
  have x0 := boxk bk 0
  have x1 := boxk bk 1
  have x2 := boxk bk 2
  have x3 := boxk bk 3
  have x4 := boxk bk 4
  simp at x0 x1 x2 x3 x4
  go_wp2_with fail
  clear x0 x1 x2 x3 x4
  refine (k1 _ _ _ _ _ _ q1 (by omega) (by omega)).mono ?_
  rw [V1.out]
  rintro e w2 ⟨rfl, p1⟩
  replace kb := kb.trans p1
  replace bk := bk.trans p1
  replace q0 := q0.k p1
  replace q1 := q1.k p1
  replace q3 := q3.k p1
  have t1 : 0 ≤ left - ((szD d0 : Int) + (szD d1 : Int)) := by omega
  have V2 : Hid (szo (szD d3) (left - ((szD d0 : Int) + (szD d1 : Int))) = left - ((szD d0 : Int) + (szD d1 : Int) + (szD d3 : Int))) := by show _ = _; rw [szo_yes (by omega)] <;> omega
  have x0 := boxk bk 0
  have x1 := boxk bk 1
  have x2 := boxk bk 2
  have x3 := boxk bk 3
  have x4 := boxk bk 4
  simp at x0 x1 x2 x3 x4
  go_wp2_with fail
  clear x0 x1 x2 x3 x4
  refine (szBlock _ _ _ _ _ _ _ _ q3 k3 (by omega) (by omega)).mono ?_
  rw [V2.out]
  rintro e w3 ⟨rfl, p2⟩
  replace kb := kb.trans p2
  replace bk := bk.trans p2
  replace q0 := q0.k p2
  replace q1 := q1.k p2
  replace q3 := q3.k p2
  have t2 : 0 ≤ left - ((szD d0 : Int) + (szD d1 : Int) + (szD d3 : Int)) := by omega
  go_wp2_with fail
  exact fin_ hQ ⟨ret_i (szo_yes (by omega)).symm, kb⟩

set_option maxHeartbeats 1000000 in
theorem szRoutineS (xs : List RoutL) : SzC 18 (encRouts xs) := by
  intro a n c D w left h h0 h1
  refine calls_k fun Q hQ => ?_
  obtain ⟨e1, hnc, hm, hat⟩ := routs_at h
  have HL := Lib.hid e1
  have hrl : (xs.map rowR).length = n := by rw [routs_len]; exact e1
  have e2 : szD (encRouts xs) = n + szRR (xs.map rowR) := by rw [encRouts, szD, hrl]
  rw [e2] at hQ
  have HA := Lib.hid hat
  clear hat e1 e2
  by_cases hl : (n : Int) ≤ left
  case neg =>
    have V := Lib.hid (szo_no (s := n + szRR (xs.map rowR)) (left := left) (by omega))
    have t : left - (n : Int) < 0 := by omega
    go_enter Try.func18, Try.ntmps18
    go_wp2_with fail
    exact fin_ hQ ⟨ret_i V.out.symm, Ext.refl _ _⟩
  have HRL := Lib.hid hrl
  clear hrl
  go_enter Try.func18, Try.ntmps18
  go_wp2_with fail
  go_loopw [1, 5] (fun lv iv wr => ∃ j : Nat, j ≤ n ∧ iv = .int .i64 j ∧ lv = .int .i64 (left - (n : Int) - (szRR ((xs.map rowR).take j) : Int)) ∧ (szRR ((xs.map rowR).take j) : Int) ≤ left - (n : Int) ∧ Keep w wr) (fun _ i _ => n - (intOf i).toNat)
  case atStart => exact ⟨0, Nat.zero_le _, rfl, by simp [szRR], by simp only [List.take_zero, szRR]; omega, Ext.refl _ _⟩
  case round =>
    obtain ⟨j, hj, rfl, rfl, hsz, hK⟩ := hrel
    by_cases hlt : j < n
    · have hst := szRR_take (xs.map rowR) j (by have := HRL.out; omega)
      rw [routs_row xs j (by have := HL.out; omega)] at hst
      simp only [szR, szD, Nat.zero_add, Nat.add_zero] at hst
      have htl := szRR_take_le (xs.map rowR) (j + 1)
      obtain ⟨b, o, rfl, hd, a0, n0, c0, a1, n1, c1, a3, n3, c3, d0, d1, d2, d3, d4, r0, r1, r3⟩ := HA.out j hlt
      have g0 := (hK.cell (World.block_lt_of_cell? w _ d0) (fun h => h)).trans d0
      have g1 := (hK.cell (World.block_lt_of_cell? w _ d1) (fun h => h)).trans d1
      have g2 := (hK.cell (World.block_lt_of_cell? w _ d2) (fun h => h)).trans d2
      have g3 := (hK.cell (World.block_lt_of_cell? w _ d3) (fun h => h)).trans d3
      have g4 := (hK.cell (World.block_lt_of_cell? w _ d4) (fun h => h)).trans d4
      have q0 := r0.k hK
      have q1 := r1.k hK
      have q3 := r3.k hK
      clear d0 d1 d2 d3 d4
      replace hst : szRR ((xs.map rowR).take (j + 1)) = szRR ((xs.map rowR).take j) + (szD (encInts ((rtAt xs j).params)) + szD (encInts ((rtAt xs j).lent)) + szD (encSteps ((rtAt xs j).body.steps))) := by rw [hst]; omega
      generalize hS : szD (encInts ((rtAt xs j).params)) + szD (encInts ((rtAt xs j).lent)) + szD (encSteps ((rtAt xs j).body.steps)) = S at hst
      have HS := Lib.hid hS
      clear hS
      have t0 : 0 ≤ left - (n : Int) - (szRR ((xs.map rowR).take j) : Int) := by omega
      by_cases hf : (S : Int) ≤ left - (n : Int) - (szRR ((xs.map rowR).take j) : Int)
      · have V : Hid (szo S (left - (n : Int) - (szRR ((xs.map rowR).take j) : Int)) = left - (n : Int) - (szRR ((xs.map rowR).take (j + 1)) : Int)) := by show _ = _; rw [szo_yes hf]; omega
        have t1 : 0 ≤ left - (n : Int) - (szRR ((xs.map rowR).take (j + 1)) : Int) := by omega
        go_wp2_with fail
        refine (szRoutine _ _ _ _ _ _ _ _ _ _ _ _ _ _ _ _ _ q0 q1 q3 (szIntS _) (szIntS _) (szStepS _) (by omega) (by omega)).mono ?_
        rw [HS.out, V.out]
        rintro e w1 ⟨rfl, p1⟩
        go_wp2_with fail
        go_roundw
        case rel => exact ⟨j + 1, by omega, by go_num, by rw [hst, Int.natCast_add], by omega, hK.trans p1⟩
        case measure => simp [intOf]; omega
      · have V : Hid (szo S (left - (n : Int) - (szRR ((xs.map rowR).take j) : Int)) = -1) := szo_no (by omega)
        go_wp2_with fail
        refine (szRoutine _ _ _ _ _ _ _ _ _ _ _ _ _ _ _ _ _ q0 q1 q3 (szIntS _) (szIntS _) (szStepS _) (by omega) (by omega)).mono ?_
        rw [HS.out, V.out]
        rintro e w1 ⟨rfl, p1⟩
        go_wp2_with fail
        exact fin_ hQ ⟨ret_i (szo_no (by omega)).symm, hK.trans p1⟩
    · have HJ : Hid (j = n) := by show _ = _; omega
      go_wp2
      exact fin_ hQ ⟨ret_i (by rw [HJ.out, List.take_of_length_le (Nat.le_of_eq HRL.out)]; have e := HJ.out; subst e; rw [List.take_of_length_le (Nat.le_of_eq HRL.out)] at hsz; rw [szo_yes (by omega)]; omega), hK⟩

theorem szNormal (D : Nat → Prop) (w : World) (left : Int) (a0 : Option Addr) (n0 c0 : Nat) (d0 : Dat) (a1 : Option Addr) (n1 c1 : Nat) (d1 : Dat) (r0 : Rd w D d0 (.slice a0 n0 c0)) (r1 : Rd w D d1 (.slice a1 n1 c1)) (k0 : SzC 17 d0) (k1 : SzC 18 d1) (h0 : 0 ≤ left) (h1 : left ≤ 1048576) :
    Calls Try.prog 5 #[.agg #[.slice a0 n0 c0, .slice a1 n1 c1], .int .i64 left] w fun e w' => e = .returned (.int .i64 (szo (szD d0 + szD d1) left)) ∧ Keep w w' := by
  refine calls_k fun Q hQ => ?_
  by_cases y0 : ((szD d0 : Nat) : Int) ≤ left
  case neg =>
    go_enter Try.func5, Try.ntmps5
    have kb : Keep w (w.alloc (.cells #[.slice a0 n0 c0, .slice a1 n1 c1] 25)) := Keep.al _ _
    have q0 := r0.k kb
    have q1 := r1.k kb
    have V0 : Hid (szo (szD d0) (left) = -1) := szo_no (by omega)
    go_wp2_with fail
    refine (k0 _ _ _ _ _ _ q0 (by omega) (by omega)).mono ?_
    rw [V0.out]
    rintro e w1 ⟨rfl, p0⟩
    replace kb := kb.trans p0
    replace q0 := q0.k p0
    replace q1 := q1.k p0
    go_wp2_with fail
    exact fin_ hQ ⟨ret_i (szo_no (by omega)).symm, kb⟩
  by_cases y1 : ((szD d0 + szD d1 : Nat) : Int) ≤ left
  case neg =>
    go_enter Try.func5, Try.ntmps5
    have kb : Keep w (w.alloc (.cells #[.slice a0 n0 c0, .slice a1 n1 c1] 25)) := Keep.al _ _
    have bk : Keep (w.alloc (.cells #[.slice a0 n0 c0, .slice a1 n1 c1] 25)) (w.alloc (.cells #[.slice a0 n0 c0, .slice a1 n1 c1] 25)) := Ext.refl _ _
    have q0 := r0.k kb
    have q1 := r1.k kb
    have V0 : Hid (szo (szD d0) (left) = left - ((szD d0 : Int))) := by show _ = _; rw [szo_yes (by omega)] <;> omega
    go_wp2_with fail
    refine (k0 _ _ _ _ _ _ q0 (by omega) (by omega)).mono ?_
    rw [V0.out]
    rintro e w1 ⟨rfl, p0⟩
    replace kb := kb.trans p0
    replace bk := bk.trans p0
    replace q0 := q0.k p0
    replace q1 := q1.k p0
    have t0 : 0 ≤ left - ((szD d0 : Int)) := by omega
    have V1 : Hid (szo (szD d1) (left - ((szD d0 : Int))) = -1) := szo_no (by omega)
    have x0 := boxk bk 0
    have x1 := boxk bk 1
    simp at x0 x1
    go_wp2_with fail
    clear x0 x1
    refine (k1 _ _ _ _ _ _ q1 (by omega) (by omega)).mono ?_
    rw [V1.out]
    rintro e w2 ⟨rfl, p1⟩
    replace kb := kb.trans p1
    replace bk := bk.trans p1
    replace q0 := q0.k p1
    replace q1 := q1.k p1
    go_wp2_with fail
    exact fin_ hQ ⟨ret_i (szo_no (by omega)).symm, kb⟩
  go_enter Try.func5, Try.ntmps5
  have kb : Keep w (w.alloc (.cells #[.slice a0 n0 c0, .slice a1 n1 c1] 25)) := Keep.al _ _
  have bk : Keep (w.alloc (.cells #[.slice a0 n0 c0, .slice a1 n1 c1] 25)) (w.alloc (.cells #[.slice a0 n0 c0, .slice a1 n1 c1] 25)) := Ext.refl _ _
  have q0 := r0.k kb
  have q1 := r1.k kb
  have V0 : Hid (szo (szD d0) (left) = left - ((szD d0 : Int))) := by show _ = _; rw [szo_yes (by omega)] <;> omega
  go_wp2_with fail
  refine (k0 _ _ _ _ _ _ q0 (by omega) (by omega)).mono ?_
  rw [V0.out]
  rintro e w1 ⟨rfl, p0⟩
  replace kb := kb.trans p0
  replace bk := bk.trans p0
  replace q0 := q0.k p0
  replace q1 := q1.k p0
  have t0 : 0 ≤ left - ((szD d0 : Int)) := by omega
  have V1 : Hid (szo (szD d1) (left - ((szD d0 : Int))) = left - ((szD d0 : Int) + (szD d1 : Int))) := by show _ = _; rw [szo_yes (by omega)] <;> omega
  have x0 := boxk bk 0
  have x1 := boxk bk 1
  simp at x0 x1
  go_wp2_with fail
  clear x0 x1
  refine (k1 _ _ _ _ _ _ q1 (by omega) (by omega)).mono ?_
  rw [V1.out]
  rintro e w2 ⟨rfl, p1⟩
  replace kb := kb.trans p1
  replace bk := bk.trans p1
  replace q0 := q0.k p1
  replace q1 := q1.k p1
  have t1 : 0 ≤ left - ((szD d0 : Int) + (szD d1 : Int)) := by omega
  go_wp2_with fail
  exact fin_ hQ ⟨ret_i (szo_yes (by omega)).symm, kb⟩

end Go.Proofs.Ytmekdccgjgfiaaa
