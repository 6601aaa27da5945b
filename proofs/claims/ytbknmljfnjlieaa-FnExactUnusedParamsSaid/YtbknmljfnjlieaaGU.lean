/- The laws' own helpers: marks in data of the call's own. -/
import Derived.Test.YtbknmljfnjlieaaOwn3
import Derived.StillTailTactics
import Derived.IntWalk
import Derived.Test.YtbknmljfnjlieaaGA
namespace Go.Proofs.Ytbknmljfnjlieaa
open Go.RowKit


def MkC (f : FuncId) (d : Dat) : Prop := ∀ (a : Option Addr) (n c : Nat) (D : Nat → Prop) (k : Int) (w : World), Own w D d (.slice a n c) → 0 ≤ k → k + (cntD d : Int) ≤ 4611686018427387904 →
  Calls Try.prog f #[.slice a n c, .int .i64 k] w fun e w' => ∃ k' : Int, e = .returned (.int .i64 k') ∧ k' = k + (cntD d : Int) ∧ Own w' D (mkD d k) (.slice a n c) ∧ Ext D w w'


set_option maxRecDepth 100000 in
set_option maxHeartbeats 4000000 in
theorem markIntS (xs : List Int) : MkC 25 (encInts xs) := by
  intro a n c D k w h h0 h1
  refine calls_k fun Q hQ => ?_
  obtain ⟨e1, hnc, hm, _⟩ := ints_at h.read
  have HL := Lib.hid e1
  have hrl : (xs.map rowI).length = n := by rw [ints_len]; exact e1
  have e2 : cntD (encInts xs) = cntRR (xs.map rowI) := by rw [encInts, cntD]
  have e3 : mkD (encInts xs) k = .arr 1 (mkRR (xs.map rowI) k) := by rw [encInts, mkD]
  rw [e2, e3] at hQ
  rw [e2] at h1
  have HRL := Lib.hid hrl
  clear e1 e2 e3 hrl
  go_enter Try.func25, Try.ntmps25
  go_wp2
  go_loopw [1, 5] (fun kv iv wr => ∃ (j : Nat) (K : Int), j ≤ n ∧ iv = .int .i64 j ∧ kv = .int .i64 K ∧ Hid (K = k + (cntRR ((xs.map rowI).take j) : Int)) ∧ Own wr D (.arr 1 (mkTo (xs.map rowI) k j)) (.slice a n c) ∧ Ext D w wr) (fun _ iv _ => n - (intOf iv).toNat)
  case atStart => exact ⟨0, k, Nat.zero_le _, rfl, rfl, by show _ = _; simp [cntRR], by rw [mkTo_zero]; exact h, Ext.refl _ _⟩
  case round =>
    obtain ⟨j, K, hj, rfl, rfl, HK, hO, hX⟩ := hrel
    by_cases hlt : j < n
    · have hjl : j < (xs.map rowI).length := by rw [HRL.out]; exact hlt
      have hct := cntRR_take (xs.map rowI) j hjl
      have hcl := cntRR_take_le (xs.map rowI) (j + 1)
      have hrow := ints_row xs j (by have := HL.out; omega)
      have hms := mkTo_succ (xs.map rowI) k j hjl
      have hmg := mkTo_get (xs.map rowI) k j hjl
      rw [hrow] at hct hms hmg
      have hcr : cntR [.num (iAt xs j)] = 1 := by simp only [cntR, cntD] <;> omega
      rw [hcr] at hct
      have hb0 : 0 ≤ K := by have := HK.out; omega
      have hb1 : K + ((1 : Nat) : Int) ≤ 4611686018427387904 := by have := HK.out; omega
      obtain ⟨b, TT, NN, f, E, rfl, hDb, hr, hNN, hE, hdis, how, hcl2⟩ := hO.openRow hlt
      have o0 := how 0 (by omega)
      rw [rAt, hmg] at o0
      have f0 := Own.num_inv (z := iAt xs j) o0
      have v0 := hr.cell (i := j * 1 + 0) (Nat.lt_of_lt_of_le (idx_lt hlt (by omega)) hNN)
      rw [f0] at v0
      have g0 := hr.frozen (j * 1 + 0)
      simp only [Nat.mul_one, Nat.add_zero] at v0 g0
      clear f0
      have HCT := Lib.hid hct
      have HMS := Lib.hid hms
      have HOFF := Lib.hid hcl2
      have X : Ext (fun q => q = b ∨ ∃ i, i < 1 ∧ E i q) wr wr := Ext.refl _ _
      have hbE : ∀ i q, i < 1 → E i q → ¬ q = b := fun i q hi hq => (hE i q hi hq).2
      have HDis := Lib.hid hdis
      clear hct hcl hms hmg hcr hrow how hcl2 hdis o0
      have XS := (Ext.refl (fun q => q = b) wr).setCell (p := ⟨b, j, none⟩) (.inr rfl) (.int .i64 (K))
      replace hr := hr.set (j) (.int .i64 (K))
      replace X := X.trans (XS.mono (fun q _ hq => .inl hq))
      clear XS
      have HR := Lib.hid hr
      clear hr
      go_wp2_with fail
      go_roundw
      case rel => exact ⟨j + 1, K + 1, by omega, by go_num, rfl, by
        show _ = _
        have h1 := HCT.out; have h2 := HK.out; omega, by
        rw [HMS.out, ← HK.out]
        have e : mkR [.num (iAt xs j)] K = [.num (K)] := by
          simp only [mkR, mkD]
          first | rfl | (congr <;> omega) | (repeat (first | rfl | omega | (congr 1)))
        rw [e]
        refine HOFF.out _ _ _ HR.out X (fun q hq => ?_) rfl (fun q hq => ?_)
        · rw [if_neg (by omega)]
        · rcases q with _ | q
          · exact Own.val (by simp) (.num _ _)
          · omega, hX.trans (X.mono (fun q _ hq => by
        rcases hq with rfl | ⟨i, hi, hq⟩
        · exact hDb
        · exact (hE i q hi hq).1))⟩
      case measure => simp [intOf]; omega
    · have HJ : Hid (j = n) := by show _ = _; omega
      go_wp2
      exact fin_ hQ ⟨K, rfl, by rw [HK.out, HJ.out, List.take_of_length_le (Nat.le_of_eq HRL.out)], by rw [mkTo_all _ _ (HJ.out.trans HRL.out.symm)] at hO; exact hO, hX⟩

set_option maxRecDepth 100000 in
set_option maxHeartbeats 4000000 in
theorem markConS (xs : List (List Int)) : MkC 108 (encCons xs) := by
  intro a n c D k w h h0 h1
  refine calls_k fun Q hQ => ?_
  obtain ⟨e1, hnc, hm, _⟩ := cons_at h.read
  have HL := Lib.hid e1
  have hrl : (xs.map rowC).length = n := by rw [cons_len]; exact e1
  have e2 : cntD (encCons xs) = cntRR (xs.map rowC) := by rw [encCons, cntD]
  have e3 : mkD (encCons xs) k = .arr 1 (mkRR (xs.map rowC) k) := by rw [encCons, mkD]
  rw [e2, e3] at hQ
  rw [e2] at h1
  have HRL := Lib.hid hrl
  clear e1 e2 e3 hrl
  go_enter Try.func108, Try.ntmps108
  go_wp2
  go_loopw [1, 5] (fun kv iv wr => ∃ (j : Nat) (K : Int), j ≤ n ∧ iv = .int .i64 j ∧ kv = .int .i64 K ∧ Hid (K = k + (cntRR ((xs.map rowC).take j) : Int)) ∧ Own wr D (.arr 1 (mkTo (xs.map rowC) k j)) (.slice a n c) ∧ Ext D w wr) (fun _ iv _ => n - (intOf iv).toNat)
  case atStart => exact ⟨0, k, Nat.zero_le _, rfl, rfl, by show _ = _; simp [cntRR], by rw [mkTo_zero]; exact h, Ext.refl _ _⟩
  case round =>
    obtain ⟨j, K, hj, rfl, rfl, HK, hO, hX⟩ := hrel
    by_cases hlt : j < n
    · have hjl : j < (xs.map rowC).length := by rw [HRL.out]; exact hlt
      have hct := cntRR_take (xs.map rowC) j hjl
      have hcl := cntRR_take_le (xs.map rowC) (j + 1)
      have hrow := cons_row xs j (by have := HL.out; omega)
      have hms := mkTo_succ (xs.map rowC) k j hjl
      have hmg := mkTo_get (xs.map rowC) k j hjl
      rw [hrow] at hct hms hmg
      have hcr : cntR [encInts (cAt xs j)] = cntD (encInts (cAt xs j)) := by simp only [cntR] <;> omega
      rw [hcr] at hct
      have hb0 : 0 ≤ K := by have := HK.out; omega
      have hb1 : K + ((cntD (encInts (cAt xs j)) : Nat) : Int) ≤ 4611686018427387904 := by have := HK.out; omega
      obtain ⟨b, TT, NN, f, E, rfl, hDb, hr, hNN, hE, hdis, how, hcl2⟩ := hO.openRow hlt
      have o0 := how 0 (by omega)
      rw [rAt, hmg] at o0
      obtain ⟨a0, n0, c0, f0⟩ := Own.slice_inv (rows := _) (s := 1) o0
      have k0 : MkC 25 (encInts (cAt xs j)) := (markIntS _)
      rw [f0] at o0
      replace o0 : Own wr (E 0) (encInts (cAt xs j)) (.slice a0 n0 c0) := o0
      have v0 := hr.cell (i := j * 1 + 0) (Nat.lt_of_lt_of_le (idx_lt hlt (by omega)) hNN)
      rw [f0] at v0
      have g0 := hr.frozen (j * 1 + 0)
      simp only [Nat.mul_one, Nat.add_zero] at v0 g0
      have F0 := Lib.hid f0
      clear f0
      have HCT := Lib.hid hct
      have HMS := Lib.hid hms
      have HOFF := Lib.hid hcl2
      have X : Ext (fun q => q = b ∨ ∃ i, i < 1 ∧ E i q) wr wr := Ext.refl _ _
      have hbE : ∀ i q, i < 1 → E i q → ¬ q = b := fun i q hi hq => (hE i q hi hq).2
      have HDis := Lib.hid hdis
      clear hct hcl hms hmg hcr hrow how hcl2 hdis 
      have H0 := Lib.hid o0
      clear o0
      have HR := Lib.hid hr
      clear hr
      go_wp2_with fail
      clear v0 g0
      refine (k0 _ _ _ _ _ _ H0.out (by omega) (by omega)).mono ?_
      rintro e w1 ⟨K1, rfl, y1, o0, p1⟩
      have hbk1 : 0 ≤ K1 := by omega
      have hbm1 : K1 + ((0 : Nat) : Int) ≤ 4611686018427387904 := by omega
      have HY1 := Lib.hid y1
      clear y1
      have hr := row_ext HR.out p1 (fun hq => hbE 0 b (by omega) hq rfl)
      replace X := X.trans (p1.mono (fun q _ hq => .inr ⟨0, by omega, hq⟩))
      clear HR H0 p1
      have H0 := Lib.hid o0
      clear o0
      have HR := Lib.hid hr
      clear hr
      go_wp2_with fail
      go_roundw
      case rel => exact ⟨j + 1, K1, by omega, by go_num, rfl, by
        show _ = _
        have h1 := HCT.out; have h2 := HK.out; have := HY1.out; omega, by
        rw [HMS.out, ← HK.out]
        have e : mkR [encInts (cAt xs j)] K = [mkD (encInts (cAt xs j)) (K)] := by
          have hHY1 := HY1.out
          simp only [mkR]
          first | rfl | (congr <;> omega) | (repeat (first | rfl | omega | (congr 1)))
        rw [e]
        refine HOFF.out _ _ _ HR.out X (fun q hq => ?_) rfl (fun q hq => ?_)
        · rfl
        · rcases q with _ | q
          · exact Own.val (by rw [F0.out]) H0.out
          · omega, hX.trans (X.mono (fun q _ hq => by
        rcases hq with rfl | ⟨i, hi, hq⟩
        · exact hDb
        · exact (hE i q hi hq).1))⟩
      case measure => simp [intOf]; omega
    · have HJ : Hid (j = n) := by show _ = _; omega
      go_wp2
      exact fin_ hQ ⟨K, rfl, by rw [HK.out, HJ.out, List.take_of_length_le (Nat.le_of_eq HRL.out)], by rw [mkTo_all _ _ (HJ.out.trans HRL.out.symm)] at hO; exact hO, hX⟩

set_option maxRecDepth 100000 in
set_option maxHeartbeats 4000000 in
theorem markDeclS (xs : List DeclL) : MkC 65 (encDecls xs) := by
  intro a n c D k w h h0 h1
  refine calls_k fun Q hQ => ?_
  obtain ⟨e1, hnc, hm, _⟩ := decls_at h.read
  have HL := Lib.hid e1
  have hrl : (xs.map rowD).length = n := by rw [decls_len]; exact e1
  have e2 : cntD (encDecls xs) = cntRR (xs.map rowD) := by rw [encDecls, cntD]
  have e3 : mkD (encDecls xs) k = .arr 3 (mkRR (xs.map rowD) k) := by rw [encDecls, mkD]
  rw [e2, e3] at hQ
  rw [e2] at h1
  have HRL := Lib.hid hrl
  clear e1 e2 e3 hrl
  go_enter Try.func65, Try.ntmps65
  go_wp2
  go_loopw [1, 5] (fun kv iv wr => ∃ (j : Nat) (K : Int), j ≤ n ∧ iv = .int .i64 j ∧ kv = .int .i64 K ∧ Hid (K = k + (cntRR ((xs.map rowD).take j) : Int)) ∧ Own wr D (.arr 3 (mkTo (xs.map rowD) k j)) (.slice a n c) ∧ Ext D w wr) (fun _ iv _ => n - (intOf iv).toNat)
  case atStart => exact ⟨0, k, Nat.zero_le _, rfl, rfl, by show _ = _; simp [cntRR], by rw [mkTo_zero]; exact h, Ext.refl _ _⟩
  case round =>
    obtain ⟨j, K, hj, rfl, rfl, HK, hO, hX⟩ := hrel
    by_cases hlt : j < n
    · have hjl : j < (xs.map rowD).length := by rw [HRL.out]; exact hlt
      have hct := cntRR_take (xs.map rowD) j hjl
      have hcl := cntRR_take_le (xs.map rowD) (j + 1)
      have hrow := decls_row xs j (by have := HL.out; omega)
      have hms := mkTo_succ (xs.map rowD) k j hjl
      have hmg := mkTo_get (xs.map rowD) k j hjl
      rw [hrow] at hct hms hmg
      have hcr : cntR [.num ((dAt xs j).from_), .num ((dAt xs j).to_), encCons ((dAt xs j).cons)] = 1 + 1 + cntD (encCons ((dAt xs j).cons)) := by simp only [cntR, cntD] <;> omega
      rw [hcr] at hct
      have hb0 : 0 ≤ K := by have := HK.out; omega
      have hb1 : K + ((1 + 1 + cntD (encCons ((dAt xs j).cons)) : Nat) : Int) ≤ 4611686018427387904 := by have := HK.out; omega
      obtain ⟨b, TT, NN, f, E, rfl, hDb, hr, hNN, hE, hdis, how, hcl2⟩ := hO.openRow hlt
      have o0 := how 0 (by omega)
      rw [rAt, hmg] at o0
      have o1 := how 1 (by omega)
      rw [rAt, hmg] at o1
      have o2 := how 2 (by omega)
      rw [rAt, hmg] at o2
      obtain ⟨a2, n2, c2, f2⟩ := Own.slice_inv (rows := _) (s := 1) o2
      have k2 : MkC 108 (encCons ((dAt xs j).cons)) := (markConS _)
      rw [f2] at o2
      replace o2 : Own wr (E 2) (encCons ((dAt xs j).cons)) (.slice a2 n2 c2) := o2
      have f0 := Own.num_inv (z := (dAt xs j).from_) o0
      have f1 := Own.num_inv (z := (dAt xs j).to_) o1
      have v0 := hr.cell (i := j * 3 + 0) (Nat.lt_of_lt_of_le (idx_lt hlt (by omega)) hNN)
      rw [f0] at v0
      have g0 := hr.frozen (j * 3 + 0)
      simp only [Nat.add_zero] at v0 g0
      clear f0
      have v1 := hr.cell (i := j * 3 + 1) (Nat.lt_of_lt_of_le (idx_lt hlt (by omega)) hNN)
      rw [f1] at v1
      have g1 := hr.frozen (j * 3 + 1)
      clear f1
      have v2 := hr.cell (i := j * 3 + 2) (Nat.lt_of_lt_of_le (idx_lt hlt (by omega)) hNN)
      rw [f2] at v2
      have g2 := hr.frozen (j * 3 + 2)
      have F2 := Lib.hid f2
      clear f2
      have HCT := Lib.hid hct
      have HMS := Lib.hid hms
      have HOFF := Lib.hid hcl2
      have X : Ext (fun q => q = b ∨ ∃ i, i < 3 ∧ E i q) wr wr := Ext.refl _ _
      have hbE : ∀ i q, i < 3 → E i q → ¬ q = b := fun i q hi hq => (hE i q hi hq).2
      have HDis := Lib.hid hdis
      clear hct hcl hms hmg hcr hrow how hcl2 hdis o0 o1
      have XS := (Ext.refl (fun q => q = b) wr).setCell (p := ⟨b, j * 3, none⟩) (.inr rfl) (.int .i64 (K))
      replace o2 := o2.ext XS (fun q hq => hbE 2 q (by omega) hq)
      replace hr := hr.set (j * 3) (.int .i64 (K))
      replace X := X.trans (XS.mono (fun q _ hq => .inl hq))
      clear XS
      have XS := (Ext.refl (fun q => q = b) (wr.setCell ⟨b, j * 3, none⟩ (.int .i64 (K)))).setCell (p := ⟨b, j * 3 + 1, none⟩) (.inr rfl) (.int .i64 (K + 1))
      replace o2 := o2.ext XS (fun q hq => hbE 2 q (by omega) hq)
      replace hr := hr.set (j * 3 + 1) (.int .i64 (K + 1))
      replace X := X.trans (XS.mono (fun q _ hq => .inl hq))
      clear XS
      have H2 := Lib.hid o2
      clear o2
      have HR := Lib.hid hr
      clear hr
      go_wp2_with fail
      clear v0 g0 v1 g1 v2 g2
      refine (k2 _ _ _ _ _ _ H2.out (by omega) (by omega)).mono ?_
      rintro e w1 ⟨K1, rfl, y1, o2, p1⟩
      have hbk1 : 0 ≤ K1 := by omega
      have hbm1 : K1 + ((0 : Nat) : Int) ≤ 4611686018427387904 := by omega
      have HY1 := Lib.hid y1
      clear y1
      have hr := row_ext HR.out p1 (fun hq => hbE 2 b (by omega) hq rfl)
      replace X := X.trans (p1.mono (fun q _ hq => .inr ⟨2, by omega, hq⟩))
      clear HR H2 p1
      have H2 := Lib.hid o2
      clear o2
      have HR := Lib.hid hr
      clear hr
      go_wp2_with fail
      go_roundw
      case rel => exact ⟨j + 1, K1, by omega, by go_num, rfl, by
        show _ = _
        have h1 := HCT.out; have h2 := HK.out; have := HY1.out; omega, by
        rw [HMS.out, ← HK.out]
        have e : mkR [.num ((dAt xs j).from_), .num ((dAt xs j).to_), encCons ((dAt xs j).cons)] K = [.num (K), .num (K + 1), mkD (encCons ((dAt xs j).cons)) (K + 1 + 1)] := by
          have hHY1 := HY1.out
          simp only [mkR, mkD, cntD]
          first | rfl | (congr <;> omega) | (repeat (first | rfl | omega | (congr 1)))
        rw [e]
        refine HOFF.out _ _ _ HR.out X (fun q hq => ?_) rfl (fun q hq => ?_)
        · rw [if_neg (by omega), if_neg (by omega)]
        · rcases q with _ | _ | _ | q
          · exact Own.val (by simp) (.num _ _)
          · exact Own.val (by simp) (.num _ _)
          · exact Own.val (by simp [F2.out]) H2.out
          · omega, hX.trans (X.mono (fun q _ hq => by
        rcases hq with rfl | ⟨i, hi, hq⟩
        · exact hDb
        · exact (hE i q hi hq).1))⟩
      case measure => simp [intOf]; omega
    · have HJ : Hid (j = n) := by show _ = _; omega
      go_wp2
      exact fin_ hQ ⟨K, rfl, by rw [HK.out, HJ.out, List.take_of_length_le (Nat.le_of_eq HRL.out)], by rw [mkTo_all _ _ (HJ.out.trans HRL.out.symm)] at hO; exact hO, hX⟩

set_option maxRecDepth 100000 in
set_option maxHeartbeats 4000000 in
theorem markExprS_n (N : Nat) : ∀ xs : List ExprL, volD (encExprs xs) < N → MkC 109 (encExprs xs) := by
  induction N with
  | zero => intro xs h; omega
  | succ N ihN =>
  intro xs hvol a n c D k w h h0 h1
  have IH : ∀ ys : List ExprL, volD (encExprs ys) < volD (encExprs xs) → MkC 109 (encExprs ys) := fun ys hy => ihN ys (by omega)
  clear ihN hvol
  refine calls_k fun Q hQ => ?_
  obtain ⟨e1, hnc, hm, _⟩ := exprs_at h.read
  have HL := Lib.hid e1
  have hrl : (rowsE xs).length = n := by rw [exprs_len]; exact e1
  have e2 : cntD (encExprs xs) = cntRR (rowsE xs) := by rw [encExprs, cntD]
  have e3 : mkD (encExprs xs) k = .arr 3 (mkRR (rowsE xs) k) := by rw [encExprs, mkD]
  rw [e2, e3] at hQ
  rw [e2] at h1
  have HRL := Lib.hid hrl
  clear e1 e2 e3 hrl
  go_enter Try.func109, Try.ntmps109
  go_wp2
  go_loopw [1, 5] (fun kv iv wr => ∃ (j : Nat) (K : Int), j ≤ n ∧ iv = .int .i64 j ∧ kv = .int .i64 K ∧ Hid (K = k + (cntRR ((rowsE xs).take j) : Int)) ∧ Own wr D (.arr 3 (mkTo (rowsE xs) k j)) (.slice a n c) ∧ Ext D w wr) (fun _ iv _ => n - (intOf iv).toNat)
  case atStart => exact ⟨0, k, Nat.zero_le _, rfl, rfl, by show _ = _; simp [cntRR], by rw [mkTo_zero]; exact h, Ext.refl _ _⟩
  case round =>
    obtain ⟨j, K, hj, rfl, rfl, HK, hO, hX⟩ := hrel
    by_cases hlt : j < n
    · have hjl : j < (rowsE xs).length := by rw [HRL.out]; exact hlt
      have hct := cntRR_take (rowsE xs) j hjl
      have hcl := cntRR_take_le (rowsE xs) (j + 1)
      have hrow := exprs_row xs j (by have := HL.out; omega)
      have hms := mkTo_succ (rowsE xs) k j hjl
      have hmg := mkTo_get (rowsE xs) k j hjl
      rw [hrow] at hct hms hmg
      have hcr : cntR [.num ((eAt xs j).op), .num ((eAt xs j).num), encExprs ((eAt xs j).kids)] = 1 + 1 + cntD (encExprs ((eAt xs j).kids)) := by simp only [cntR, cntD] <;> omega
      rw [hcr] at hct
      have hb0 : 0 ≤ K := by have := HK.out; omega
      have hb1 : K + ((1 + 1 + cntD (encExprs ((eAt xs j).kids)) : Nat) : Int) ≤ 4611686018427387904 := by have := HK.out; omega
      obtain ⟨b, TT, NN, f, E, rfl, hDb, hr, hNN, hE, hdis, how, hcl2⟩ := hO.openRow hlt
      have o0 := how 0 (by omega)
      rw [rAt, hmg] at o0
      have o1 := how 1 (by omega)
      rw [rAt, hmg] at o1
      have o2 := how 2 (by omega)
      rw [rAt, hmg] at o2
      obtain ⟨a2, n2, c2, f2⟩ := Own.slice_inv (rows := _) (s := 3) o2
      have k2 : MkC 109 (encExprs ((eAt xs j).kids)) := (IH _ (by have := vol_lt (s := 3) (rows := (rowsE xs)) (i := j) (j := 2) hjl (by rw [hrow]; simp); rw [rAt, hrow] at this; simp only [dGet, List.getD, List.getElem?_cons_succ, List.getElem?_cons_zero, Option.getD_some] at this; exact this))
      rw [f2] at o2
      replace o2 : Own wr (E 2) (encExprs ((eAt xs j).kids)) (.slice a2 n2 c2) := o2
      have f0 := Own.num_inv (z := (eAt xs j).op) o0
      have f1 := Own.num_inv (z := (eAt xs j).num) o1
      have v0 := hr.cell (i := j * 3 + 0) (Nat.lt_of_lt_of_le (idx_lt hlt (by omega)) hNN)
      rw [f0] at v0
      have g0 := hr.frozen (j * 3 + 0)
      simp only [Nat.add_zero] at v0 g0
      clear f0
      have v1 := hr.cell (i := j * 3 + 1) (Nat.lt_of_lt_of_le (idx_lt hlt (by omega)) hNN)
      rw [f1] at v1
      have g1 := hr.frozen (j * 3 + 1)
      clear f1
      have v2 := hr.cell (i := j * 3 + 2) (Nat.lt_of_lt_of_le (idx_lt hlt (by omega)) hNN)
      rw [f2] at v2
      have g2 := hr.frozen (j * 3 + 2)
      have F2 := Lib.hid f2
      clear f2
      have HCT := Lib.hid hct
      have HMS := Lib.hid hms
      have HOFF := Lib.hid hcl2
      have X : Ext (fun q => q = b ∨ ∃ i, i < 3 ∧ E i q) wr wr := Ext.refl _ _
      have hbE : ∀ i q, i < 3 → E i q → ¬ q = b := fun i q hi hq => (hE i q hi hq).2
      have HDis := Lib.hid hdis
      clear hct hcl hms hmg hcr hrow how hcl2 hdis o0 o1
      have XS := (Ext.refl (fun q => q = b) wr).setCell (p := ⟨b, j * 3, none⟩) (.inr rfl) (.int .i64 (K))
      replace o2 := o2.ext XS (fun q hq => hbE 2 q (by omega) hq)
      replace hr := hr.set (j * 3) (.int .i64 (K))
      replace X := X.trans (XS.mono (fun q _ hq => .inl hq))
      clear XS
      have XS := (Ext.refl (fun q => q = b) (wr.setCell ⟨b, j * 3, none⟩ (.int .i64 (K)))).setCell (p := ⟨b, j * 3 + 1, none⟩) (.inr rfl) (.int .i64 (K + 1))
      replace o2 := o2.ext XS (fun q hq => hbE 2 q (by omega) hq)
      replace hr := hr.set (j * 3 + 1) (.int .i64 (K + 1))
      replace X := X.trans (XS.mono (fun q _ hq => .inl hq))
      clear XS
      have H2 := Lib.hid o2
      clear o2
      have HR := Lib.hid hr
      clear hr
      go_wp2_with fail
      clear v0 g0 v1 g1 v2 g2
      refine (k2 _ _ _ _ _ _ H2.out (by omega) (by omega)).mono ?_
      rintro e w1 ⟨K1, rfl, y1, o2, p1⟩
      have hbk1 : 0 ≤ K1 := by omega
      have hbm1 : K1 + ((0 : Nat) : Int) ≤ 4611686018427387904 := by omega
      have HY1 := Lib.hid y1
      clear y1
      have hr := row_ext HR.out p1 (fun hq => hbE 2 b (by omega) hq rfl)
      replace X := X.trans (p1.mono (fun q _ hq => .inr ⟨2, by omega, hq⟩))
      clear HR H2 p1
      have H2 := Lib.hid o2
      clear o2
      have HR := Lib.hid hr
      clear hr
      go_wp2_with fail
      go_roundw
      case rel => exact ⟨j + 1, K1, by omega, by go_num, rfl, by
        show _ = _
        have h1 := HCT.out; have h2 := HK.out; have := HY1.out; omega, by
        rw [HMS.out, ← HK.out]
        have e : mkR [.num ((eAt xs j).op), .num ((eAt xs j).num), encExprs ((eAt xs j).kids)] K = [.num (K), .num (K + 1), mkD (encExprs ((eAt xs j).kids)) (K + 1 + 1)] := by
          have hHY1 := HY1.out
          simp only [mkR, mkD, cntD]
          first | rfl | (congr <;> omega) | (repeat (first | rfl | omega | (congr 1)))
        rw [e]
        refine HOFF.out _ _ _ HR.out X (fun q hq => ?_) rfl (fun q hq => ?_)
        · rw [if_neg (by omega), if_neg (by omega)]
        · rcases q with _ | _ | _ | q
          · exact Own.val (by simp) (.num _ _)
          · exact Own.val (by simp) (.num _ _)
          · exact Own.val (by simp [F2.out]) H2.out
          · omega, hX.trans (X.mono (fun q _ hq => by
        rcases hq with rfl | ⟨i, hi, hq⟩
        · exact hDb
        · exact (hE i q hi hq).1))⟩
      case measure => simp [intOf]; omega
    · have HJ : Hid (j = n) := by show _ = _; omega
      go_wp2
      exact fin_ hQ ⟨K, rfl, by rw [HK.out, HJ.out, List.take_of_length_le (Nat.le_of_eq HRL.out)], by rw [mkTo_all _ _ (HJ.out.trans HRL.out.symm)] at hO; exact hO, hX⟩
theorem markExprS (xs : List ExprL) : MkC 109 (encExprs xs) := markExprS_n _ xs (Nat.lt_succ_self _)

set_option maxRecDepth 100000 in
set_option maxHeartbeats 4000000 in
theorem markFuncS (xs : List FuncL) : MkC 66 (encFuncs xs) := by
  intro a n c D k w h h0 h1
  refine calls_k fun Q hQ => ?_
  obtain ⟨e1, hnc, hm, _⟩ := funcs_at h.read
  have HL := Lib.hid e1
  have hrl : (xs.map rowF).length = n := by rw [funcs_len]; exact e1
  have e2 : cntD (encFuncs xs) = cntRR (xs.map rowF) := by rw [encFuncs, cntD]
  have e3 : mkD (encFuncs xs) k = .arr 5 (mkRR (xs.map rowF) k) := by rw [encFuncs, mkD]
  rw [e2, e3] at hQ
  rw [e2] at h1
  have HRL := Lib.hid hrl
  clear e1 e2 e3 hrl
  go_enter Try.func66, Try.ntmps66
  go_wp2
  go_loopw [1, 5] (fun kv iv wr => ∃ (j : Nat) (K : Int), j ≤ n ∧ iv = .int .i64 j ∧ kv = .int .i64 K ∧ Hid (K = k + (cntRR ((xs.map rowF).take j) : Int)) ∧ Own wr D (.arr 5 (mkTo (xs.map rowF) k j)) (.slice a n c) ∧ Ext D w wr) (fun _ iv _ => n - (intOf iv).toNat)
  case atStart => exact ⟨0, k, Nat.zero_le _, rfl, rfl, by show _ = _; simp [cntRR], by rw [mkTo_zero]; exact h, Ext.refl _ _⟩
  case round =>
    obtain ⟨j, K, hj, rfl, rfl, HK, hO, hX⟩ := hrel
    by_cases hlt : j < n
    · have hjl : j < (xs.map rowF).length := by rw [HRL.out]; exact hlt
      have hct := cntRR_take (xs.map rowF) j hjl
      have hcl := cntRR_take_le (xs.map rowF) (j + 1)
      have hrow := funcs_row xs j (by have := HL.out; omega)
      have hms := mkTo_succ (xs.map rowF) k j hjl
      have hmg := mkTo_get (xs.map rowF) k j hjl
      rw [hrow] at hct hms hmg
      have hcr : cntR [encInts ((fAt xs j).params), .num ((fAt xs j).result), .num ((fAt xs j).body.op), .num ((fAt xs j).body.num), encExprs ((fAt xs j).body.kids)] = cntD (encInts ((fAt xs j).params)) + 1 + 1 + 1 + cntD (encExprs ((fAt xs j).body.kids)) := by simp only [cntR, cntD] <;> omega
      rw [hcr] at hct
      have hb0 : 0 ≤ K := by have := HK.out; omega
      have hb1 : K + ((cntD (encInts ((fAt xs j).params)) + 1 + 1 + 1 + cntD (encExprs ((fAt xs j).body.kids)) : Nat) : Int) ≤ 4611686018427387904 := by have := HK.out; omega
      obtain ⟨b, TT, NN, f, E, rfl, hDb, hr, hNN, hE, hdis, how, hcl2⟩ := hO.openRow hlt
      have o0 := how 0 (by omega)
      rw [rAt, hmg] at o0
      have o1 := how 1 (by omega)
      rw [rAt, hmg] at o1
      have o2 := how 2 (by omega)
      rw [rAt, hmg] at o2
      have o3 := how 3 (by omega)
      rw [rAt, hmg] at o3
      have o4 := how 4 (by omega)
      rw [rAt, hmg] at o4
      obtain ⟨a0, n0, c0, f0⟩ := Own.slice_inv (rows := _) (s := 1) o0
      have k0 : MkC 25 (encInts ((fAt xs j).params)) := (markIntS _)
      rw [f0] at o0
      replace o0 : Own wr (E 0) (encInts ((fAt xs j).params)) (.slice a0 n0 c0) := o0
      obtain ⟨a4, n4, c4, f4⟩ := Own.slice_inv (rows := _) (s := 3) o4
      have k4 : MkC 109 (encExprs ((fAt xs j).body.kids)) := (markExprS _)
      rw [f4] at o4
      replace o4 : Own wr (E 4) (encExprs ((fAt xs j).body.kids)) (.slice a4 n4 c4) := o4
      have f1 := Own.num_inv (z := (fAt xs j).result) o1
      have f2 := Own.num_inv (z := (fAt xs j).body.op) o2
      have f3 := Own.num_inv (z := (fAt xs j).body.num) o3
      have v0 := hr.cell (i := j * 5 + 0) (Nat.lt_of_lt_of_le (idx_lt hlt (by omega)) hNN)
      rw [f0] at v0
      have g0 := hr.frozen (j * 5 + 0)
      simp only [Nat.add_zero] at v0 g0
      have F0 := Lib.hid f0
      clear f0
      have v1 := hr.cell (i := j * 5 + 1) (Nat.lt_of_lt_of_le (idx_lt hlt (by omega)) hNN)
      rw [f1] at v1
      have g1 := hr.frozen (j * 5 + 1)
      clear f1
      have v2 := hr.cell (i := j * 5 + 2) (Nat.lt_of_lt_of_le (idx_lt hlt (by omega)) hNN)
      rw [f2] at v2
      have g2 := hr.frozen (j * 5 + 2)
      clear f2
      have v3 := hr.cell (i := j * 5 + 3) (Nat.lt_of_lt_of_le (idx_lt hlt (by omega)) hNN)
      rw [f3] at v3
      have g3 := hr.frozen (j * 5 + 3)
      clear f3
      have v4 := hr.cell (i := j * 5 + 4) (Nat.lt_of_lt_of_le (idx_lt hlt (by omega)) hNN)
      rw [f4] at v4
      have g4 := hr.frozen (j * 5 + 4)
      have F4 := Lib.hid f4
      clear f4
      have HCT := Lib.hid hct
      have HMS := Lib.hid hms
      have HOFF := Lib.hid hcl2
      have X : Ext (fun q => q = b ∨ ∃ i, i < 5 ∧ E i q) wr wr := Ext.refl _ _
      have hbE : ∀ i q, i < 5 → E i q → ¬ q = b := fun i q hi hq => (hE i q hi hq).2
      have HDis := Lib.hid hdis
      clear hct hcl hms hmg hcr hrow how hcl2 hdis o1 o2 o3
      have H0 := Lib.hid o0
      have H4 := Lib.hid o4
      clear o0 o4
      have HR := Lib.hid hr
      clear hr
      go_wp2_with fail
      clear v0 g0 v1 g1 v2 g2 v3 g3 v4 g4
      refine (k0 _ _ _ _ _ _ H0.out (by omega) (by omega)).mono ?_
      rintro e w1 ⟨K1, rfl, y1, o0, p1⟩
      have hbk1 : 0 ≤ K1 := by omega
      have hbm1 : K1 + ((0 + 1 + 1 + 1 + cntD (encExprs ((fAt xs j).body.kids)) : Nat) : Int) ≤ 4611686018427387904 := by omega
      have HY1 := Lib.hid y1
      clear y1
      have o4 := H4.out.ext p1 (fun z hz hz2 => by have := HDis.out 4 0 z (by omega) (by omega) hz hz2; omega)
      have hr := row_ext HR.out p1 (fun hq => hbE 0 b (by omega) hq rfl)
      replace X := X.trans (p1.mono (fun q _ hq => .inr ⟨0, by omega, hq⟩))
      clear HR H0 H4 p1
      have v1 := hr.cell (i := j * 5 + 1) (Nat.lt_of_lt_of_le (idx_lt hlt (by omega)) hNN)
      have g1 := hr.frozen (j * 5 + 1)
      have v2 := hr.cell (i := j * 5 + 2) (Nat.lt_of_lt_of_le (idx_lt hlt (by omega)) hNN)
      have g2 := hr.frozen (j * 5 + 2)
      have v3 := hr.cell (i := j * 5 + 3) (Nat.lt_of_lt_of_le (idx_lt hlt (by omega)) hNN)
      have g3 := hr.frozen (j * 5 + 3)
      have v4 := hr.cell (i := j * 5 + 4) (Nat.lt_of_lt_of_le (idx_lt hlt (by omega)) hNN)
      have g4 := hr.frozen (j * 5 + 4)
      rw [F4.out] at v4
      have XS := (Ext.refl (fun q => q = b) w1).setCell (p := ⟨b, j * 5 + 1, none⟩) (.inr rfl) (.int .i64 (K1))
      replace o0 := o0.ext XS (fun q hq => hbE 0 q (by omega) hq)
      replace o4 := o4.ext XS (fun q hq => hbE 4 q (by omega) hq)
      replace hr := hr.set (j * 5 + 1) (.int .i64 (K1))
      replace X := X.trans (XS.mono (fun q _ hq => .inl hq))
      clear XS
      have XS := (Ext.refl (fun q => q = b) (w1.setCell ⟨b, j * 5 + 1, none⟩ (.int .i64 (K1)))).setCell (p := ⟨b, j * 5 + 2, none⟩) (.inr rfl) (.int .i64 (K1 + 1))
      replace o0 := o0.ext XS (fun q hq => hbE 0 q (by omega) hq)
      replace o4 := o4.ext XS (fun q hq => hbE 4 q (by omega) hq)
      replace hr := hr.set (j * 5 + 2) (.int .i64 (K1 + 1))
      replace X := X.trans (XS.mono (fun q _ hq => .inl hq))
      clear XS
      have XS := (Ext.refl (fun q => q = b) ((w1.setCell ⟨b, j * 5 + 1, none⟩ (.int .i64 (K1))).setCell ⟨b, j * 5 + 2, none⟩ (.int .i64 (K1 + 1)))).setCell (p := ⟨b, j * 5 + 3, none⟩) (.inr rfl) (.int .i64 (K1 + 1 + 1))
      replace o0 := o0.ext XS (fun q hq => hbE 0 q (by omega) hq)
      replace o4 := o4.ext XS (fun q hq => hbE 4 q (by omega) hq)
      replace hr := hr.set (j * 5 + 3) (.int .i64 (K1 + 1 + 1))
      replace X := X.trans (XS.mono (fun q _ hq => .inl hq))
      clear XS
      have H0 := Lib.hid o0
      have H4 := Lib.hid o4
      clear o0 o4
      have HR := Lib.hid hr
      clear hr
      go_wp2_with fail
      clear v1 g1 v2 g2 v3 g3 v4 g4
      refine (k4 _ _ _ _ _ _ H4.out (by omega) (by omega)).mono ?_
      rintro e w2 ⟨K2, rfl, y2, o4, p2⟩
      have hbk2 : 0 ≤ K2 := by omega
      have hbm2 : K2 + ((0 : Nat) : Int) ≤ 4611686018427387904 := by omega
      have HY2 := Lib.hid y2
      clear y2
      have o0 := H0.out.ext p2 (fun z hz hz2 => by have := HDis.out 0 4 z (by omega) (by omega) hz hz2; omega)
      have hr := row_ext HR.out p2 (fun hq => hbE 4 b (by omega) hq rfl)
      replace X := X.trans (p2.mono (fun q _ hq => .inr ⟨4, by omega, hq⟩))
      clear HR H0 H4 p2
      have H0 := Lib.hid o0
      have H4 := Lib.hid o4
      clear o0 o4
      have HR := Lib.hid hr
      clear hr
      go_wp2_with fail
      go_roundw
      case rel => exact ⟨j + 1, K2, by omega, by go_num, rfl, by
        show _ = _
        have h1 := HCT.out; have h2 := HK.out; have := HY1.out; have := HY2.out; omega, by
        rw [HMS.out, ← HK.out]
        have e : mkR [encInts ((fAt xs j).params), .num ((fAt xs j).result), .num ((fAt xs j).body.op), .num ((fAt xs j).body.num), encExprs ((fAt xs j).body.kids)] K = [mkD (encInts ((fAt xs j).params)) (K), .num (K1), .num (K1 + 1), .num (K1 + 1 + 1), mkD (encExprs ((fAt xs j).body.kids)) (K1 + 1 + 1 + 1)] := by
          have hHY1 := HY1.out
          have hHY2 := HY2.out
          simp only [mkR, mkD, cntD]
          first | rfl | (congr <;> omega) | (repeat (first | rfl | omega | (congr 1)))
        rw [e]
        refine HOFF.out _ _ _ HR.out X (fun q hq => ?_) rfl (fun q hq => ?_)
        · rw [if_neg (by omega), if_neg (by omega), if_neg (by omega)]
        · rcases q with _ | _ | _ | _ | _ | q
          · exact Own.val (by have hf := F0.out; simp only [Nat.add_zero] at hf; simp [hf]) H0.out
          · exact Own.val (by simp) (.num _ _)
          · exact Own.val (by simp) (.num _ _)
          · exact Own.val (by simp) (.num _ _)
          · exact Own.val (by simp [F4.out]) H4.out
          · omega, hX.trans (X.mono (fun q _ hq => by
        rcases hq with rfl | ⟨i, hi, hq⟩
        · exact hDb
        · exact (hE i q hi hq).1))⟩
      case measure => simp [intOf]; omega
    · have HJ : Hid (j = n) := by show _ = _; omega
      go_wp2
      exact fin_ hQ ⟨K, rfl, by rw [HK.out, HJ.out, List.take_of_length_le (Nat.le_of_eq HRL.out)], by rw [mkTo_all _ _ (HJ.out.trans HRL.out.symm)] at hO; exact hO, hX⟩



end Go.Proofs.Ytbknmljfnjlieaa
/- The laws' own helpers: marks that are held. -/
namespace Go.Proofs.Ytbknmljfnjlieaa
open Go.RowKit


def HdC (f : FuncId) (d : Dat) : Prop := ∀ (a : Option Addr) (n c : Nat) (D : Nat → Prop) (k : Int) (w : World), Rd w D (mkD d k) (.slice a n c) → 0 ≤ k → k + (cntD d : Int) ≤ 4611686018427387904 →
  Calls Try.prog f #[.slice a n c, .int .i64 k] w fun e w' => e = .returned (.int .i64 (k + (cntD d : Int))) ∧ Keep w w'


set_option maxRecDepth 100000 in
set_option maxHeartbeats 4000000 in
theorem heldIntS (xs : List Int) : HdC 26 (encInts xs) := by
  intro a n c D k w h h0 h1
  refine calls_k fun Q hQ => ?_
  have e2 : cntD (encInts xs) = cntRR (xs.map rowI) := by rw [encInts, cntD]
  have e3 : mkD (encInts xs) k = .arr 1 (mkRR (xs.map rowI) k) := by rw [encInts, mkD]
  rw [e2] at hQ h1
  rw [e3] at h
  obtain ⟨e1, hnc, hm, hat⟩ := rows_at h
  rw [mkRR_len] at e1
  have HRL := Lib.hid e1
  have HL : Hid (xs.length = n) := by show _ = _; rw [ints_len] at e1; exact e1
  have HA := Lib.hid hat
  clear e1 e2 e3 hat h
  go_enter Try.func26, Try.ntmps26
  go_wp2
  go_loopw [1, 5] (fun kv iv wr => ∃ (j : Nat) (K : Int), j ≤ n ∧ iv = .int .i64 j ∧ kv = .int .i64 K ∧ Hid (K = k + (cntRR ((xs.map rowI).take j) : Int)) ∧ Keep w wr) (fun _ iv _ => n - (intOf iv).toNat)
  case atStart => exact ⟨0, k, Nat.zero_le _, rfl, rfl, by show _ = _; simp [cntRR], Ext.refl _ _⟩
  case round =>
    obtain ⟨j, K, hj, rfl, rfl, HK, hX⟩ := hrel
    by_cases hlt : j < n
    · have hjl : j < (xs.map rowI).length := by rw [HRL.out]; exact hlt
      have hct := cntRR_take (xs.map rowI) j hjl
      have hcl := cntRR_take_le (xs.map rowI) (j + 1)
      have hrow := ints_row xs j (by have := HL.out; omega)
      have hmg := mkRR_get (xs.map rowI) k j hjl
      rw [hrow] at hct hmg
      rw [← HK.out] at hmg
      have hcr : cntR [.num (iAt xs j)] = 1 := by simp only [cntR, cntD] <;> omega
      rw [hcr] at hct
      have hb0 : 0 ≤ K := by have := HK.out; omega
      have hb1 : K + ((1 : Nat) : Int) ≤ 4611686018427387904 := by have := HK.out; omega
      obtain ⟨b, o, rfl, hd, hcell⟩ := HA.out j hlt
      rw [hmg] at hcell
      have e : mkR [.num (iAt xs j)] K = [.num (K)] := by
        simp only [mkR, mkD]
        first | done | rfl
      rw [e] at hcell
      obtain ⟨u0, d0, r0⟩ := hcell 0 (by omega)
      rw [Nat.mul_one, Nat.add_zero] at d0
      obtain rfl := Rd.num_inv r0
      have g0 := (hX.cell (World.block_lt_of_cell? w _ d0) (fun h => h)).trans d0
      have HCT := Lib.hid hct
      clear hct hcl hrow hmg hcr hcell e d0
      go_wp2_with fail
      go_roundw
      case rel => exact ⟨j + 1, K + 1, by omega, by go_num, rfl, by
        show _ = _
        have h1 := HCT.out; have h2 := HK.out; omega, hX⟩
      case measure => simp [intOf]; omega
    · have HJ : Hid (j = n) := by show _ = _; omega
      go_wp2
      exact fin_ hQ ⟨ret_i (by rw [HK.out, HJ.out, List.take_of_length_le (Nat.le_of_eq HRL.out)]), hX⟩







end Go.Proofs.Ytbknmljfnjlieaa
/- The laws' own helpers: marks over values. -/
namespace Go.Proofs.Ytbknmljfnjlieaa
open Go.RowKit

theorem ToS.two {lo hi : Nat} {w : World} {d0 d1 : Dat} {u0 u1 : Value} (h : ToS lo hi w [d0, d1] [u0, u1]) : ∃ E0 E1 : Nat → Prop, (∀ k, E0 k → lo ≤ k ∧ k < hi) ∧ (∀ k, E1 k → lo ≤ k ∧ k < hi) ∧ (∀ k, E0 k → ¬ E1 k) ∧ Own w E0 d0 u0 ∧ Own w E1 d1 u1 := by
  obtain ⟨E, h1, h2, _, h4⟩ := h
  obtain ⟨v0, e0, o0⟩ := h4 0 (by simp)
  obtain ⟨v1, e1, o1⟩ := h4 1 (by simp)
  injection e0 with e0
  injection e1 with e1
  subst e0 e1
  exact ⟨E 0, E 1, fun k => h1 0 k, fun k => h1 1 k, fun k hk hk' => by have := h2 0 1 k hk hk'; omega, o0, o1⟩
theorem ToS.mk2 {lo hi : Nat} {w : World} {d0 d1 : Dat} {u0 u1 : Value} {E0 E1 : Nat → Prop} (h0 : ∀ k, E0 k → lo ≤ k ∧ k < hi) (h1 : ∀ k, E1 k → lo ≤ k ∧ k < hi) (hd : ∀ k, E0 k → ¬ E1 k) (o0 : Own w E0 d0 u0) (o1 : Own w E1 d1 u1) : ToS lo hi w [d0, d1] [u0, u1] := by
  refine ⟨fun i k => (i = 0 ∧ E0 k) ∨ (i = 1 ∧ E1 k), fun i k hk => ?_, fun i i' k hk hk' => ?_, rfl, fun i hi => ?_⟩
  · rcases hk with ⟨_, hk⟩ | ⟨_, hk⟩
    · exact h0 k hk
    · exact h1 k hk
  · rcases hk with ⟨rfl, hk⟩ | ⟨rfl, hk⟩ <;> rcases hk' with ⟨rfl, hk'⟩ | ⟨rfl, hk'⟩
    · rfl
    · exact absurd hk' (hd k hk)
    · exact absurd hk (hd k hk')
    · rfl
  · rcases (show i = 0 ∨ i = 1 by simp at hi; omega) with rfl | rfl
    · exact ⟨u0, rfl, o0.mono (fun k hk => .inl ⟨rfl, hk⟩)⟩
    · exact ⟨u1, rfl, o1.mono (fun k hk => .inr ⟨rfl, hk⟩)⟩


theorem markProgram (lo hi : Nat) (w : World) (d0 d1 : Dat) (a0 : Option Addr) (n0 c0 : Nat) (a1 : Option Addr) (n1 c1 : Nat) (k : Int) (h : ToS lo hi w [d0, d1] [.slice a0 n0 c0, .slice a1 n1 c1]) (hhi : hi ≤ w.heap.size) (m0 : MkC 65 d0) (m1 : MkC 66 d1)
    (hk : 0 ≤ k) (hb : k + (cntD d0 : Int) + (cntD d1 : Int) ≤ 4611686018427387904) :
    Calls Try.prog 24 #[.agg #[.slice a0 n0 c0, .slice a1 n1 c1], .int .i64 k] w fun e w' => ∃ k' : Int, e = .returned (.int .i64 k') ∧ k' = k + (cntD d0 : Int) + (cntD d1 : Int) ∧ ToS lo hi w' [mkD d0 k, mkD d1 (k + (cntD d0 : Int))] [.slice a0 n0 c0, .slice a1 n1 c1] ∧ Ext (fun q => lo ≤ q ∧ q < hi) w w' := by
  refine calls_k fun Q hQ => ?_
  obtain ⟨E0, E1, h0, h1, hd, p0, p1⟩ := h.two
  have K0 := Keep.al w (.cells #[.slice a0 n0 c0, .slice a1 n1 c1] 36)
  have RB := Lib.hid (rowOf w #[.slice a0 n0 c0, .slice a1 n1 c1] 36)
  have o0 := Lib.hid (p0.ext K0 (fun _ _ h => h))
  have o1 := Lib.hid (p1.ext K0 (fun _ _ h => h))
  have H0 := Lib.hid h0
  have H1 := Lib.hid h1
  have HD := Lib.hid hd
  clear h p0 p1 h0 h1 hd
  go_enter Try.func24, Try.ntmps24
  go_wp2_with fail
  refine (m0 _ _ _ _ _ _ o0.out hk (by omega)).mono ?_
  rintro e w1 ⟨k1, rfl, hk1, q0, x1⟩
  have V1 := Lib.hid hk1
  have O0 := Lib.hid q0
  have O1 := Lib.hid (o1.out.ext x1 (fun q hq hq' => HD.out q hq' hq))
  have X1 := Lib.hid ((Keep.to K0).trans x1)
  have y1 : w1.cell? ⟨w.heap.size, 1, none⟩ = some (.slice a1 n1 c1) := (row_ext RB.out x1 (fun hq => by have := (H0.out _ hq).2; omega)).cell (i := 1) (by simp)
  clear hk1 q0 x1 K0
  go_wp2_with fail
  refine (m1 _ _ _ _ _ _ O1.out (by have := V1.out; omega) (by have := V1.out; omega)).mono ?_
  rintro e w2 ⟨k2, rfl, hk2, q1, x2⟩
  have V2 := Lib.hid hk2
  clear hk2
  go_wp2_with fail
  refine fin_ hQ ⟨k2, rfl, by rw [V2.out, V1.out], ?_, ((X1.out.mono (fun q _ hq => H0.out q hq)).trans (x2.mono (fun q _ hq => H1.out q hq)))⟩
  have e1 := V1.out
  subst e1
  exact ToS.mk2 H0.out H1.out HD.out (O0.out.ext x2 (fun q hq hq' => HD.out q hq hq')) q1


end Go.Proofs.Ytbknmljfnjlieaa
/- How many integers data have, against how many elements. -/
namespace Go.Proofs.Ytbknmljfnjlieaa
open Go.RowKit

theorem cnt_map {α : Type} (f : α → List Dat) (l : List α) (h : ∀ x ∈ l, cntR (f x) ≤ 3 + 3 * szR (f x)) : cntRR (l.map f) ≤ 3 * (l.length + szRR (l.map f)) := by
  induction l with
  | nil => simp [cntRR]
  | cons x xs ih =>
    have h1 := h x (by simp)
    have h2 := ih (fun y hy => h y (by simp [hy]))
    simp only [List.map_cons, cntRR, szRR, List.length_cons]
    omega
theorem cnt_arr {α : Type} (s : Nat) (f : α → List Dat) (l : List α) (h : ∀ x ∈ l, cntR (f x) ≤ 3 + 3 * szR (f x)) : cntD (.arr s (l.map f)) ≤ 3 * szD (.arr s (l.map f)) := by
  have := cnt_map f l h
  simp only [cntD, szD, List.length_map]
  exact this
theorem cnt_ints (xs : List Int) : cntD (encInts xs) ≤ 3 * szD (encInts xs) := cnt_arr 1 rowI xs (fun x _ => by simp only [rowI, cntR, cntD]; omega)
theorem cnt_cons (xs : List (List Int)) : cntD (encCons xs) ≤ 3 * szD (encCons xs) := cnt_arr 1 rowC xs (fun x _ => by
  have := cnt_ints x
  simp only [rowC, cntR, szR]; omega)
theorem cnt_decls (xs : List DeclL) : cntD (encDecls xs) ≤ 3 * szD (encDecls xs) := cnt_arr 3 rowD xs (fun x _ => by
  have := cnt_cons x.cons
  simp only [rowD, cntR, szR, cntD, szD]; omega)
mutual
theorem cnt_rowE : ∀ e : ExprL, cntR (rowE e) ≤ 3 + 3 * szR (rowE e)
  | .mk op num ks => by
    have := cnt_rowsE ks
    have hl : (rowsE ks).length = ks.length := by rw [rowsE_map]; simp
    simp only [rowE, cntR, szR, cntD, szD, hl]; omega
theorem cnt_rowsE : ∀ es : List ExprL, cntRR (rowsE es) ≤ 3 * (es.length + szRR (rowsE es))
  | [] => by simp [rowsE, cntRR]
  | e :: es => by
    have h1 := cnt_rowE e
    have h2 := cnt_rowsE es
    simp only [rowsE, cntRR, szRR, List.length_cons]; omega
end
theorem cnt_exprs (xs : List ExprL) : cntD (encExprs xs) ≤ 3 * szD (encExprs xs) := by
  have := cnt_rowsE xs
  have hl : (rowsE xs).length = xs.length := by rw [rowsE_map]; simp
  simp only [encExprs, cntD, szD, hl]; exact this
theorem cnt_funcs (xs : List FuncL) : cntD (encFuncs xs) ≤ 3 * szD (encFuncs xs) := cnt_arr 5 rowF xs (fun x _ => by
  have := cnt_ints x.params
  have := cnt_exprs x.body.kids
  simp only [rowF, cntR, szR, cntD, szD]; omega)
mutual
theorem cnt_rowS : ∀ e : StepL, cntR (rowS e) ≤ 3 + 3 * szR (rowS e)
  | .mk op num into args ks => by
    have := cnt_rowsB ks
    have := cnt_ints args
    have hl : (rowsB ks).length = ks.length := by rw [rowsB_map]; simp
    simp only [rowS, cntR, szR, cntD, szD, hl]; omega
theorem cnt_rowB : ∀ e : BlockL, cntR (rowB e) ≤ 3 + 3 * szR (rowB e)
  | .mk ss r => by
    have := cnt_rowsS ss
    have hl : (rowsS ss).length = ss.length := by rw [rowsS_map]; simp
    simp only [rowB, cntR, szR, cntD, szD, hl]; omega
theorem cnt_rowsS : ∀ es : List StepL, cntRR (rowsS es) ≤ 3 * (es.length + szRR (rowsS es))
  | [] => by simp [rowsS, cntRR]
  | e :: es => by
    have h1 := cnt_rowS e
    have h2 := cnt_rowsS es
    simp only [rowsS, cntRR, szRR, List.length_cons]; omega
theorem cnt_rowsB : ∀ es : List BlockL, cntRR (rowsB es) ≤ 3 * (es.length + szRR (rowsB es))
  | [] => by simp [rowsB, cntRR]
  | e :: es => by
    have h1 := cnt_rowB e
    have h2 := cnt_rowsB es
    simp only [rowsB, cntRR, szRR, List.length_cons]; omega
end
theorem cnt_steps (xs : List StepL) : cntD (encSteps xs) ≤ 3 * szD (encSteps xs) := by
  have := cnt_rowsS xs
  have hl : (rowsS xs).length = xs.length := by rw [rowsS_map]; simp
  simp only [encSteps, cntD, szD, hl]; exact this
theorem cnt_routs (xs : List RoutL) : cntD (encRouts xs) ≤ 3 * szD (encRouts xs) := cnt_arr 5 rowR xs (fun x _ => by
  have := cnt_ints x.params
  have := cnt_ints x.lent
  have := cnt_steps x.body.steps
  simp only [rowR, cntR, szR, cntD, szD]; omega)
end Go.Proofs.Ytbknmljfnjlieaa
