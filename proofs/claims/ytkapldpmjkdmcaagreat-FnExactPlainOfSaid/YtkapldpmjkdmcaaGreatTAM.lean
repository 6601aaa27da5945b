/- The program's types of expressions: operations that neither bind nor choose. -/
import Derived.Test.YtkapldpmjkdmcaaGreatTAK
import Derived.Test.YtkapldpmjkdmcaaGreatTAC
namespace Go.Proofs.YtkapldpmjkdmcaaGreat
open Go.RowKit

section
variable (ds : List DeclL) (sg : List SigL) (hok : sigsOk ds sg = true)
include hok

set_option maxRecDepth 100000 in
set_option maxHeartbeats 4000000 in
theorem implSim_11 (num : Int) (tys : List Int) (D : Nat → Prop) (a0 : Option Addr) (n0 c0 : Nat) (a1 : Option Addr) (n1 c1 : Nat) (a : Option Addr) (n c : Nat) (E : Nat → Prop) (w : World) (hp : SR w D ds sg a0 n0 c0 a1 n1 c1) (h : IntsL w E a n tys) (hn : n ≤ 1049576) :
    Calls Tryz.prog 162 #[.agg #[.slice a0 n0 c0, .slice a1 n1 c1], .int .i64 11, .int .i64 num, .slice a n c] w (SimR ds sg 11 num tys w) := by
  refine calls_k fun Q hQ => ?_
  have ht := (sigsOk_parts hok).1
  have hf := Few.of_ok ht
  have hn0 : n0 ≤ 4 := by have := (decls_at hp.1).1; have := typesOk_len ht; omega
  have K0 := Keep.al w (.cells #[.slice a0 n0 c0, .slice a1 n1 c1] 130)
  have R0 := rowOf w #[.slice a0 n0 c0, .slice a1 n1 c1] 130
  have HL := Lib.hid h.1
  have HOK := Lib.hid hok
  have HT := Lib.hid ht
  clear hok ht
  have V0 := Lib.hid (simple_11 ds sg num tys)
  have h1 := h.ext K0 (fun _ _ h => h)
  by_cases hn2 : n = 2
  case neg =>
    have V : Hid (simpleL ds sg 11 num tys = -1) := by show _ = _; rw [V0.out, if_neg (fun h => hn2 (by rw [← HL.out]; exact h.2.1))]
    have hz : ((n : Int) != 2) = true := by simp; omega
    clear hn2
    go_enter Tryz.func162, Tryz.ntmps162
    go_wp2_with fail
    exact fin_ hQ (simR_neg V.out (K0))
  subst hn2
  obtain ⟨b, o, rfl, _, hat⟩ := h.2 (by omega)
  have d0 := hat 0 (by omega)
  have d1 := hat 1 (by omega)
  rw [Nat.add_zero] at d0
  obtain ⟨t0, ht0⟩ : ∃ t, iAt tys 0 = t := ⟨_, rfl⟩
  obtain ⟨t1, ht1⟩ : ∃ t, iAt tys 1 = t := ⟨_, rfl⟩
  rw [ht0] at d0 V0
  rw [ht1] at d1 V0
  have g0 := (K0.cell (World.block_lt_of_cell? w _ d0) (fun h => h)).trans d0
  have g1 := (K0.cell (World.block_lt_of_cell? w _ d1) (fun h => h)).trans d1
  have hpk := Rd.toDecls (hp.k K0).1
  clear d0 d1 ht0 ht1 hat h1
  cases ha : isArr ds t0
  · have V : Hid (simpleL ds sg 11 num tys = -1) := by show _ = _; rw [V0.out, if_neg (fun h => by rw [ha] at h; cases h.2.2.1)]
    have HA0 := Lib.hid ha
    clear ha
    go_enter Tryz.func162, Tryz.ntmps162
    go_wp2_with fail
    generalize hW : (w.alloc (.cells #[.slice a0 n0 c0, .slice a1 n1 c1] 130)) = W at *
    have x0 := R0.cell (i := 0) (by simp)
    simp at x0
    have pc := Ext.refl0 W
    have qd := hpk.ext (S := fun _ => False) (w' := W.drew) (Ext.refl (fun _ => False) W).drew (fun _ _ h => h)
    have qd2 := qd.ext (Keep.al W.drew (.cells #[.int .i64 0, .int .i64 0, .slice none 0 0] 125)) (fun _ _ h => h)
    have hWs : w.heap.size + 1 ≤ W.heap.size := by rw [← hW]; simp
    clear hW hpk
    go_region_held3 (fun w' => w'.cell? ⟨w.heap.size, 0, none⟩ = some (.slice a0 n0 c0) ∧ w'.cell? ⟨b, o, none⟩ = some (.int .i64 t0))
      (first | exact ⟨Keep.at pc x0, Keep.at pc g0⟩ | exact ⟨Keep.at (Ext.trans pc (Keep.al _ _)) x0, Keep.at (Ext.trans pc (Keep.al _ _)) g0⟩ | exact SX.out | go_keep)
      (first
        | (go_at_call 189; refine (implArrowAt _ _ _ ds _ _ _ qd (by omega)).mono ?_; rw [HA0.out]; rintro e w1 ⟨f, g, a3, n3, c3, rfl, hfg, p1⟩; replace pc := Ext.trans pc p1; have KE := Lib.hid (K0.trans (Keep.dt pc)); have y10 := (Keep.dt pc |>.cell (World.block_lt_of_cell? _ _ g1) (fun h => h)).trans g1; have y1 := ((Keep.al w1 (.cells #[.int .i64 f, .int .i64 g, .slice a3 n3 c3] 125)).cell (World.block_lt_of_cell? _ _ y10) (fun h => h)).trans y10; clear y10; have KF := Lib.hid (KE.out.trans (Keep.al w1 (.cells #[.int .i64 f, .int .i64 g, .slice a3 n3 c3] 125))); clear hfg; skip)
        | (go_at_call 189; refine (implArrowAt _ _ _ ds _ _ _ qd2 (by omega)).mono ?_; rw [HA0.out]; rintro e w1 ⟨f, g, a3, n3, c3, rfl, hfg, p1⟩; replace pc := Ext.trans (Ext.trans pc (Keep.al W.drew (.cells #[.int .i64 0, .int .i64 0, .slice none 0 0] 125))) p1; have RZ := row_ext (rowOf W.drew #[.int .i64 0, .int .i64 0, .slice none 0 0] 125) p1 (fun h => h); have z0 : w1.cell? ⟨W.heap.size, 0, none⟩ = some (.int .i64 0) := RZ.cell (i := 0) (by simp); have z1 : w1.cell? ⟨W.heap.size, 1, none⟩ = some (.int .i64 0) := RZ.cell (i := 1) (by simp); have z2 : w1.cell? ⟨W.heap.size, 2, none⟩ = some (.slice none 0 0) := RZ.cell (i := 2) (by simp); have f0 : w1.frozen? ⟨W.heap.size, 0, none⟩ = false := RZ.frozen 0; have f1 : w1.frozen? ⟨W.heap.size, 1, none⟩ = false := RZ.frozen 1; have f2 : w1.frozen? ⟨W.heap.size, 2, none⟩ = false := RZ.frozen 2; clear RZ; have KE := Lib.hid (K0.trans (Keep.dt pc)); have X := ((((Ext.refl (fun q => q = W.heap.size) w1).setCell (p := ⟨W.heap.size, 0, none⟩) (.inr rfl) (.int .i64 f)).setCell (p := ⟨W.heap.size, 1, none⟩) (.inr rfl) (.int .i64 g)).setCell (p := ⟨W.heap.size, 2, none⟩) (.inr rfl) (.slice a3 n3 c3)); have KF := Lib.hid (KE.out.then_ X (fun q hq e => by omega)); have hbW : b ≠ W.heap.size := (fun e => by have h1 := World.block_lt_of_cell? _ _ g1; simp only at h1; omega); have hwW : w.heap.size ≠ W.heap.size := (by omega); have y1 := (X.cell (World.block_lt_of_cell? _ _ ((Keep.dt pc |>.cell (World.block_lt_of_cell? _ _ g1) (fun h => h)).trans g1)) hbW).trans ((Keep.dt pc |>.cell (World.block_lt_of_cell? _ _ g1) (fun h => h)).trans g1); have SX := Lib.hid (And.intro ((X.cell (p := ⟨w.heap.size, 0, none⟩) (World.block_lt_of_cell? _ _ (Keep.at pc x0)) hwW).trans (Keep.at pc x0)) ((X.cell (p := ⟨b, o, none⟩) (World.block_lt_of_cell? _ _ (Keep.at pc g0)) hbW).trans (Keep.at pc g0))); clear X; clear hfg; skip))
    all_goals
      go_wp2_with fail
      go_quiet (fail)
      go_wp2_with fail
      exact fin_ hQ (simR_neg V.out (by first | exact KF.out.drewN _ | exact KF.out.drew))
  obtain ⟨j1, j2, j3⟩ := isArr_parts ha
  obtain ⟨fr, hfr⟩ : ∃ fr, (dAt ds (t0.toNat - 1)).from_ = fr := ⟨_, rfl⟩
  obtain ⟨tv, hto⟩ : ∃ tv, (dAt ds (t0.toNat - 1)).to_ = tv := ⟨_, rfl⟩
  have hto0 : 0 ≤ tv := by
    have := (declOk_arrow (typesOk_decl HT.out (k := t0.toNat - 1) (by omega)) j3).2
    rw [hto] at this
    exact (isT_iff.1 this).1
  rw [hfr, hto] at V0
  have HFR := Lib.hid hfr
  have HTO := Lib.hid hto
  have HA0 := Lib.hid ha
  clear ha j1 j2 j3 hfr hto
  by_cases he : t1 = fr
  case neg =>
    have V : Hid (simpleL ds sg 11 num tys = -1) := by show _ = _; rw [V0.out, if_neg (fun h => he h.2.2.2)]
    have he' : (t1 == fr) = false := by simpa using he
    clear he
    go_enter Tryz.func162, Tryz.ntmps162
    go_wp2_with fail
    generalize hW : (w.alloc (.cells #[.slice a0 n0 c0, .slice a1 n1 c1] 130)) = W at *
    have x0 := R0.cell (i := 0) (by simp)
    simp at x0
    have pc := Ext.refl0 W
    have qd := hpk.ext (S := fun _ => False) (w' := W.drew) (Ext.refl (fun _ => False) W).drew (fun _ _ h => h)
    have qd2 := qd.ext (Keep.al W.drew (.cells #[.int .i64 0, .int .i64 0, .slice none 0 0] 125)) (fun _ _ h => h)
    have hWs : w.heap.size + 1 ≤ W.heap.size := by rw [← hW]; simp
    clear hW hpk
    go_region_held3 (fun w' => w'.cell? ⟨w.heap.size, 0, none⟩ = some (.slice a0 n0 c0) ∧ w'.cell? ⟨b, o, none⟩ = some (.int .i64 t0))
      (first | exact ⟨Keep.at pc x0, Keep.at pc g0⟩ | exact ⟨Keep.at (Ext.trans pc (Keep.al _ _)) x0, Keep.at (Ext.trans pc (Keep.al _ _)) g0⟩ | exact SX.out | go_keep)
      (first
        | (go_at_call 189; refine (implArrowAt _ _ _ ds _ _ _ qd (by omega)).mono ?_; rw [HA0.out]; rintro e w1 ⟨f, g, a3, n3, c3, rfl, hfg, p1⟩; replace pc := Ext.trans pc p1; have KE := Lib.hid (K0.trans (Keep.dt pc)); have y10 := (Keep.dt pc |>.cell (World.block_lt_of_cell? _ _ g1) (fun h => h)).trans g1; have y1 := ((Keep.al w1 (.cells #[.int .i64 f, .int .i64 g, .slice a3 n3 c3] 125)).cell (World.block_lt_of_cell? _ _ y10) (fun h => h)).trans y10; clear y10; have KF := Lib.hid (KE.out.trans (Keep.al w1 (.cells #[.int .i64 f, .int .i64 g, .slice a3 n3 c3] 125))); replace hfg := hfg rfl; rw [HFR.out, HTO.out] at hfg; obtain ⟨rfl, rfl⟩ := hfg; skip)
        | (go_at_call 189; refine (implArrowAt _ _ _ ds _ _ _ qd2 (by omega)).mono ?_; rw [HA0.out]; rintro e w1 ⟨f, g, a3, n3, c3, rfl, hfg, p1⟩; replace pc := Ext.trans (Ext.trans pc (Keep.al W.drew (.cells #[.int .i64 0, .int .i64 0, .slice none 0 0] 125))) p1; have RZ := row_ext (rowOf W.drew #[.int .i64 0, .int .i64 0, .slice none 0 0] 125) p1 (fun h => h); have z0 : w1.cell? ⟨W.heap.size, 0, none⟩ = some (.int .i64 0) := RZ.cell (i := 0) (by simp); have z1 : w1.cell? ⟨W.heap.size, 1, none⟩ = some (.int .i64 0) := RZ.cell (i := 1) (by simp); have z2 : w1.cell? ⟨W.heap.size, 2, none⟩ = some (.slice none 0 0) := RZ.cell (i := 2) (by simp); have f0 : w1.frozen? ⟨W.heap.size, 0, none⟩ = false := RZ.frozen 0; have f1 : w1.frozen? ⟨W.heap.size, 1, none⟩ = false := RZ.frozen 1; have f2 : w1.frozen? ⟨W.heap.size, 2, none⟩ = false := RZ.frozen 2; clear RZ; have KE := Lib.hid (K0.trans (Keep.dt pc)); have X := ((((Ext.refl (fun q => q = W.heap.size) w1).setCell (p := ⟨W.heap.size, 0, none⟩) (.inr rfl) (.int .i64 f)).setCell (p := ⟨W.heap.size, 1, none⟩) (.inr rfl) (.int .i64 g)).setCell (p := ⟨W.heap.size, 2, none⟩) (.inr rfl) (.slice a3 n3 c3)); have KF := Lib.hid (KE.out.then_ X (fun q hq e => by omega)); have hbW : b ≠ W.heap.size := (fun e => by have h1 := World.block_lt_of_cell? _ _ g1; simp only at h1; omega); have hwW : w.heap.size ≠ W.heap.size := (by omega); have y1 := (X.cell (World.block_lt_of_cell? _ _ ((Keep.dt pc |>.cell (World.block_lt_of_cell? _ _ g1) (fun h => h)).trans g1)) hbW).trans ((Keep.dt pc |>.cell (World.block_lt_of_cell? _ _ g1) (fun h => h)).trans g1); have SX := Lib.hid (And.intro ((X.cell (p := ⟨w.heap.size, 0, none⟩) (World.block_lt_of_cell? _ _ (Keep.at pc x0)) hwW).trans (Keep.at pc x0)) ((X.cell (p := ⟨b, o, none⟩) (World.block_lt_of_cell? _ _ (Keep.at pc g0)) hbW).trans (Keep.at pc g0))); clear X; replace hfg := hfg rfl; rw [HFR.out, HTO.out] at hfg; obtain ⟨rfl, rfl⟩ := hfg; skip))
    all_goals
      go_wp2_with fail
      go_quiet (fail)
      go_wp2_with fail
      exact fin_ hQ (simR_neg V.out (by first | exact KF.out.drewN _ | exact KF.out.drew))
  have he' : (t1 == fr) = true := by simpa using he
  by_cases hz : num = 0
  · have V : Hid (simpleL ds sg 11 num tys = tv) := by show _ = _; rw [V0.out, if_pos ⟨hz, HL.out, HA0.out, he⟩]
    have hz' : (num == 0) = true := by simpa using hz
    clear hz he
    go_enter Tryz.func162, Tryz.ntmps162
    go_wp2_with fail
    generalize hW : (w.alloc (.cells #[.slice a0 n0 c0, .slice a1 n1 c1] 130)) = W at *
    have x0 := R0.cell (i := 0) (by simp)
    simp at x0
    have pc := Ext.refl0 W
    have qd := hpk.ext (S := fun _ => False) (w' := W.drew) (Ext.refl (fun _ => False) W).drew (fun _ _ h => h)
    have qd2 := qd.ext (Keep.al W.drew (.cells #[.int .i64 0, .int .i64 0, .slice none 0 0] 125)) (fun _ _ h => h)
    have hWs : w.heap.size + 1 ≤ W.heap.size := by rw [← hW]; simp
    clear hW hpk
    go_region_held3 (fun w' => w'.cell? ⟨w.heap.size, 0, none⟩ = some (.slice a0 n0 c0) ∧ w'.cell? ⟨b, o, none⟩ = some (.int .i64 t0))
      (first | exact ⟨Keep.at pc x0, Keep.at pc g0⟩ | exact ⟨Keep.at (Ext.trans pc (Keep.al _ _)) x0, Keep.at (Ext.trans pc (Keep.al _ _)) g0⟩ | exact SX.out | go_keep)
      (first
        | (go_at_call 189; refine (implArrowAt _ _ _ ds _ _ _ qd (by omega)).mono ?_; rw [HA0.out]; rintro e w1 ⟨f, g, a3, n3, c3, rfl, hfg, p1⟩; replace pc := Ext.trans pc p1; have KE := Lib.hid (K0.trans (Keep.dt pc)); have y10 := (Keep.dt pc |>.cell (World.block_lt_of_cell? _ _ g1) (fun h => h)).trans g1; have y1 := ((Keep.al w1 (.cells #[.int .i64 f, .int .i64 g, .slice a3 n3 c3] 125)).cell (World.block_lt_of_cell? _ _ y10) (fun h => h)).trans y10; clear y10; have KF := Lib.hid (KE.out.trans (Keep.al w1 (.cells #[.int .i64 f, .int .i64 g, .slice a3 n3 c3] 125))); replace hfg := hfg rfl; rw [HFR.out, HTO.out] at hfg; obtain ⟨rfl, rfl⟩ := hfg; skip)
        | (go_at_call 189; refine (implArrowAt _ _ _ ds _ _ _ qd2 (by omega)).mono ?_; rw [HA0.out]; rintro e w1 ⟨f, g, a3, n3, c3, rfl, hfg, p1⟩; replace pc := Ext.trans (Ext.trans pc (Keep.al W.drew (.cells #[.int .i64 0, .int .i64 0, .slice none 0 0] 125))) p1; have RZ := row_ext (rowOf W.drew #[.int .i64 0, .int .i64 0, .slice none 0 0] 125) p1 (fun h => h); have z0 : w1.cell? ⟨W.heap.size, 0, none⟩ = some (.int .i64 0) := RZ.cell (i := 0) (by simp); have z1 : w1.cell? ⟨W.heap.size, 1, none⟩ = some (.int .i64 0) := RZ.cell (i := 1) (by simp); have z2 : w1.cell? ⟨W.heap.size, 2, none⟩ = some (.slice none 0 0) := RZ.cell (i := 2) (by simp); have f0 : w1.frozen? ⟨W.heap.size, 0, none⟩ = false := RZ.frozen 0; have f1 : w1.frozen? ⟨W.heap.size, 1, none⟩ = false := RZ.frozen 1; have f2 : w1.frozen? ⟨W.heap.size, 2, none⟩ = false := RZ.frozen 2; clear RZ; have KE := Lib.hid (K0.trans (Keep.dt pc)); have X := ((((Ext.refl (fun q => q = W.heap.size) w1).setCell (p := ⟨W.heap.size, 0, none⟩) (.inr rfl) (.int .i64 f)).setCell (p := ⟨W.heap.size, 1, none⟩) (.inr rfl) (.int .i64 g)).setCell (p := ⟨W.heap.size, 2, none⟩) (.inr rfl) (.slice a3 n3 c3)); have KF := Lib.hid (KE.out.then_ X (fun q hq e => by omega)); have hbW : b ≠ W.heap.size := (fun e => by have h1 := World.block_lt_of_cell? _ _ g1; simp only at h1; omega); have hwW : w.heap.size ≠ W.heap.size := (by omega); have y1 := (X.cell (World.block_lt_of_cell? _ _ ((Keep.dt pc |>.cell (World.block_lt_of_cell? _ _ g1) (fun h => h)).trans g1)) hbW).trans ((Keep.dt pc |>.cell (World.block_lt_of_cell? _ _ g1) (fun h => h)).trans g1); have SX := Lib.hid (And.intro ((X.cell (p := ⟨w.heap.size, 0, none⟩) (World.block_lt_of_cell? _ _ (Keep.at pc x0)) hwW).trans (Keep.at pc x0)) ((X.cell (p := ⟨b, o, none⟩) (World.block_lt_of_cell? _ _ (Keep.at pc g0)) hbW).trans (Keep.at pc g0))); clear X; replace hfg := hfg rfl; rw [HFR.out, HTO.out] at hfg; obtain ⟨rfl, rfl⟩ := hfg; skip))
    all_goals
      go_wp2_with fail
      go_quiet (fail)
      go_wp2_with fail
      exact fin_ hQ (simR_pos V.out hto0 (by first | exact KF.out.drewN _ | exact KF.out.drew))
  · have V : Hid (simpleL ds sg 11 num tys = -1) := by show _ = _; rw [V0.out, if_neg (fun h => hz h.1)]
    have hz' : (num == 0) = false := by simpa using hz
    clear hz he
    go_enter Tryz.func162, Tryz.ntmps162
    go_wp2_with fail
    generalize hW : (w.alloc (.cells #[.slice a0 n0 c0, .slice a1 n1 c1] 130)) = W at *
    have x0 := R0.cell (i := 0) (by simp)
    simp at x0
    have pc := Ext.refl0 W
    have qd := hpk.ext (S := fun _ => False) (w' := W.drew) (Ext.refl (fun _ => False) W).drew (fun _ _ h => h)
    have qd2 := qd.ext (Keep.al W.drew (.cells #[.int .i64 0, .int .i64 0, .slice none 0 0] 125)) (fun _ _ h => h)
    have hWs : w.heap.size + 1 ≤ W.heap.size := by rw [← hW]; simp
    clear hW hpk
    go_region_held3 (fun w' => w'.cell? ⟨w.heap.size, 0, none⟩ = some (.slice a0 n0 c0) ∧ w'.cell? ⟨b, o, none⟩ = some (.int .i64 t0))
      (first | exact ⟨Keep.at pc x0, Keep.at pc g0⟩ | exact ⟨Keep.at (Ext.trans pc (Keep.al _ _)) x0, Keep.at (Ext.trans pc (Keep.al _ _)) g0⟩ | exact SX.out | go_keep)
      (first
        | (go_at_call 189; refine (implArrowAt _ _ _ ds _ _ _ qd (by omega)).mono ?_; rw [HA0.out]; rintro e w1 ⟨f, g, a3, n3, c3, rfl, hfg, p1⟩; replace pc := Ext.trans pc p1; have KE := Lib.hid (K0.trans (Keep.dt pc)); have y10 := (Keep.dt pc |>.cell (World.block_lt_of_cell? _ _ g1) (fun h => h)).trans g1; have y1 := ((Keep.al w1 (.cells #[.int .i64 f, .int .i64 g, .slice a3 n3 c3] 125)).cell (World.block_lt_of_cell? _ _ y10) (fun h => h)).trans y10; clear y10; have KF := Lib.hid (KE.out.trans (Keep.al w1 (.cells #[.int .i64 f, .int .i64 g, .slice a3 n3 c3] 125))); replace hfg := hfg rfl; rw [HFR.out, HTO.out] at hfg; obtain ⟨rfl, rfl⟩ := hfg; skip)
        | (go_at_call 189; refine (implArrowAt _ _ _ ds _ _ _ qd2 (by omega)).mono ?_; rw [HA0.out]; rintro e w1 ⟨f, g, a3, n3, c3, rfl, hfg, p1⟩; replace pc := Ext.trans (Ext.trans pc (Keep.al W.drew (.cells #[.int .i64 0, .int .i64 0, .slice none 0 0] 125))) p1; have RZ := row_ext (rowOf W.drew #[.int .i64 0, .int .i64 0, .slice none 0 0] 125) p1 (fun h => h); have z0 : w1.cell? ⟨W.heap.size, 0, none⟩ = some (.int .i64 0) := RZ.cell (i := 0) (by simp); have z1 : w1.cell? ⟨W.heap.size, 1, none⟩ = some (.int .i64 0) := RZ.cell (i := 1) (by simp); have z2 : w1.cell? ⟨W.heap.size, 2, none⟩ = some (.slice none 0 0) := RZ.cell (i := 2) (by simp); have f0 : w1.frozen? ⟨W.heap.size, 0, none⟩ = false := RZ.frozen 0; have f1 : w1.frozen? ⟨W.heap.size, 1, none⟩ = false := RZ.frozen 1; have f2 : w1.frozen? ⟨W.heap.size, 2, none⟩ = false := RZ.frozen 2; clear RZ; have KE := Lib.hid (K0.trans (Keep.dt pc)); have X := ((((Ext.refl (fun q => q = W.heap.size) w1).setCell (p := ⟨W.heap.size, 0, none⟩) (.inr rfl) (.int .i64 f)).setCell (p := ⟨W.heap.size, 1, none⟩) (.inr rfl) (.int .i64 g)).setCell (p := ⟨W.heap.size, 2, none⟩) (.inr rfl) (.slice a3 n3 c3)); have KF := Lib.hid (KE.out.then_ X (fun q hq e => by omega)); have hbW : b ≠ W.heap.size := (fun e => by have h1 := World.block_lt_of_cell? _ _ g1; simp only at h1; omega); have hwW : w.heap.size ≠ W.heap.size := (by omega); have y1 := (X.cell (World.block_lt_of_cell? _ _ ((Keep.dt pc |>.cell (World.block_lt_of_cell? _ _ g1) (fun h => h)).trans g1)) hbW).trans ((Keep.dt pc |>.cell (World.block_lt_of_cell? _ _ g1) (fun h => h)).trans g1); have SX := Lib.hid (And.intro ((X.cell (p := ⟨w.heap.size, 0, none⟩) (World.block_lt_of_cell? _ _ (Keep.at pc x0)) hwW).trans (Keep.at pc x0)) ((X.cell (p := ⟨b, o, none⟩) (World.block_lt_of_cell? _ _ (Keep.at pc g0)) hbW).trans (Keep.at pc g0))); clear X; replace hfg := hfg rfl; rw [HFR.out, HTO.out] at hfg; obtain ⟨rfl, rfl⟩ := hfg; skip))
    all_goals
      go_wp2_with fail
      go_quiet (fail)
      go_wp2_with fail
      exact fin_ hQ (simR_neg V.out (by first | exact KF.out.drewN _ | exact KF.out.drew))
end
end Go.Proofs.YtkapldpmjkdmcaaGreat
