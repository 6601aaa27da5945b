/- The exact law FnExactTypeOf: the walk. -/
import Derived.Test.YtbknmljfnjlieaaTyI12
import Derived.Test.YtbknmljfnjlieaaUSz
import Derived.Test.YtbknmljfnjlieaaUToS
import Derived.Test.YtbknmljfnjlieaaUEq
import Derived.Deep.RegionHeld3
namespace Go.Proofs.Ytbknmljfnjlieaa
open Go.RowKit

set_option linter.unusedVariables false
set_option maxRecDepth 100000 in
set_option maxHeartbeats 4000000 in
theorem fnExactTypeOf_walk (ds : List DeclL) (fs : List FuncL) (a0 : Option Addr) (n0 c0 : Nat) (a1 : Option Addr) (n1 c1 : Nat) (xs : List Int) (a9 : Option Addr) (n9 c9 : Nat) (op num : Int) (es : List ExprL) (a6 : Option Addr) (n6 c6 : Nat) (w : World) (s0 : Rd w (fun _ => True) (encDecls ds) (.slice a0 n0 c0)) (s1 : Rd w (fun _ => True) (encFuncs fs) (.slice a1 n1 c1)) (s9 : Rd w (fun _ => True) (encInts xs) (.slice a9 n9 c9)) (s6 : Rd w (fun _ => True) (encExprs es) (.slice a6 n6 c6)) (hfit : allE fitN (.mk op num es)) :
    Calls Try.prog 3 #[.agg #[.slice a0 n0 c0, .slice a1 n1 c1], .slice a9 n9 c9, .agg #[.int .i64 op, .int .i64 num, .slice a6 n6 c6]] w fun e w' => e = .returned (.bool true) ∧ Keep w w' := by
  refine calls_k fun Q hQ => ?_
  have HFT := Lib.hid hfit
  clear hfit
  have K := (Keep.al w (.cells #[.slice a0 n0 c0, .slice a1 n1 c1] 25)).trans (Keep.al _ (.cells #[.int .i64 op, .int .i64 num, .slice a6 n6 c6] 29))
  have e9 : xs.length = n9 := (ints_at s9).1
  have X9 : szD (encInts xs) = n9 := by rw [encInts, szD, szRR_ints, List.length_map, Nat.add_zero]; exact e9
  by_cases hl : 1048576 < n9
  · clear e9 X9
    go_enter Try.func3, Try.ntmps3
    go_wp2_with fail
    exact fin_ hQ ⟨rfl, K⟩
  have hz9 : szD (encInts xs) ≤ 1048576 := by omega
  have hn9 : n9 ≤ 1048576 := by omega
  clear e9 X9
  replace s0 := s0.k K
  replace s1 := s1.k K
  replace s9 := s9.k K
  replace s6 := s6.k K
  by_cases hs : (1048576 : Int) < ((szD (encDecls ds) + szD (encFuncs fs) : Nat) : Int)
  · have V : Hid (szo (szD (encDecls ds) + szD (encFuncs fs)) 1048576 = -1) := szo_no (by omega)
    go_enter Try.func3, Try.ntmps3
    go_wp2_with fail
    refine (szProgram _ _ _ _ _ _ _ _ _ _ _ s0 s1 (szDeclS _) (szFuncS _) (by omega) (by omega)).mono ?_
    rw [V.out]
    rintro e w1 ⟨rfl, p1⟩
    go_wp2_with fail
    exact fin_ hQ ⟨rfl, K.trans p1⟩
  have hz0 : szD (encDecls ds) ≤ 1048576 := by omega
  have hz1 : szD (encFuncs fs) ≤ 1048576 := by omega
  obtain ⟨lf, hlf⟩ : ∃ lf : Int, 1048576 - ((szD (encDecls ds) : Int) + (szD (encFuncs fs) : Int)) = lf := ⟨_, rfl⟩
  have V : Hid (szo (szD (encDecls ds) + szD (encFuncs fs)) 1048576 = lf) := by show _ = _; rw [szo_yes (by omega)]; omega
  have t0 : 0 ≤ lf := by omega
  have t1 : lf ≤ 1048576 := by omega
  clear hlf hs
  by_cases hs2 : lf < ((szD (encExprs es) : Nat) : Int)
  · have V2 : Hid (szo (szD (encExprs es)) lf = -1) := szo_no (by omega)
    have bk1 := (rowOf w #[.slice a0 n0 c0, .slice a1 n1 c1] 25).alloc (.cells #[.int .i64 op, .int .i64 num, .slice a6 n6 c6] 29)
    have bk2 := rowOf (w.alloc (.cells #[.slice a0 n0 c0, .slice a1 n1 c1] 25)) #[.int .i64 op, .int .i64 num, .slice a6 n6 c6] 29
    simp only [World.size_alloc] at bk2
    go_enter Try.func3, Try.ntmps3
    go_wp2_with fail
    refine (szProgram _ _ _ _ _ _ _ _ _ _ _ s0 s1 (szDeclS _) (szFuncS _) (by omega) (by omega)).mono ?_
    rw [V.out]
    rintro e w1 ⟨rfl, p1⟩
    replace K := K.trans p1
    replace bk1 := row_ext bk1 p1 (fun h => h)
    replace bk2 := row_ext bk2 p1 (fun h => h)
    replace s0 := s0.k p1
    replace s1 := s1.k p1
    replace s9 := s9.k p1
    replace s6 := s6.k p1
    have x0 := bk1.cell (i := 0) (by simp)
    have x1 := bk1.cell (i := 1) (by simp)
    simp at x0 x1
    have y0 := bk2.cell (i := 0) (by simp)
    have y1 := bk2.cell (i := 1) (by simp)
    have y2 := bk2.cell (i := 2) (by simp)
    simp at y0 y1 y2
    go_wp2_with fail
    refine (szExpr _ _ _ _ _ _ _ _ _ s6 (szExprS _) (by omega) (by omega)).mono ?_
    rw [V2.out]
    rintro e w2 ⟨rfl, p2⟩
    clear x0 x1
    clear y0 y1 y2
    replace K := K.trans p2
    replace bk1 := row_ext bk1 p2 (fun h => h)
    replace bk2 := row_ext bk2 p2 (fun h => h)
    replace s0 := s0.k p2
    replace s1 := s1.k p2
    replace s9 := s9.k p2
    replace s6 := s6.k p2
    go_wp2_with fail
    exact fin_ hQ ⟨rfl, K⟩
  have hz6 : szD (encExprs es) ≤ 1048576 := by omega
  obtain ⟨lf2, hlf2⟩ : ∃ l : Int, lf - ((szD (encExprs es) : Int)) = l := ⟨_, rfl⟩
  have V2 : Hid (szo (szD (encExprs es)) lf = lf2) := by show _ = _; rw [szo_yes (by omega)]; omega
  have t2 : 0 ≤ lf2 := by omega
  clear hlf2 hs2
  obtain ⟨z, hz⟩ : ∃ z, typeTop ds fs xs (.mk op num es) = z := ⟨_, rfl⟩
  have HZ := Lib.hid hz
  clear hz
  have bk1 := (rowOf w #[.slice a0 n0 c0, .slice a1 n1 c1] 25).alloc (.cells #[.int .i64 op, .int .i64 num, .slice a6 n6 c6] 29)
  have bk2 := rowOf (w.alloc (.cells #[.slice a0 n0 c0, .slice a1 n1 c1] 25)) #[.int .i64 op, .int .i64 num, .slice a6 n6 c6] 29
  simp only [World.size_alloc] at bk2
  go_enter Try.func3, Try.ntmps3
  go_wp2_with fail
  refine (szProgram _ _ _ _ _ _ _ _ _ _ _ s0 s1 (szDeclS _) (szFuncS _) (by omega) (by omega)).mono ?_
  rw [V.out]
  rintro e w1 ⟨rfl, p1⟩
  replace K := K.trans p1
  replace bk1 := row_ext bk1 p1 (fun h => h)
  replace bk2 := row_ext bk2 p1 (fun h => h)
  replace s0 := s0.k p1
  replace s1 := s1.k p1
  replace s9 := s9.k p1
  replace s6 := s6.k p1
  have x0 := bk1.cell (i := 0) (by simp)
  have x1 := bk1.cell (i := 1) (by simp)
  simp at x0 x1
  have y0 := bk2.cell (i := 0) (by simp)
  have y1 := bk2.cell (i := 1) (by simp)
  have y2 := bk2.cell (i := 2) (by simp)
  simp at y0 y1 y2
  go_wp2_with fail
  refine (szExpr _ _ _ _ _ _ _ _ _ s6 (szExprS _) (by omega) (by omega)).mono ?_
  rw [V2.out]
  rintro e w2 ⟨rfl, p2⟩
  clear x0 x1
  clear y0 y1 y2
  replace K := K.trans p2
  replace bk1 := row_ext bk1 p2 (fun h => h)
  replace bk2 := row_ext bk2 p2 (fun h => h)
  replace s0 := s0.k p2
  replace s1 := s1.k p2
  replace s9 := s9.k p2
  replace s6 := s6.k p2
  have x0 := bk1.cell (i := 0) (by simp)
  have x1 := bk1.cell (i := 1) (by simp)
  simp at x0 x1
  have y0 := bk2.cell (i := 0) (by simp)
  have y1 := bk2.cell (i := 1) (by simp)
  have y2 := bk2.cell (i := 2) (by simp)
  simp at y0 y1 y2
  have s0d := s0.k (w' := w2.drew) (Ext.refl (fun _ => False) w2).drew
  have s1d := s1.k (w' := w2.drew) (Ext.refl (fun _ => False) w2).drew
  have s9d := s9.k (w' := w2.drew) (Ext.refl (fun _ => False) w2).drew
  have s6d := s6.k (w' := w2.drew) (Ext.refl (fun _ => False) w2).drew
  have pc := Ext.refl0 w2
  go_wp2_with fail
  go_region_held3 (fun w' => w'.cell? ⟨w.heap.size, 0, none⟩ = some (.slice a0 n0 c0) ∧ w'.cell? ⟨w.heap.size, 1, none⟩ = some (.slice a1 n1 c1) ∧ w'.cell? ⟨w.heap.size + 1, 0, none⟩ = some (.int .i64 op) ∧ w'.cell? ⟨w.heap.size + 1, 1, none⟩ = some (.int .i64 num) ∧ w'.cell? ⟨w.heap.size + 1, 2, none⟩ = some (.slice a6 n6 c6))
    (first | exact ⟨Keep.at pc x0, Keep.at pc x1, Keep.at pc y0, Keep.at pc y1, Keep.at pc y2⟩ | go_keep)
    (first
      | (go_at_call 13; refine (toProgram _ _ _ _ _ _ _ _ _ _ (s0d.k pc) hz0 (s1d.k pc) hz1 (toDeclS _) (toFuncS _)).mono ?_; rintro e wa ⟨b0q, b1q, rfl, tsa, pa⟩; replace pc := pc.trans pa; have g0q := (tsa.get 0 _ _ rfl rfl).read; have g1q := (tsa.get 1 _ _ rfl rfl).read; clear tsa)
      | (go_at_call 14; refine (toIntS xs _ _ _ _ _ (s9d.k pc) hz9).mono ?_; rintro e wb ⟨b9q, rfl, owb, pb⟩; replace pc := pc.trans pb; replace g0q := g0q.k pb; replace g1q := g1q.k pb; have g9q := owb.read; clear owb)
      | (go_at_call 15; refine (toExpr _ _ _ _ _ _ _ _ (s6d.k pc) hz6 (toExprS _)).mono ?_; rintro e wc ⟨b6q, rfl, tsc, pd⟩; replace pc := pc.trans pd; replace g0q := g0q.k pd; replace g1q := g1q.k pd; replace g9q := g9q.k pd; have g6q := (tsc.get 2 _ _ rfl rfl).read; clear tsc)
      | (go_at_call 12; refine (specTypeOfTop ds fs _ _ _ _ _ _ _ _ _ xs op num es _ _ _ _ _ _ _ _ g0q g1q g9q hn9 g6q).mono ?_; rw [HZ.out]; rintro e w3 ⟨rfl, p3⟩; replace pc := pc.trans p3))
  have q3 := Keep.dt pc
  clear pc x0 x1 y0 y1 y2 s0d s1d s9d s6d
  replace K := K.trans q3
  replace bk1 := row_ext bk1 q3 (fun h => h)
  replace bk2 := row_ext bk2 q3 (fun h => h)
  replace s0 := s0.k q3
  replace s1 := s1.k q3
  replace s9 := s9.k q3
  replace s6 := s6.k q3
  have x0 := bk1.cell (i := 0) (by simp)
  have x1 := bk1.cell (i := 1) (by simp)
  simp at x0 x1
  go_wp2_with fail
  refine (toProgram _ _ _ _ _ _ _ _ _ _ s0 hz0 s1 hz1 (toDeclS _) (toFuncS _)).mono ?_
  rintro e w4 ⟨b0x, b1x, rfl, tsx, p4⟩
  have g0x := (tsx.get 0 _ _ rfl rfl).read
  have g1x := (tsx.get 1 _ _ rfl rfl).read
  clear tsx
  clear x0 x1
  replace K := K.trans p4
  replace bk1 := row_ext bk1 p4 (fun h => h)
  replace bk2 := row_ext bk2 p4 (fun h => h)
  replace s0 := s0.k p4
  replace s1 := s1.k p4
  replace s9 := s9.k p4
  replace s6 := s6.k p4
  have k4 := Keep.al w4 (.cells #[.slice b0x n0 n0, .slice b1x n1 n1] 36)
  replace K := K.trans k4
  replace bk1 := row_ext bk1 k4 (fun h => h)
  replace bk2 := row_ext bk2 k4 (fun h => h)
  replace s0 := s0.k k4
  replace s1 := s1.k k4
  replace s9 := s9.k k4
  replace s6 := s6.k k4
  replace g0x := g0x.k k4
  replace g1x := g1x.k k4
  have bx1 := rowOf w4 #[.slice b0x n0 n0, .slice b1x n1 n1] 36
  go_wp2_with fail
  refine (toIntS xs _ _ _ _ _ s9 hz9).mono ?_
  rintro e w5 ⟨b9x, rfl, ow5, p5⟩
  have g9x := ow5.read
  clear ow5
  replace K := K.trans p5
  replace bk1 := row_ext bk1 p5 (fun h => h)
  replace bk2 := row_ext bk2 p5 (fun h => h)
  replace bx1 := row_ext bx1 p5 (fun h => h)
  replace s0 := s0.k p5
  replace s1 := s1.k p5
  replace s9 := s9.k p5
  replace s6 := s6.k p5
  replace g0x := g0x.k p5
  replace g1x := g1x.k p5
  have y0 := bk2.cell (i := 0) (by simp)
  have y1 := bk2.cell (i := 1) (by simp)
  have y2 := bk2.cell (i := 2) (by simp)
  simp at y0 y1 y2
  go_wp2_with fail
  refine (toExpr _ _ _ _ _ _ _ _ s6 hz6 (toExprS _)).mono ?_
  rintro e w6 ⟨b6x, rfl, tsy, p6⟩
  have g6x := (tsy.get 2 _ _ rfl rfl).read
  clear tsy
  clear y0 y1 y2
  replace K := K.trans p6
  replace bk1 := row_ext bk1 p6 (fun h => h)
  replace bk2 := row_ext bk2 p6 (fun h => h)
  replace bx1 := row_ext bx1 p6 (fun h => h)
  replace s0 := s0.k p6
  replace s1 := s1.k p6
  replace s9 := s9.k p6
  replace s6 := s6.k p6
  replace g0x := g0x.k p6
  replace g1x := g1x.k p6
  replace g9x := g9x.k p6
  have k6 := Keep.al w6 (.cells #[.int .i64 op, .int .i64 num, .slice b6x n6 n6] 41)
  replace K := K.trans k6
  replace bk1 := row_ext bk1 k6 (fun h => h)
  replace bk2 := row_ext bk2 k6 (fun h => h)
  replace bx1 := row_ext bx1 k6 (fun h => h)
  replace s0 := s0.k k6
  replace s1 := s1.k k6
  replace s9 := s9.k k6
  replace s6 := s6.k k6
  replace g0x := g0x.k k6
  replace g1x := g1x.k k6
  replace g9x := g9x.k k6
  replace g6x := g6x.k k6
  have bx2 := rowOf w6 #[.int .i64 op, .int .i64 num, .slice b6x n6 n6] 41
  have x0 := bx1.cell (i := 0) (by simp)
  have x1 := bx1.cell (i := 1) (by simp)
  simp at x0 x1
  have y0 := bx2.cell (i := 0) (by simp)
  have y1 := bx2.cell (i := 1) (by simp)
  have y2 := bx2.cell (i := 2) (by simp)
  simp at y0 y1 y2
  go_wp2_with fail
  refine (implTypeOfTop ds fs _ _ _ _ _ _ _ _ _ xs op num es _ _ _ _ _ _ _ _ g0x g1x g9x hn9 g6x HFT.out).mono ?_
  rw [HZ.out]
  rintro e w7 ⟨rfl, p7⟩
  clear x0 x1
  clear y0 y1 y2
  replace K := K.trans p7
  replace bk1 := row_ext bk1 p7 (fun h => h)
  replace bk2 := row_ext bk2 p7 (fun h => h)
  replace bx1 := row_ext bx1 p7 (fun h => h)
  replace bx2 := row_ext bx2 p7 (fun h => h)
  replace s0 := s0.k p7
  replace s1 := s1.k p7
  replace s9 := s9.k p7
  replace s6 := s6.k p7
  replace g0x := g0x.k p7
  replace g1x := g1x.k p7
  replace g9x := g9x.k p7
  replace g6x := g6x.k p7
  have hzz : (z != z) = false := by simp
  have x0 := bk1.cell (i := 0) (by simp)
  have x1 := bk1.cell (i := 1) (by simp)
  simp at x0 x1
  have y0 := bx1.cell (i := 0) (by simp)
  have y1 := bx1.cell (i := 1) (by simp)
  simp at y0 y1
  have s0d := s0.k (w' := w7.drew) (Ext.refl (fun _ => False) w7).drew
  have g0d := g0x.k (w' := w7.drew) (Ext.refl (fun _ => False) w7).drew
  have s1d := s1.k (w' := w7.drew) (Ext.refl (fun _ => False) w7).drew
  have g1d := g1x.k (w' := w7.drew) (Ext.refl (fun _ => False) w7).drew
  have pc := Ext.refl0 w7
  go_wp2_with fail
  go_region_held3 (fun w' => w'.cell? ⟨w.heap.size, 0, none⟩ = some (.slice a0 n0 c0) ∧ w'.cell? ⟨w.heap.size, 1, none⟩ = some (.slice a1 n1 c1) ∧ w'.cell? ⟨w4.heap.size, 0, none⟩ = some (.slice b0x n0 n0) ∧ w'.cell? ⟨w4.heap.size, 1, none⟩ = some (.slice b1x n1 n1))
    (first | exact ⟨Keep.at pc x0, Keep.at pc x1, Keep.at pc y0, Keep.at pc y1⟩ | go_keep)
    (first
      | (go_at_call 13; refine (toProgram _ _ _ _ _ _ _ _ _ _ (s0d.k pc) hz0 (s1d.k pc) hz1 (toDeclS _) (toFuncS _)).mono ?_; rintro e wa8 ⟨b0a, b1a, rfl, tsa, pa8⟩; replace pc := pc.trans pa8)
      | (go_at_call 17; refine (eqProgram _ _ _ _ _ _ _ _ _ _ _ _ _ _ _ _ _ (g0d.k pa8) ((tsa.get 0 _ _ rfl rfl).read) (g1d.k pa8) ((tsa.get 1 _ _ rfl rfl).read) (eqDeclS _) (eqFuncS _)).mono ?_; rintro e wb8 ⟨rfl, pb8⟩; replace pc := pc.trans pb8))
  have q8 := Keep.dt pc
  clear pc tsa x0 y0 x1 y1 s0d g0d s1d g1d
  replace K := K.trans q8
  replace bk1 := row_ext bk1 q8 (fun h => h)
  replace bk2 := row_ext bk2 q8 (fun h => h)
  replace bx1 := row_ext bx1 q8 (fun h => h)
  replace bx2 := row_ext bx2 q8 (fun h => h)
  replace s0 := s0.k q8
  replace s1 := s1.k q8
  replace s9 := s9.k q8
  replace s6 := s6.k q8
  replace g0x := g0x.k q8
  replace g1x := g1x.k q8
  replace g9x := g9x.k q8
  replace g6x := g6x.k q8
  go_wp2_with fail
  refine (toIntS xs _ _ _ _ _ s9 hz9).mono ?_
  rintro e w9 ⟨b9a, rfl, ow9, p9⟩
  have g9a := ow9.read
  clear ow9
  replace K := K.trans p9
  replace bk1 := row_ext bk1 p9 (fun h => h)
  replace bk2 := row_ext bk2 p9 (fun h => h)
  replace bx1 := row_ext bx1 p9 (fun h => h)
  replace bx2 := row_ext bx2 p9 (fun h => h)
  replace s0 := s0.k p9
  replace s1 := s1.k p9
  replace s9 := s9.k p9
  replace s6 := s6.k p9
  replace g0x := g0x.k p9
  replace g1x := g1x.k p9
  replace g9x := g9x.k p9
  replace g6x := g6x.k p9
  go_wp2_with fail
  refine (eqIntS xs _ _ _ _ _ _ _ _ _ g9x g9a).mono ?_
  rintro e w10 ⟨rfl, p10⟩
  clear g9a
  replace K := K.trans p10
  replace bk1 := row_ext bk1 p10 (fun h => h)
  replace bk2 := row_ext bk2 p10 (fun h => h)
  replace bx1 := row_ext bx1 p10 (fun h => h)
  replace bx2 := row_ext bx2 p10 (fun h => h)
  replace s0 := s0.k p10
  replace s1 := s1.k p10
  replace s9 := s9.k p10
  replace s6 := s6.k p10
  replace g0x := g0x.k p10
  replace g1x := g1x.k p10
  replace g9x := g9x.k p10
  replace g6x := g6x.k p10
  have x0 := bk2.cell (i := 0) (by simp)
  have x1 := bk2.cell (i := 1) (by simp)
  have x2 := bk2.cell (i := 2) (by simp)
  simp at x0 x1 x2
  have y0 := bx2.cell (i := 0) (by simp)
  have y1 := bx2.cell (i := 1) (by simp)
  have y2 := bx2.cell (i := 2) (by simp)
  simp at y0 y1 y2
  have s6d := s6.k (w' := w10.drew) (Ext.refl (fun _ => False) w10).drew
  have g6d := g6x.k (w' := w10.drew) (Ext.refl (fun _ => False) w10).drew
  have pc := Ext.refl0 w10
  go_wp2_with fail
  go_region_held3 (fun w' => w'.cell? ⟨w.heap.size + 1, 0, none⟩ = some (.int .i64 op) ∧ w'.cell? ⟨w.heap.size + 1, 1, none⟩ = some (.int .i64 num) ∧ w'.cell? ⟨w.heap.size + 1, 2, none⟩ = some (.slice a6 n6 c6) ∧ w'.cell? ⟨w6.heap.size, 0, none⟩ = some (.int .i64 op) ∧ w'.cell? ⟨w6.heap.size, 1, none⟩ = some (.int .i64 num) ∧ w'.cell? ⟨w6.heap.size, 2, none⟩ = some (.slice b6x n6 n6))
    (first | exact ⟨Keep.at pc x0, Keep.at pc x1, Keep.at pc x2, Keep.at pc y0, Keep.at pc y1, Keep.at pc y2⟩ | go_keep)
    (first
      | (go_at_call 15; refine (toExpr _ _ _ _ _ _ _ _ (s6d.k pc) hz6 (toExprS _)).mono ?_; rintro e wa11 ⟨b6a, rfl, tsa, pa11⟩; replace pc := pc.trans pa11)
      | (go_at_call 19; refine (eqExpr _ _ _ _ _ _ _ _ _ _ _ _ (g6d.k pa11) ((tsa.get 2 _ _ rfl rfl).read) (eqExprS _)).mono ?_; rintro e wb11 ⟨rfl, pb11⟩; replace pc := pc.trans pb11))
  have q11 := Keep.dt pc
  clear pc tsa x0 y0 x1 y1 x2 y2 s6d g6d
  replace K := K.trans q11
  replace bk1 := row_ext bk1 q11 (fun h => h)
  replace bk2 := row_ext bk2 q11 (fun h => h)
  replace bx1 := row_ext bx1 q11 (fun h => h)
  replace bx2 := row_ext bx2 q11 (fun h => h)
  replace s0 := s0.k q11
  replace s1 := s1.k q11
  replace s9 := s9.k q11
  replace s6 := s6.k q11
  replace g0x := g0x.k q11
  replace g1x := g1x.k q11
  replace g9x := g9x.k q11
  replace g6x := g6x.k q11
  go_wp2_with fail
  exact fin_ hQ ⟨rfl, K⟩
end Go.Proofs.Ytbknmljfnjlieaa
