/- The exact law FnExactFreeOf: the walk. -/
import Derived.Test.YtpebcclabaennaaFreeOf
import Derived.Test.YtpebcclabaennaaUSz
import Derived.Test.YtpebcclabaennaaUToS
import Derived.Test.YtpebcclabaennaaUEq
import Derived.Test.YtpebcclabaennaaUMarkV
import Derived.Test.YtpebcclabaennaaCnt
import Derived.Deep.RegionHeld3
namespace Go.Proofs.Ytpebcclabaennaa
open Go.RowKit

set_option linter.unusedVariables false
set_option maxRecDepth 100000 in
set_option maxHeartbeats 8000000 in
theorem fnExactFreeOf_walk (op num : Int) (es : List ExprL) (a2 : Option Addr) (n2 c2 : Nat) (z0 : Int) (w : World) (r2 : Rd w (fun _ => True) (encExprs es) (.slice a2 n2 c2)) (lz0 : -9223372036854775808 ≤ z0) (uz0 : z0 ≤ 9223372036854775807) :
    Calls Try.prog 8 #[.agg #[.int .i64 op, .int .i64 num, .slice a2 n2 c2], .int .i64 z0] w fun e w' => e = .returned (.bool true) ∧ Keep w w' := by
  refine calls_k fun Q hQ => ?_
  have K := Keep.al w (.cells #[.int .i64 op, .int .i64 num, .slice a2 n2 c2] 24)
  by_cases hs : (1048576 : Int) < ((szD (encExprs es) : Nat) : Int)
  · have V : Hid (szo (szD (encExprs es)) 1048576 = -1) := szo_no (by omega)
    have s2 := r2.k K
    go_enter Try.func8, Try.ntmps8
    go_wp2_with fail
    refine (szExpr _ _ _ _ _ _ _ _ _ s2 (szExprS _) (by omega) (by omega)).mono ?_
    rw [V.out]
    rintro e w1 ⟨rfl, p1⟩
    go_wp2_with fail
    exact fin_ hQ ⟨rfl, K.trans p1⟩
  have hz2 : szD (encExprs es) ≤ 1048576 := by omega
  have V : Hid (szo (szD (encExprs es)) 1048576 = 1048576 - (szD (encExprs es) : Int)) := szo_yes (by omega)
  have t0 : 0 ≤ 1048576 - ((szD (encExprs es) : Int)) := by omega
  have HC2 : Hid (cntD (encExprs es) ≤ 3145728) := by have := cnt_exprs es; show _ ≤ _; omega
  clear hs
  have HLdv : Hid (cntD (encInts (freeL z0 op num es)) ≤ 3000000) := (by have h1 := cnt_ints (freeL z0 op num es); have h2 : szD (encInts (freeL z0 op num es)) = (freeL z0 op num es).length := (by rw [encInts, szD, szRR_ints, List.length_map, Nat.add_zero]); have h3 := freeL_len z0 op num es; show _ ≤ _; omega)
  generalize hVdv : encInts (freeL z0 op num es) = dv at HLdv
  have HVdv := Lib.hid hVdv
  clear hVdv
  have EQdv : EqC 39 dv := by rw [← HVdv.out]; exact eqIntS _
  have MKdv : MkC 40 dv := by rw [← HVdv.out]; exact markIntS _
  have HDdv : HdC 41 dv := by rw [← HVdv.out]; exact heldIntS _
  have EQdv := Lib.hid EQdv; have MKdv := Lib.hid MKdv; have HDdv := Lib.hid HDdv
  have bk := rowOf w #[.int .i64 op, .int .i64 num, .slice a2 n2 c2] 24
  have s2 := ((r2.lt).mono (D' := fun q => q < w.heap.size) (fun _ h => h.2)).k K
  clear r2
  have zb : (w.alloc (.cells #[.int .i64 op, .int .i64 num, .slice a2 n2 c2] 24)).heap.size = w.heap.size + 1 := by simp
  go_enter Try.func8, Try.ntmps8
  go_wp2_with fail
  refine (szExpr _ _ _ _ _ _ _ _ _ s2 (szExprS _) (by omega) (by omega)).mono ?_
  rw [V.out]
  rintro e w1 ⟨rfl, p1⟩
  replace K := K.trans p1
  replace bk := row_ext bk p1 (fun h => h)
  replace s2 := s2.k p1
  clear V
  have z1 := p1.size
  have x0 := bk.cell (i := 0) (by simp)
  have x1 := bk.cell (i := 1) (by simp)
  have x2 := bk.cell (i := 2) (by simp)
  simp at x0 x1 x2
  go_wp2_with fail
  refine (toExpr _ _ _ _ _ _ _ _ s2 hz2 (toExprS _)).mono ?_
  rintro e w2 ⟨b2q, rfl, tsq, pq⟩
  have g2q := (tsq.get 2 _ _ rfl rfl).read
  have zq := pq.size
  clear tsq
  replace K := K.trans pq
  replace bk := row_ext bk pq (fun h => h)
  replace s2 := s2.k pq
  go_wp2_with fail
  refine (specFreeOf _ _ _ _ _ _ _ _ _ g2q).mono ?_
  rw [HVdv.out]
  rintro e w3 ⟨a0s, n0s, c0s, rfl, os, p3⟩
  have z3 := p3.size
  have OS := (os.lt).mono (D' := fun q => w2.heap.size ≤ q ∧ q < w3.heap.size) (fun _ h => h)
  clear os
  replace K := K.trans p3
  replace bk := row_ext bk p3 (fun h => h)
  replace s2 := s2.k p3
  clear g2q
  clear x0 x1 x2
  have x0 := bk.cell (i := 0) (by simp)
  have x1 := bk.cell (i := 1) (by simp)
  have x2 := bk.cell (i := 2) (by simp)
  simp at x0 x1 x2
  go_wp2_with fail
  refine (toExpr _ _ _ _ _ _ _ _ s2 hz2 (toExprS _)).mono ?_
  rintro e w4 ⟨b2x, rfl, tsx, px⟩
  have g2x := (tsx.get 2 _ _ rfl rfl).read
  have zx := px.size
  replace K := K.trans px
  replace bk := row_ext bk px (fun h => h)
  replace s2 := s2.k px
  replace OS := OS.k px
  have k4 := Keep.al w4 (.cells #[.int .i64 op, .int .i64 num, .slice b2x n2 n2] 29)
  have zk4 : (w4.alloc (.cells #[.int .i64 op, .int .i64 num, .slice b2x n2 n2] 29)).heap.size = w4.heap.size + 1 := by simp
  replace K := K.trans k4
  replace bk := row_ext bk k4 (fun h => h)
  replace s2 := s2.k k4
  replace OS := OS.k k4
  have bx := rowOf w4 #[.int .i64 op, .int .i64 num, .slice b2x n2 n2] 29
  replace g2x := g2x.k k4
  replace tsx := tsx.ext k4 (fun _ _ _ h => h)
  clear x0 x1 x2
  go_wp2_with fail
  refine (implFreeOf _ _ _ _ _ _ _ _ _ g2x).mono ?_
  rw [HVdv.out]
  rintro e w5 ⟨a0g, n0g, c0g, rfl, oi, p5⟩
  have z5 := p5.size
  rw [zk4] at z5
  have OI := (oi.lt).mono (D' := fun q => w4.heap.size + 1 ≤ q ∧ q < w5.heap.size) (fun _ h => by have h1 := h.1; have h2 := h.2; simp at h1; exact ⟨h1, h2⟩)
  clear oi
  replace K := K.trans p5
  replace bk := row_ext bk p5 (fun h => h)
  replace bx := row_ext bx p5 (fun h => h)
  replace s2 := s2.k p5
  replace OS := OS.k p5
  replace g2x := g2x.k p5
  replace tsx := tsx.ext p5 (fun _ _ _ h => h)
  go_wp2_with fail
  refine (EQdv.out _ _ _ _ _ _ _ _ _ OI.read OS).mono ?_
  rintro e w6 ⟨rfl, p6⟩
  replace K := K.trans p6
  replace bk := row_ext bk p6 (fun h => h)
  replace bx := row_ext bx p6 (fun h => h)
  replace s2 := s2.k p6
  replace OS := OS.k p6
  replace g2x := g2x.k p6
  replace OI := OI.ext p6 (fun _ _ h => h)
  replace tsx := tsx.ext p6 (fun _ _ _ h => h)
  have x0 := bk.cell (i := 0) (by simp)
  have x1 := bk.cell (i := 1) (by simp)
  have x2 := bk.cell (i := 2) (by simp)
  simp at x0 x1 x2
  have y0 := bx.cell (i := 0) (by simp)
  have y1 := bx.cell (i := 1) (by simp)
  have y2 := bx.cell (i := 2) (by simp)
  simp at y0 y1 y2
  have s2d := s2.k (w' := w6.drew) (Ext.refl (fun _ => False) w6).drew
  have g2d := g2x.k (w' := w6.drew) (Ext.refl (fun _ => False) w6).drew
  go_wp2_with fail
  go_region_held3 (fun w' => w'.cell? ⟨w.heap.size, 0, none⟩ = some (.int .i64 op) ∧ w'.cell? ⟨w.heap.size, 1, none⟩ = some (.int .i64 num) ∧ w'.cell? ⟨w.heap.size, 2, none⟩ = some (.slice a2 n2 c2) ∧ w'.cell? ⟨w4.heap.size, 0, none⟩ = some (.int .i64 op) ∧ w'.cell? ⟨w4.heap.size, 1, none⟩ = some (.int .i64 num) ∧ w'.cell? ⟨w4.heap.size, 2, none⟩ = some (.slice b2x n2 n2))
    (first | exact ⟨Keep.at (pa.trans pb) x0, Keep.at (pa.trans pb) x1, Keep.at (pa.trans pb) x2, Keep.at (pa.trans pb) y0, Keep.at (pa.trans pb) y1, Keep.at (pa.trans pb) y2⟩ | exact ⟨Keep.at pa x0, Keep.at pa x1, Keep.at pa x2, Keep.at pa y0, Keep.at pa y1, Keep.at pa y2⟩ | go_keep)
    (first
      | (go_at_call 18; refine (toExpr _ _ _ _ _ _ _ _ s2d hz2 (toExprS _)).mono ?_; rintro e wa ⟨b2a, rfl, tsa, pa⟩)
      | (go_at_call 20; refine (eqExpr _ _ _ _ _ _ _ _ _ _ _ _ (g2d.k pa) ((tsa.get 2 _ _ rfl rfl).read) (eqExprS _)).mono ?_; rintro e wb ⟨rfl, pb⟩))
  have pab : Keep w6 wb := (((Ext.refl _ w6).drew).trans pa).trans pb
  clear x0 x1 x2 y0 y1 y2 s2d g2d tsa
  clear g2x
  replace K := K.trans pab
  replace bk := row_ext bk pab (fun h => h)
  replace bx := row_ext bx pab (fun h => h)
  replace s2 := s2.k pab
  replace OS := OS.k pab
  replace OI := OI.ext pab (fun _ _ h => h)
  replace tsx := tsx.ext pab (fun _ _ _ h => h)
  clear pa pb
  have y0 := bx.cell (i := 0) (by simp)
  have y1 := bx.cell (i := 1) (by simp)
  have y2 := bx.cell (i := 2) (by simp)
  simp at y0 y1 y2
  go_wp2_with fail
  refine (markExpr _ _ _ _ _ _ _ _ _ (tsx.get 2 _ _ rfl rfl) (markExprS _) (by omega) (by have := HC2.out; omega)).mono ?_
  rintro e w7 ⟨k7, rfl, hk7, _, x7⟩
  have t7 : 0 ≤ k7 := by omega
  clear hk7
  clear y0 y1 y2
  clear tsx bx
  replace K := K.then_ x7 (fun i hi h => by omega)
  replace bk := row_ext bk x7 (fun h => by omega)
  replace s2 := s2.ext x7 (fun i hi h => by omega)
  replace OS := OS.ext x7 (fun i hi h => by omega)
  replace OI := OI.ext x7 (fun i hi h => by omega)
  clear x7
  go_wp2_with fail
  refine (EQdv.out _ _ _ _ _ _ _ _ _ OI.read OS).mono ?_
  rintro e w8 ⟨rfl, p8⟩
  replace K := K.trans p8
  replace bk := row_ext bk p8 (fun h => h)
  replace s2 := s2.k p8
  replace OS := OS.k p8
  replace OI := OI.ext p8 (fun _ _ h => h)
  go_wp2_with fail
  refine (MKdv.out _ _ _ _ _ _ OI (by omega) (by have := HLdv.out; omega)).mono ?_
  rintro e w9 ⟨_, rfl, rfl, OM, x9⟩
  clear OI
  replace K := K.then_ x9 (fun i hi h => by omega)
  replace bk := row_ext bk x9 (fun h => by omega)
  replace s2 := s2.ext x9 (fun i hi h => by omega)
  replace OS := OS.ext x9 (fun i hi h => by omega)
  clear x9
  have tc : 0 ≤ 1 + (cntD dv : Int) := by omega
  go_wp2_with fail
  refine (HDdv.out _ _ _ _ _ _ OM.read (by omega) (by have := HLdv.out; omega)).mono ?_
  rintro e w10 ⟨rfl, p10⟩
  replace K := K.trans p10
  replace bk := row_ext bk p10 (fun h => h)
  replace s2 := s2.k p10
  replace OS := OS.k p10
  replace OM := OM.ext p10 (fun _ _ h => h)
  have x0 := bk.cell (i := 0) (by simp)
  have x1 := bk.cell (i := 1) (by simp)
  have x2 := bk.cell (i := 2) (by simp)
  simp at x0 x1 x2
  go_wp2_with fail
  refine (toExpr _ _ _ _ _ _ _ _ s2 hz2 (toExprS _)).mono ?_
  rintro e w11 ⟨b2h, rfl, tsh, ph⟩
  have g2h := (tsh.get 2 _ _ rfl rfl).read
  have zh := ph.size
  replace K := K.trans ph
  replace bk := row_ext bk ph (fun h => h)
  replace s2 := s2.k ph
  replace OS := OS.k ph
  replace OM := OM.ext ph (fun _ _ h => h)
  clear tsh
  clear x0 x1 x2
  go_wp2_with fail
  refine (implFreeOf _ _ _ _ _ _ _ _ _ g2h).mono ?_
  rw [HVdv.out]
  rintro e w12 ⟨a0h, n0h, c0h, rfl, oh, p12⟩
  replace K := K.trans p12
  replace bk := row_ext bk p12 (fun h => h)
  replace s2 := s2.k p12
  replace OS := OS.k p12
  replace OM := OM.ext p12 (fun _ _ h => h)
  have OH := oh.read
  clear oh
  go_wp2_with fail
  refine (EQdv.out _ _ _ _ _ _ _ _ _ OH OS).mono ?_
  rintro e w13 ⟨rfl, p13⟩
  replace K := K.trans p13
  replace bk := row_ext bk p13 (fun h => h)
  replace s2 := s2.k p13
  replace OS := OS.k p13
  replace OH := OH.k p13
  replace OM := OM.ext p13 (fun _ _ h => h)
  go_wp2_with fail
  refine (HDdv.out _ _ _ _ _ _ OM.read (by omega) (by have := HLdv.out; omega)).mono ?_
  rintro e w14 ⟨rfl, p14⟩
  replace K := K.trans p14
  replace bk := row_ext bk p14 (fun h => h)
  replace s2 := s2.k p14
  replace OS := OS.k p14
  replace OH := OH.k p14
  replace OM := OM.ext p14 (fun _ _ h => h)
  go_wp2_with fail
  exact fin_ hQ ⟨rfl, K⟩
end Go.Proofs.Ytpebcclabaennaa
