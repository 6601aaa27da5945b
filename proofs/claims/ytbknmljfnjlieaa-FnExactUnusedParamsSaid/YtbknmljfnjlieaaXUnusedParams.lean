/- The exact law FnExactUnusedParams: the walk. -/
import Derived.Test.YtbknmljfnjlieaaUnused
import Derived.Test.YtbknmljfnjlieaaUSz
import Derived.Test.YtbknmljfnjlieaaUToS
import Derived.Test.YtbknmljfnjlieaaUEq
import Derived.Test.YtbknmljfnjlieaaGU
import Derived.Deep.RegionHeld3
namespace Go.Proofs.Ytbknmljfnjlieaa
open Go.RowKit

set_option linter.unusedVariables false
set_option maxRecDepth 100000 in
set_option maxHeartbeats 8000000 in
theorem fnExactUnusedParams_walk (ds : List DeclL) (fs : List FuncL) (a0 : Option Addr) (n0 c0 : Nat) (a1 : Option Addr) (n1 c1 : Nat) (z0 : Int) (w : World) (r0 : Rd w (fun _ => True) (encDecls ds) (.slice a0 n0 c0)) (r1 : Rd w (fun _ => True) (encFuncs fs) (.slice a1 n1 c1)) (lz0 : -9223372036854775808 ≤ z0) (uz0 : z0 ≤ 9223372036854775807) (hfit : fitP fs) :
    Calls Try.prog 5 #[.agg #[.slice a0 n0 c0, .slice a1 n1 c1], .int .i64 z0] w fun e w' => e = .returned (.bool true) ∧ Keep w w' := by
  refine calls_k fun Q hQ => ?_
  have HFT := Lib.hid hfit
  clear hfit
  have K := Keep.al w (.cells #[.slice a0 n0 c0, .slice a1 n1 c1] 25)
  by_cases hs : (1048576 : Int) < ((szD (encDecls ds) + szD (encFuncs fs) : Nat) : Int)
  · have V : Hid (szo (szD (encDecls ds) + szD (encFuncs fs)) 1048576 = -1) := szo_no (by omega)
    have s0 := r0.k K
    have s1 := r1.k K
    go_enter Try.func5, Try.ntmps5
    go_wp2_with fail
    refine (szProgram _ _ _ _ _ _ _ _ _ _ _ s0 s1 (szDeclS _) (szFuncS _) (by omega) (by omega)).mono ?_
    rw [V.out]
    rintro e w1 ⟨rfl, p1⟩
    go_wp2_with fail
    exact fin_ hQ ⟨rfl, K.trans p1⟩
  have hz0 : szD (encDecls ds) ≤ 1048576 := by omega
  have hz1 : szD (encFuncs fs) ≤ 1048576 := by omega
  have V : Hid (szo (szD (encDecls ds) + szD (encFuncs fs)) 1048576 = 1048576 - ((szD (encDecls ds) : Int) + (szD (encFuncs fs) : Int))) := by show _ = _; rw [szo_yes (by omega)]; omega
  have t0 : 0 ≤ 1048576 - ((szD (encDecls ds) : Int) + (szD (encFuncs fs) : Int)) := by omega
  have HC0 : Hid (cntD (encDecls ds) ≤ 3145728) := by have := cnt_decls ds; show _ ≤ _; omega
  have HC1 : Hid (cntD (encFuncs fs) ≤ 3145728) := by have := cnt_funcs fs; show _ ≤ _; omega
  clear hs
  have HLdv : Hid (cntD (encInts (unusedL ds fs z0)) ≤ 3000000) := (by have h1 := cnt_ints (unusedL ds fs z0); have h2 : szD (encInts (unusedL ds fs z0)) = (unusedL ds fs z0).length := (by rw [encInts, szD, szRR_ints, List.length_map, Nat.add_zero]); have h3 := unusedL_len ds fs z0; show _ ≤ _; omega)
  generalize hVdv : encInts (unusedL ds fs z0) = dv at HLdv
  have HVdv := Lib.hid hVdv
  clear hVdv
  have EQdv : EqC 18 dv := by rw [← HVdv.out]; exact eqIntS _
  have MKdv : MkC 25 dv := by rw [← HVdv.out]; exact markIntS _
  have HDdv : HdC 26 dv := by rw [← HVdv.out]; exact heldIntS _
  have EQdv := Lib.hid EQdv; have MKdv := Lib.hid MKdv; have HDdv := Lib.hid HDdv
  have bk := rowOf w #[.slice a0 n0 c0, .slice a1 n1 c1] 25
  have s0 := ((r0.lt).mono (D' := fun q => q < w.heap.size) (fun _ h => h.2)).k K
  have s1 := ((r1.lt).mono (D' := fun q => q < w.heap.size) (fun _ h => h.2)).k K
  clear r0 r1
  have zb : (w.alloc (.cells #[.slice a0 n0 c0, .slice a1 n1 c1] 25)).heap.size = w.heap.size + 1 := by simp
  go_enter Try.func5, Try.ntmps5
  go_wp2_with fail
  refine (szProgram _ _ _ _ _ _ _ _ _ _ _ s0 s1 (szDeclS _) (szFuncS _) (by omega) (by omega)).mono ?_
  rw [V.out]
  rintro e w1 ⟨rfl, p1⟩
  replace K := K.trans p1
  replace bk := row_ext bk p1 (fun h => h)
  replace s0 := s0.k p1
  replace s1 := s1.k p1
  clear V
  have z1 := p1.size
  have x0 := bk.cell (i := 0) (by simp)
  have x1 := bk.cell (i := 1) (by simp)
  simp at x0 x1
  go_wp2_with fail
  refine (toProgram _ _ _ _ _ _ _ _ _ _ s0 hz0 s1 hz1 (toDeclS _) (toFuncS _)).mono ?_
  rintro e w2 ⟨b0q, b1q, rfl, tsq, pq⟩
  have g0q := (tsq.get 0 _ _ rfl rfl).read
  have g1q := (tsq.get 1 _ _ rfl rfl).read
  have zq := pq.size
  clear tsq
  replace K := K.trans pq
  replace bk := row_ext bk pq (fun h => h)
  replace s0 := s0.k pq
  replace s1 := s1.k pq
  go_wp2_with fail
  refine (specUnusedParams _ _ _ _ _ _ _ _ _ _ _ _ g0q g1q).mono ?_
  rw [HVdv.out]
  rintro e w3 ⟨a0s, n0s, c0s, rfl, os, p3⟩
  have z3 := p3.size
  have OS := (os.lt).mono (D' := fun q => w2.heap.size ≤ q ∧ q < w3.heap.size) (fun _ h => h)
  clear os
  replace K := K.trans p3
  replace bk := row_ext bk p3 (fun h => h)
  replace s0 := s0.k p3
  replace s1 := s1.k p3
  clear g0q g1q
  clear x0 x1
  have x0 := bk.cell (i := 0) (by simp)
  have x1 := bk.cell (i := 1) (by simp)
  simp at x0 x1
  go_wp2_with fail
  refine (toProgram _ _ _ _ _ _ _ _ _ _ s0 hz0 s1 hz1 (toDeclS _) (toFuncS _)).mono ?_
  rintro e w4 ⟨b0x, b1x, rfl, tsx, px⟩
  have g0x := (tsx.get 0 _ _ rfl rfl).read
  have g1x := (tsx.get 1 _ _ rfl rfl).read
  have zx := px.size
  replace K := K.trans px
  replace bk := row_ext bk px (fun h => h)
  replace s0 := s0.k px
  replace s1 := s1.k px
  replace OS := OS.k px
  have k4 := Keep.al w4 (.cells #[.slice b0x n0 n0, .slice b1x n1 n1] 36)
  have zk4 : (w4.alloc (.cells #[.slice b0x n0 n0, .slice b1x n1 n1] 36)).heap.size = w4.heap.size + 1 := by simp
  replace K := K.trans k4
  replace bk := row_ext bk k4 (fun h => h)
  replace s0 := s0.k k4
  replace s1 := s1.k k4
  replace OS := OS.k k4
  have bx := rowOf w4 #[.slice b0x n0 n0, .slice b1x n1 n1] 36
  replace g0x := g0x.k k4
  replace g1x := g1x.k k4
  replace tsx := tsx.ext k4 (fun _ _ _ h => h)
  clear x0 x1
  go_wp2_with fail
  refine (implUnusedParams _ _ _ _ _ _ _ _ _ _ _ _ g0x g1x HFT.out).mono ?_
  rw [HVdv.out]
  rintro e w5 ⟨a0g, n0g, c0g, rfl, oi, p5⟩
  have z5 := p5.size
  rw [zk4] at z5
  have OI := (oi.lt).mono (D' := fun q => w4.heap.size + 1 ≤ q ∧ q < w5.heap.size) (fun _ h => by have h1 := h.1; have h2 := h.2; simp at h1; exact ⟨h1, h2⟩)
  clear oi
  replace K := K.trans p5
  replace bk := row_ext bk p5 (fun h => h)
  replace bx := row_ext bx p5 (fun h => h)
  replace s0 := s0.k p5
  replace s1 := s1.k p5
  replace OS := OS.k p5
  replace g0x := g0x.k p5
  replace g1x := g1x.k p5
  replace tsx := tsx.ext p5 (fun _ _ _ h => h)
  go_wp2_with fail
  refine (EQdv.out _ _ _ _ _ _ _ _ _ OI.read OS).mono ?_
  rintro e w6 ⟨rfl, p6⟩
  replace K := K.trans p6
  replace bk := row_ext bk p6 (fun h => h)
  replace bx := row_ext bx p6 (fun h => h)
  replace s0 := s0.k p6
  replace s1 := s1.k p6
  replace OS := OS.k p6
  replace g0x := g0x.k p6
  replace g1x := g1x.k p6
  replace OI := OI.ext p6 (fun _ _ h => h)
  replace tsx := tsx.ext p6 (fun _ _ _ h => h)
  have x0 := bk.cell (i := 0) (by simp)
  have x1 := bk.cell (i := 1) (by simp)
  simp at x0 x1
  have y0 := bx.cell (i := 0) (by simp)
  have y1 := bx.cell (i := 1) (by simp)
  simp at y0 y1
  have s0d := s0.k (w' := w6.drew) (Ext.refl (fun _ => False) w6).drew
  have g0d := g0x.k (w' := w6.drew) (Ext.refl (fun _ => False) w6).drew
  have s1d := s1.k (w' := w6.drew) (Ext.refl (fun _ => False) w6).drew
  have g1d := g1x.k (w' := w6.drew) (Ext.refl (fun _ => False) w6).drew
  go_wp2_with fail
  go_region_held3 (fun w' => w'.cell? ⟨w.heap.size, 0, none⟩ = some (.slice a0 n0 c0) ∧ w'.cell? ⟨w.heap.size, 1, none⟩ = some (.slice a1 n1 c1) ∧ w'.cell? ⟨w4.heap.size, 0, none⟩ = some (.slice b0x n0 n0) ∧ w'.cell? ⟨w4.heap.size, 1, none⟩ = some (.slice b1x n1 n1))
    (first | exact ⟨Keep.at (pa.trans pb) x0, Keep.at (pa.trans pb) x1, Keep.at (pa.trans pb) y0, Keep.at (pa.trans pb) y1⟩ | exact ⟨Keep.at pa x0, Keep.at pa x1, Keep.at pa y0, Keep.at pa y1⟩ | go_keep)
    (first
      | (go_at_call 13; refine (toProgram _ _ _ _ _ _ _ _ _ _ s0d hz0 s1d hz1 (toDeclS _) (toFuncS _)).mono ?_; rintro e wa ⟨b0a, b1a, rfl, tsa, pa⟩)
      | (go_at_call 17; refine (eqProgram _ _ _ _ _ _ _ _ _ _ _ _ _ _ _ _ _ (g0d.k pa) ((tsa.get 0 _ _ rfl rfl).read) (g1d.k pa) ((tsa.get 1 _ _ rfl rfl).read) (eqDeclS _) (eqFuncS _)).mono ?_; rintro e wb ⟨rfl, pb⟩))
  have pab : Keep w6 wb := (((Ext.refl _ w6).drew).trans pa).trans pb
  clear x0 x1 y0 y1 s0d s1d g0d g1d tsa
  clear g0x g1x
  replace K := K.trans pab
  replace bk := row_ext bk pab (fun h => h)
  replace bx := row_ext bx pab (fun h => h)
  replace s0 := s0.k pab
  replace s1 := s1.k pab
  replace OS := OS.k pab
  replace OI := OI.ext pab (fun _ _ h => h)
  replace tsx := tsx.ext pab (fun _ _ _ h => h)
  clear pa pb
  have y0 := bx.cell (i := 0) (by simp)
  have y1 := bx.cell (i := 1) (by simp)
  simp at y0 y1
  go_wp2_with fail
  have zbx := bx.lt
  refine (markProgram _ _ _ _ _ _ _ _ _ _ _ _ tsx (by omega) (markDeclS _) (markFuncS _) (by omega) (by have := HC0.out; have := HC1.out; omega)).mono ?_
  rintro e w7 ⟨k7, rfl, hk7, _, x7⟩
  have t7 : 0 ≤ k7 := by omega
  clear hk7
  clear y0 y1
  clear tsx bx
  replace K := K.then_ x7 (fun i hi h => by omega)
  replace bk := row_ext bk x7 (fun h => by omega)
  replace s0 := s0.ext x7 (fun i hi h => by omega)
  replace s1 := s1.ext x7 (fun i hi h => by omega)
  replace OS := OS.ext x7 (fun i hi h => by omega)
  replace OI := OI.ext x7 (fun i hi h => by omega)
  clear x7
  go_wp2_with fail
  refine (EQdv.out _ _ _ _ _ _ _ _ _ OI.read OS).mono ?_
  rintro e w8 ⟨rfl, p8⟩
  replace K := K.trans p8
  replace bk := row_ext bk p8 (fun h => h)
  replace s0 := s0.k p8
  replace s1 := s1.k p8
  replace OS := OS.k p8
  replace OI := OI.ext p8 (fun _ _ h => h)
  go_wp2_with fail
  refine (MKdv.out _ _ _ _ _ _ OI (by omega) (by have := HLdv.out; omega)).mono ?_
  rintro e w9 ⟨_, rfl, rfl, OM, x9⟩
  clear OI
  replace K := K.then_ x9 (fun i hi h => by omega)
  replace bk := row_ext bk x9 (fun h => by omega)
  replace s0 := s0.ext x9 (fun i hi h => by omega)
  replace s1 := s1.ext x9 (fun i hi h => by omega)
  replace OS := OS.ext x9 (fun i hi h => by omega)
  clear x9
  have tc : 0 ≤ 1 + (cntD dv : Int) := by omega
  go_wp2_with fail
  refine (HDdv.out _ _ _ _ _ _ OM.read (by omega) (by have := HLdv.out; omega)).mono ?_
  rintro e w10 ⟨rfl, p10⟩
  replace K := K.trans p10
  replace bk := row_ext bk p10 (fun h => h)
  replace s0 := s0.k p10
  replace s1 := s1.k p10
  replace OS := OS.k p10
  replace OM := OM.ext p10 (fun _ _ h => h)
  have x0 := bk.cell (i := 0) (by simp)
  have x1 := bk.cell (i := 1) (by simp)
  simp at x0 x1
  go_wp2_with fail
  refine (toProgram _ _ _ _ _ _ _ _ _ _ s0 hz0 s1 hz1 (toDeclS _) (toFuncS _)).mono ?_
  rintro e w11 ⟨b0h, b1h, rfl, tsh, ph⟩
  have g0h := (tsh.get 0 _ _ rfl rfl).read
  have g1h := (tsh.get 1 _ _ rfl rfl).read
  have zh := ph.size
  replace K := K.trans ph
  replace bk := row_ext bk ph (fun h => h)
  replace s0 := s0.k ph
  replace s1 := s1.k ph
  replace OS := OS.k ph
  replace OM := OM.ext ph (fun _ _ h => h)
  clear tsh
  clear x0 x1
  go_wp2_with fail
  refine (implUnusedParams _ _ _ _ _ _ _ _ _ _ _ _ g0h g1h HFT.out).mono ?_
  rw [HVdv.out]
  rintro e w12 ⟨a0h, n0h, c0h, rfl, oh, p12⟩
  replace K := K.trans p12
  replace bk := row_ext bk p12 (fun h => h)
  replace s0 := s0.k p12
  replace s1 := s1.k p12
  replace OS := OS.k p12
  replace OM := OM.ext p12 (fun _ _ h => h)
  have OH := oh.read
  clear oh
  go_wp2_with fail
  refine (EQdv.out _ _ _ _ _ _ _ _ _ OH OS).mono ?_
  rintro e w13 ⟨rfl, p13⟩
  replace K := K.trans p13
  replace bk := row_ext bk p13 (fun h => h)
  replace s0 := s0.k p13
  replace s1 := s1.k p13
  replace OS := OS.k p13
  replace OH := OH.k p13
  replace OM := OM.ext p13 (fun _ _ h => h)
  go_wp2_with fail
  refine (HDdv.out _ _ _ _ _ _ OM.read (by omega) (by have := HLdv.out; omega)).mono ?_
  rintro e w14 ⟨rfl, p14⟩
  replace K := K.trans p14
  replace bk := row_ext bk p14 (fun h => h)
  replace s0 := s0.k p14
  replace s1 := s1.k p14
  replace OS := OS.k p14
  replace OH := OH.k p14
  replace OM := OM.ext p14 (fun _ _ h => h)
  go_wp2_with fail
  exact fin_ hQ ⟨rfl, K⟩
end Go.Proofs.Ytbknmljfnjlieaa
