/- The exact law FnExactNormalize: the walk. -/
import Derived.Test.YtkapldpmjkdmcaaGreatSAR
import Derived.Test.YtkapldpmjkdmcaaGreatSAP
import Derived.Test.YtkapldpmjkdmcaaGreatSAS
import Derived.Test.YtkapldpmjkdmcaaGreatSAQ
import Derived.Deep.RegionHeld3
import Derived.Test.YtkapldpmjkdmcaaGreatSAB
import Derived.Deep.Slices
import Derived.ChangeSame
import Derived.ChangeSlices
import Derived.ChangeArms
import Derived.Test.YtkapldpmjkdmcaaGreatSAE
import Derived.Test.YtkapldpmjkdmcaaGreatSAJ
import Derived.Test.YtkapldpmjkdmcaaGreatSAN
namespace Go.Proofs.YtkapldpmjkdmcaaGreat
open Go.RowKit

set_option linter.unusedVariables false
set_option maxRecDepth 100000 in
set_option maxHeartbeats 8000000 in
theorem fnExactNormalize_walk (ds : List DeclL) (fs : List FuncL) (a0 : Option Addr) (n0 c0 : Nat) (a1 : Option Addr) (n1 c1 : Nat) (w : World) (r0 : Rd w (fun _ => True) (encDecls ds) (.slice a0 n0 c0)) (r1 : Rd w (fun _ => True) (encFuncs fs) (.slice a1 n1 c1)) (hfit : fitP fs) :
    Calls Tryz.prog 4 #[.agg #[.slice a0 n0 c0, .slice a1 n1 c1]] w fun e w' => e = .returned (.bool true) ∧ Keep w w' := by
  refine calls_k fun Q hQ => ?_
  have HFT := Lib.hid hfit
  clear hfit
  have K := Keep.al w (.cells #[.slice a0 n0 c0, .slice a1 n1 c1] 39)
  by_cases hs : (1048576 : Int) < ((szD (encDecls ds) + szD (encFuncs fs) : Nat) : Int)
  · have V : Hid (szo (szD (encDecls ds) + szD (encFuncs fs)) 1048576 = -1) := szo_no (by omega)
    have s0 := r0.k K
    have s1 := r1.k K
    go_enter Tryz.func4, Tryz.ntmps4
    go_wp2_with fail
    refine (szProgram _ _ _ _ _ _ _ _ _ _ _ s0 s1 (szDeclS _) (szFuncS _) (by omega) (by omega)).mono ?_
    rw [V.out]
    rintro e w1 ⟨rfl, p1⟩
    go_wp2_with fail
    exact fin_ hQ ⟨rfl, K.trans p1⟩
  have hz0 : szD (encDecls ds) ≤ 1048576 := by omega
  have hz1 : szD (encFuncs fs) ≤ 1048576 := by omega
  have V : Hid (szo (szD (encDecls ds) + szD (encFuncs fs)) 1048576 = 1048576 - ((szD (encDecls ds) : Int) + (szD (encFuncs fs) : Int))) := by show _ = _; rw [szo_yes (by omega)]; omega
  have t0 : 0 ≤ 1048576 - ((szD (encDecls ds) : Int) + (szD (encFuncs fs) : Int)) := by omega
  have HC0 : Hid (cntD (encDecls ds) ≤ 3145728) := by have := cnt_decls ds; show _ ≤ _; omega
  have HC1 : Hid (cntD (encFuncs fs) ≤ 3145728) := by have := cnt_funcs fs; show _ ≤ _; omega
  clear hs
  have HLdv0 : Hid (cntD (encDecls (nrmD ds fs)) ≤ 4000000) := (by have h1 := nrmD_cnt ds fs; have h2 := HC0.out; show _ ≤ _; omega)
  have HLdv1 : Hid (cntD (encRouts (nrmR ds fs)) ≤ 4000000) := (by have h1 := nrmR_cnt ds fs; show _ ≤ _; omega)
  generalize hVdv0 : encDecls (nrmD ds fs) = dv0 at HLdv0
  generalize hVdv1 : encRouts (nrmR ds fs) = dv1 at HLdv1
  generalize hVrb : progOk ds fs = rb
  have HVdv0 := Lib.hid hVdv0
  have HVdv1 := Lib.hid hVdv1
  have HVrb := Lib.hid hVrb
  clear hVdv0 hVdv1 hVrb
  have EQdv0 : EqC 42 dv0 := by rw [← HVdv0.out]; exact eqDeclS _
  have MKdv0 : MkC 44 dv0 := by rw [← HVdv0.out]; exact markDeclS _
  have HDdv0 : HdC 46 dv0 := by rw [← HVdv0.out]; exact heldDeclS _
  have EQdv0 := Lib.hid EQdv0; have MKdv0 := Lib.hid MKdv0; have HDdv0 := Lib.hid HDdv0
  have EQdv1 : EqC 43 dv1 := by rw [← HVdv1.out]; exact eqRoutineS _
  have MKdv1 : MkC 45 dv1 := by rw [← HVdv1.out]; exact markRoutineS _
  have HDdv1 : HdC 47 dv1 := by rw [← HVdv1.out]; exact heldRoutineS _
  have EQdv1 := Lib.hid EQdv1; have MKdv1 := Lib.hid MKdv1; have HDdv1 := Lib.hid HDdv1
  have bk := rowOf w #[.slice a0 n0 c0, .slice a1 n1 c1] 39
  have s0 := ((r0.lt).mono (D' := fun q => q < w.heap.size) (fun _ h => h.2)).k K
  have s1 := ((r1.lt).mono (D' := fun q => q < w.heap.size) (fun _ h => h.2)).k K
  clear r0 r1
  have zb : (w.alloc (.cells #[.slice a0 n0 c0, .slice a1 n1 c1] 39)).heap.size = w.heap.size + 1 := by simp
  go_enter Tryz.func4, Tryz.ntmps4
  go_wp2_with fail
  refine (szProgram _ _ _ _ _ _ _ _ _ _ _ s0 s1 (szDeclS _) (szFuncS _) (by omega) (by omega)).mono ?_
  rw [V.out]
  rintro e w1 ⟨rfl, p1⟩
  replace K := K.trans p1
  replace bk := row_ext bk p1 (fun h => h)
  replace s0 := s0.k p1
  replace s1 := s1.k p1
  clear V
  have z1 := p1.size
  have x0 := bk.cell (i := 0) (by simp)
  have x1 := bk.cell (i := 1) (by simp)
  simp at x0 x1
  go_wp2_with fail
  refine (toProgram _ _ _ _ _ _ _ _ _ _ s0 hz0 s1 hz1 (toDeclS _) (toFuncS _)).mono ?_
  rintro e w2 ⟨b0q, b1q, rfl, tsq, pq⟩
  have g0q := (tsq.get 0 _ _ rfl rfl).read
  have g1q := (tsq.get 1 _ _ rfl rfl).read
  have zq := pq.size
  clear tsq
  replace K := K.trans pq
  replace bk := row_ext bk pq (fun h => h)
  replace s0 := s0.k pq
  replace s1 := s1.k pq
  go_wp2_with fail
  refine (specNormalize _ _ _ _ _ _ _ _ _ _ _ g0q g1q).mono ?_
  rw [HVdv0.out, HVdv1.out, HVrb.out]
  rintro e w3 ⟨a0s, n0s, c0s, a1s, n1s, c1s, rfl, os0, os1, p3⟩
  have z3 := p3.size
  have OS0 := (os0.lt).mono (D' := fun q => w2.heap.size ≤ q ∧ q < w3.heap.size) (fun _ h => h)
  clear os0
  have OS1 := (os1.lt).mono (D' := fun q => w2.heap.size ≤ q ∧ q < w3.heap.size) (fun _ h => h)
  clear os1
  replace K := K.trans p3
  replace bk := row_ext bk p3 (fun h => h)
  replace s0 := s0.k p3
  replace s1 := s1.k p3
  clear g0q g1q
  clear x0 x1
  have kw := Keep.al w3 (.cells #[.slice a0s n0s c0s, .slice a1s n1s c1s] 30)
  have zkw : (w3.alloc (.cells #[.slice a0s n0s c0s, .slice a1s n1s c1s] 30)).heap.size = w3.heap.size + 1 := by simp
  replace K := K.trans kw
  replace bk := row_ext bk kw (fun h => h)
  replace s0 := s0.k kw
  replace s1 := s1.k kw
  replace OS0 := OS0.k kw
  replace OS1 := OS1.k kw
  have bw := rowOf w3 #[.slice a0s n0s c0s, .slice a1s n1s c1s] 30
  have x0 := bk.cell (i := 0) (by simp)
  have x1 := bk.cell (i := 1) (by simp)
  simp at x0 x1
  go_wp2_with fail
  refine (toProgram _ _ _ _ _ _ _ _ _ _ s0 hz0 s1 hz1 (toDeclS _) (toFuncS _)).mono ?_
  rintro e w4 ⟨b0x, b1x, rfl, tsx, px⟩
  have g0x := (tsx.get 0 _ _ rfl rfl).read
  have g1x := (tsx.get 1 _ _ rfl rfl).read
  have zx := px.size
  rw [zkw] at tsx zx
  replace K := K.trans px
  replace bk := row_ext bk px (fun h => h)
  replace bw := row_ext bw px (fun h => h)
  replace s0 := s0.k px
  replace s1 := s1.k px
  replace OS0 := OS0.k px
  replace OS1 := OS1.k px
  have k4 := Keep.al w4 (.cells #[.slice b0x n0 n0, .slice b1x n1 n1] 44)
  have zk4 : (w4.alloc (.cells #[.slice b0x n0 n0, .slice b1x n1 n1] 44)).heap.size = w4.heap.size + 1 := by simp
  replace K := K.trans k4
  replace bk := row_ext bk k4 (fun h => h)
  replace bw := row_ext bw k4 (fun h => h)
  replace s0 := s0.k k4
  replace s1 := s1.k k4
  replace OS0 := OS0.k k4
  replace OS1 := OS1.k k4
  have bx := rowOf w4 #[.slice b0x n0 n0, .slice b1x n1 n1] 44
  replace g0x := g0x.k k4
  replace g1x := g1x.k k4
  replace tsx := tsx.ext k4 (fun _ _ _ h => h)
  clear x0 x1
  go_wp2_with fail
  refine (implNormalize _ _ HFT.out _ _ _ _ _ _ _ _ _ g0x g1x).mono ?_
  rw [HVdv0.out, HVdv1.out, HVrb.out]
  rintro e w5 ⟨a0g, n0g, c0g, a1g, n1g, c1g, rfl, oi, p5⟩
  have z5 := p5.size
  rw [zk4] at z5
  have OI := oi
  rw [zk4] at OI
  clear oi
  replace K := K.trans p5
  replace bk := row_ext bk p5 (fun h => h)
  replace bw := row_ext bw p5 (fun h => h)
  replace bx := row_ext bx p5 (fun h => h)
  replace s0 := s0.k p5
  replace s1 := s1.k p5
  replace OS0 := OS0.k p5
  replace OS1 := OS1.k p5
  replace g0x := g0x.k p5
  replace g1x := g1x.k p5
  replace tsx := tsx.ext p5 (fun _ _ _ h => h)
  have kg := Keep.al w5 (.cells #[.slice a0g n0g c0g, .slice a1g n1g c1g] 30)
  have zkg : (w5.alloc (.cells #[.slice a0g n0g c0g, .slice a1g n1g c1g] 30)).heap.size = w5.heap.size + 1 := by simp
  replace K := K.trans kg
  replace bk := row_ext bk kg (fun h => h)
  replace bw := row_ext bw kg (fun h => h)
  replace bx := row_ext bx kg (fun h => h)
  replace s0 := s0.k kg
  replace s1 := s1.k kg
  replace OS0 := OS0.k kg
  replace OS1 := OS1.k kg
  replace g0x := g0x.k kg
  replace g1x := g1x.k kg
  replace tsx := tsx.ext kg (fun _ _ _ h => h)
  replace OI := OI.ext kg (fun _ _ _ h => h)
  have bg := rowOf w5 #[.slice a0g n0g c0g, .slice a1g n1g c1g] 30
  have u0 := bg.cell (i := 0) (by simp)
  have u1 := bg.cell (i := 1) (by simp)
  simp at u0 u1
  have v0 := bw.cell (i := 0) (by simp)
  have v1 := bw.cell (i := 1) (by simp)
  simp at v0 v1
  go_wp2_with fail
  refine (eqNormal _ _ _ _ _ _ _ _ _ _ _ _ _ _ _ _ _ (OI.get 0 _ _ rfl rfl).read OS0 (OI.get 1 _ _ rfl rfl).read OS1 EQdv0.out EQdv1.out).mono ?_
  rintro e w6 ⟨rfl, p6⟩
  clear u0 u1
  clear v0 v1
  replace K := K.trans p6
  replace bk := row_ext bk p6 (fun h => h)
  replace bw := row_ext bw p6 (fun h => h)
  replace bx := row_ext bx p6 (fun h => h)
  replace bg := row_ext bg p6 (fun h => h)
  replace s0 := s0.k p6
  replace s1 := s1.k p6
  replace OS0 := OS0.k p6
  replace OS1 := OS1.k p6
  replace g0x := g0x.k p6
  replace g1x := g1x.k p6
  replace tsx := tsx.ext p6 (fun _ _ _ h => h)
  replace OI := OI.ext p6 (fun _ _ _ h => h)
  have x0 := bk.cell (i := 0) (by simp)
  have x1 := bk.cell (i := 1) (by simp)
  simp at x0 x1
  have y0 := bx.cell (i := 0) (by simp)
  have y1 := bx.cell (i := 1) (by simp)
  simp at y0 y1
  have s0d := s0.k (w' := w6.drew) (Ext.refl (fun _ => False) w6).drew
  have g0d := g0x.k (w' := w6.drew) (Ext.refl (fun _ => False) w6).drew
  have s1d := s1.k (w' := w6.drew) (Ext.refl (fun _ => False) w6).drew
  have g1d := g1x.k (w' := w6.drew) (Ext.refl (fun _ => False) w6).drew
  go_wp2_with fail
  go_region_held3 (fun w' => w'.cell? ⟨w.heap.size, 0, none⟩ = some (.slice a0 n0 c0) ∧ w'.cell? ⟨w.heap.size, 1, none⟩ = some (.slice a1 n1 c1) ∧ w'.cell? ⟨w4.heap.size, 0, none⟩ = some (.slice b0x n0 n0) ∧ w'.cell? ⟨w4.heap.size, 1, none⟩ = some (.slice b1x n1 n1))
    (first | exact ⟨Keep.at (pa.trans pb) x0, Keep.at (pa.trans pb) x1, Keep.at (pa.trans pb) y0, Keep.at (pa.trans pb) y1⟩ | exact ⟨Keep.at pa x0, Keep.at pa x1, Keep.at pa y0, Keep.at pa y1⟩ | go_keep)
    (first
      | (go_at_call 16; refine (toProgram _ _ _ _ _ _ _ _ _ _ s0d hz0 s1d hz1 (toDeclS _) (toFuncS _)).mono ?_; rintro e wa ⟨b0a, b1a, rfl, tsa, pa⟩)
      | (go_at_call 18; refine (eqProgram _ _ _ _ _ _ _ _ _ _ _ _ _ _ _ _ _ (g0d.k pa) ((tsa.get 0 _ _ rfl rfl).read) (g1d.k pa) ((tsa.get 1 _ _ rfl rfl).read) (eqDeclS _) (eqFuncS _)).mono ?_; rintro e wb ⟨rfl, pb⟩))
  have pab : Keep w6 wb := (((Ext.refl _ w6).drew).trans pa).trans pb
  clear x0 x1 y0 y1 s0d s1d g0d g1d tsa
  clear g0x g1x
  replace K := K.trans pab
  replace bk := row_ext bk pab (fun h => h)
  replace bw := row_ext bw pab (fun h => h)
  replace bx := row_ext bx pab (fun h => h)
  replace bg := row_ext bg pab (fun h => h)
  replace s0 := s0.k pab
  replace s1 := s1.k pab
  replace OS0 := OS0.k pab
  replace OS1 := OS1.k pab
  replace tsx := tsx.ext pab (fun _ _ _ h => h)
  replace OI := OI.ext pab (fun _ _ _ h => h)
  clear pa pb
  have y0 := bx.cell (i := 0) (by simp)
  have y1 := bx.cell (i := 1) (by simp)
  simp at y0 y1
  go_wp2_with fail
  have zbx := bx.lt
  refine (markProgram _ _ _ _ _ _ _ _ _ _ _ _ tsx (by omega) (markDeclS _) (markFuncS _) (by omega) (by have := HC0.out; have := HC1.out; omega)).mono ?_
  rintro e w7 ⟨k7, rfl, hk7, _, x7⟩
  have t7 : 0 ≤ k7 := by omega
  clear hk7
  clear y0 y1
  clear tsx bx
  replace K := K.then_ x7 (fun i hi h => by omega)
  replace bk := row_ext bk x7 (fun h => by omega)
  replace bw := row_ext bw x7 (fun h => by omega)
  replace bg := row_ext bg x7 (fun h => by omega)
  replace s0 := s0.ext x7 (fun i hi h => by omega)
  replace s1 := s1.ext x7 (fun i hi h => by omega)
  replace OS0 := OS0.ext x7 (fun i hi h => by omega)
  replace OS1 := OS1.ext x7 (fun i hi h => by omega)
  replace OI := OI.ext x7 (fun i h1 h2 h => by omega)
  clear x7
  have u0 := bg.cell (i := 0) (by simp)
  have u1 := bg.cell (i := 1) (by simp)
  simp at u0 u1
  have v0 := bw.cell (i := 0) (by simp)
  have v1 := bw.cell (i := 1) (by simp)
  simp at v0 v1
  go_wp2_with fail
  refine (eqNormal _ _ _ _ _ _ _ _ _ _ _ _ _ _ _ _ _ (OI.get 0 _ _ rfl rfl).read OS0 (OI.get 1 _ _ rfl rfl).read OS1 EQdv0.out EQdv1.out).mono ?_
  rintro e w8 ⟨rfl, p8⟩
  clear u0 u1
  clear v0 v1
  replace K := K.trans p8
  replace bk := row_ext bk p8 (fun h => h)
  replace bw := row_ext bw p8 (fun h => h)
  replace bg := row_ext bg p8 (fun h => h)
  replace s0 := s0.k p8
  replace s1 := s1.k p8
  replace OS0 := OS0.k p8
  replace OS1 := OS1.k p8
  replace OI := OI.ext p8 (fun _ _ _ h => h)
  have u0 := bg.cell (i := 0) (by simp)
  have u1 := bg.cell (i := 1) (by simp)
  simp at u0 u1
  go_wp2_with fail
  have zbg := bg.lt
  refine (markNormal _ _ _ _ _ _ _ _ _ _ _ _ OI (by omega) MKdv0.out MKdv1.out (by omega) (by have := HLdv0.out; have := HLdv1.out; omega)).mono ?_
  rintro e w9 ⟨_, rfl, rfl, OM, x9⟩
  clear u0 u1
  clear OI
  replace K := K.then_ x9 (fun i hi h => by omega)
  replace bk := row_ext bk x9 (fun h => by omega)
  replace bw := row_ext bw x9 (fun h => by omega)
  replace bg := row_ext bg x9 (fun h => by omega)
  replace s0 := s0.ext x9 (fun i hi h => by omega)
  replace s1 := s1.ext x9 (fun i hi h => by omega)
  replace OS0 := OS0.ext x9 (fun i hi h => by omega)
  replace OS1 := OS1.ext x9 (fun i hi h => by omega)
  clear x9
  have tc : 0 ≤ 1 + (cntD dv0 : Int) + (cntD dv1 : Int) := by omega
  have u0 := bg.cell (i := 0) (by simp)
  have u1 := bg.cell (i := 1) (by simp)
  simp at u0 u1
  go_wp2_with fail
  refine (heldNormal _ _ _ _ _ _ _ _ _ _ _ _ OM HDdv0.out HDdv1.out (by omega) (by have := HLdv0.out; have := HLdv1.out; omega)).mono ?_
  rintro e w10 ⟨rfl, p10⟩
  clear u0 u1
  replace K := K.trans p10
  replace bk := row_ext bk p10 (fun h => h)
  replace bw := row_ext bw p10 (fun h => h)
  replace bg := row_ext bg p10 (fun h => h)
  replace s0 := s0.k p10
  replace s1 := s1.k p10
  replace OS0 := OS0.k p10
  replace OS1 := OS1.k p10
  replace OM := OM.ext p10 (fun _ _ _ h => h)
  have x0 := bk.cell (i := 0) (by simp)
  have x1 := bk.cell (i := 1) (by simp)
  simp at x0 x1
  go_wp2_with fail
  refine (toProgram _ _ _ _ _ _ _ _ _ _ s0 hz0 s1 hz1 (toDeclS _) (toFuncS _)).mono ?_
  rintro e w11 ⟨b0h, b1h, rfl, tsh, ph⟩
  have g0h := (tsh.get 0 _ _ rfl rfl).read
  have g1h := (tsh.get 1 _ _ rfl rfl).read
  have zh := ph.size
  replace K := K.trans ph
  replace bk := row_ext bk ph (fun h => h)
  replace bw := row_ext bw ph (fun h => h)
  replace bg := row_ext bg ph (fun h => h)
  replace s0 := s0.k ph
  replace s1 := s1.k ph
  replace OS0 := OS0.k ph
  replace OS1 := OS1.k ph
  replace OM := OM.ext ph (fun _ _ _ h => h)
  clear tsh
  clear x0 x1
  go_wp2_with fail
  refine (implNormalize _ _ HFT.out _ _ _ _ _ _ _ _ _ g0h g1h).mono ?_
  rw [HVdv0.out, HVdv1.out, HVrb.out]
  rintro e w12 ⟨a0h, n0h, c0h, a1h, n1h, c1h, rfl, oh, p12⟩
  replace K := K.trans p12
  replace bk := row_ext bk p12 (fun h => h)
  replace bw := row_ext bw p12 (fun h => h)
  replace bg := row_ext bg p12 (fun h => h)
  replace s0 := s0.k p12
  replace s1 := s1.k p12
  replace OS0 := OS0.k p12
  replace OS1 := OS1.k p12
  replace OM := OM.ext p12 (fun _ _ _ h => h)
  have OH0 := (oh.get 0 _ _ rfl rfl).read
  have OH1 := (oh.get 1 _ _ rfl rfl).read
  clear oh
  have kh := Keep.al w12 (.cells #[.slice a0h n0h c0h, .slice a1h n1h c1h] 30)
  have zkh : (w12.alloc (.cells #[.slice a0h n0h c0h, .slice a1h n1h c1h] 30)).heap.size = w12.heap.size + 1 := by simp
  replace K := K.trans kh
  replace bk := row_ext bk kh (fun h => h)
  replace bw := row_ext bw kh (fun h => h)
  replace bg := row_ext bg kh (fun h => h)
  replace s0 := s0.k kh
  replace s1 := s1.k kh
  replace OS0 := OS0.k kh
  replace OS1 := OS1.k kh
  replace OH0 := OH0.k kh
  replace OH1 := OH1.k kh
  replace OM := OM.ext kh (fun _ _ _ h => h)
  have bh := rowOf w12 #[.slice a0h n0h c0h, .slice a1h n1h c1h] 30
  have u0 := bh.cell (i := 0) (by simp)
  have u1 := bh.cell (i := 1) (by simp)
  simp at u0 u1
  have v0 := bw.cell (i := 0) (by simp)
  have v1 := bw.cell (i := 1) (by simp)
  simp at v0 v1
  go_wp2_with fail
  refine (eqNormal _ _ _ _ _ _ _ _ _ _ _ _ _ _ _ _ _ OH0 OS0 OH1 OS1 EQdv0.out EQdv1.out).mono ?_
  rintro e w13 ⟨rfl, p13⟩
  clear u0 u1
  clear v0 v1
  replace K := K.trans p13
  replace bk := row_ext bk p13 (fun h => h)
  replace bw := row_ext bw p13 (fun h => h)
  replace bg := row_ext bg p13 (fun h => h)
  replace bh := row_ext bh p13 (fun h => h)
  replace s0 := s0.k p13
  replace s1 := s1.k p13
  replace OS0 := OS0.k p13
  replace OS1 := OS1.k p13
  replace OH0 := OH0.k p13
  replace OH1 := OH1.k p13
  replace OM := OM.ext p13 (fun _ _ _ h => h)
  have u0 := bg.cell (i := 0) (by simp)
  have u1 := bg.cell (i := 1) (by simp)
  simp at u0 u1
  go_wp2_with fail
  refine (heldNormal _ _ _ _ _ _ _ _ _ _ _ _ OM HDdv0.out HDdv1.out (by omega) (by have := HLdv0.out; have := HLdv1.out; omega)).mono ?_
  rintro e w14 ⟨rfl, p14⟩
  clear u0 u1
  replace K := K.trans p14
  replace bk := row_ext bk p14 (fun h => h)
  replace bw := row_ext bw p14 (fun h => h)
  replace bg := row_ext bg p14 (fun h => h)
  replace bh := row_ext bh p14 (fun h => h)
  replace s0 := s0.k p14
  replace s1 := s1.k p14
  replace OS0 := OS0.k p14
  replace OS1 := OS1.k p14
  replace OH0 := OH0.k p14
  replace OH1 := OH1.k p14
  replace OM := OM.ext p14 (fun _ _ _ h => h)
  go_wp2_with fail
  exact fin_ hQ ⟨rfl, K⟩
end Go.Proofs.YtkapldpmjkdmcaaGreat
/- From the reading of arguments that came in to the words of this seat: integers. -/
namespace Go.Proofs.YtkapldpmjkdmcaaGreat
open Go.RowKit Go.ChangeShapes Go.WideShapes Go.Deep

theorem addr_plain {w : World} {x : Addr} {v : Value} (h : w.cell? x = some v) : ∃ b o, x = ⟨b, o, none⟩ := by
  obtain ⟨b, o, s⟩ := x
  cases s with
  | none => exact ⟨b, o, rfl⟩
  | some s =>
    exfalso
    unfold World.cell? at h
    split at h <;> simp at h

theorem int_fits {n : Int} (h : (Lit.int .i64 n).wf = true) : -9223372036854775808 ≤ n ∧ n ≤ 9223372036854775807 := by
  simp [Lit.wf, IntKind.min, IntKind.max, IntKind.signed, IntKind.bits] at h
  omega

section
variable {H : Type} {enc : TypeId × Value → H} {P : Program} {w : World} {base : Nat} {held : Bool} {D : Nat → Prop}

theorem ent_ints {t e : TypeId} {fuel : Nat} {a : Option Addr} {n c : Nat} {x : DataW H × List MemPlace} (ht : P.underlying t = some (.slice e)) (he : P.underlying e = some (.int .i64)) (hc : P.cellsOf e = 1)
    (h : DataW.trod enc P w base (fun _ => true) held fuel t [.slice a n c] = some x) : n ≤ c ∧ ∃ xs, IntsL w (fun _ => True) a n xs ∧ xs.length ≤ 9223372036854775807 := by
  rcases open_ints ht he hc h with ⟨hcs, _⟩ | ⟨ad, len, cap, zs, hcs, _, hl, hm, hz, _, hcell, _⟩
  · simp at hcs
    obtain ⟨rfl, rfl, rfl⟩ := hcs
    exact ⟨Nat.le_refl _, [], ⟨rfl, fun h => absurd h (by omega)⟩, by simp⟩
  · simp at hcs
    obtain ⟨rfl, rfl, rfl⟩ := hcs
    simp at hz
    refine ⟨hl, zs.take n, ⟨by simp; omega, fun hn => ?_⟩, by have := hm; simp only [maxLen] at this; simp; omega⟩
    obtain ⟨b, o, rfl⟩ : ∃ b o, ad = ⟨b, o, none⟩ := by
      have := hcell 0 (by omega)
      rw [show ad.add 0 = ad from by simp [Addr.add]] at this
      exact addr_plain this
    refine ⟨b, o, rfl, trivial, fun i hi => ?_⟩
    have := hcell i (by omega)
    rw [Addr.add_lit] at this
    rw [this]
    simp [iAt, hi]

theorem ent_choose {α : Type} (n : Nat) (p : Nat → α → Prop) (h : ∀ i, i < n → ∃ x, p i x) (d : α) : ∃ l : List α, l.length = n ∧ ∀ i, i < n → p i (l.getD i d) := by
  induction n with
  | zero => exact ⟨[], rfl, fun i hi => absurd hi (by omega)⟩
  | succ n ih =>
    obtain ⟨l, hl, hp⟩ := ih fun i hi => h i (by omega)
    obtain ⟨x, hx⟩ := h n (by omega)
    refine ⟨l ++ [x], by simp [hl], fun i hi => ?_⟩
    rcases Nat.lt_succ_iff_lt_or_eq.1 hi with h1 | rfl
    · have := hp i h1
      simpa [List.getD, List.getElem?_append_left (show i < l.length by omega)] using this
    · simpa [List.getD, ← hl] using hx

end
end Go.Proofs.YtkapldpmjkdmcaaGreat
/- From the reading of arguments that came in to data that can be read: for all types of data. -/
namespace Go.Proofs.YtkapldpmjkdmcaaGreat
open Go.RowKit Go.ChangeShapes Go.WideShapes Go.Deep

section
variable {H : Type} {enc : TypeId × Value → H} {P : Program} {w : World} {base : Nat} {held : Bool}

theorem len1 {α : Type} {l : List α} (h : l.length = 1) : ∃ a, l = [a] := by match l, h with | [a], _ => exact ⟨a, rfl⟩
theorem len2 {α : Type} {l : List α} (h : l.length = 2) : ∃ a b, l = [a, b] := by match l, h with | [a, b], _ => exact ⟨a, b, rfl⟩
theorem len3 {α : Type} {l : List α} (h : l.length = 3) : ∃ a b c, l = [a, b, c] := by match l, h with | [a, b, c], _ => exact ⟨a, b, c, rfl⟩
theorem len5 {α : Type} {l : List α} (h : l.length = 5) : ∃ a b c d e, l = [a, b, c, d, e] := by match l, h with | [a, b, c, d, e], _ => exact ⟨a, b, c, d, e, rfl⟩
theorem ent2_slice {t e : TypeId} {fuel : Nat} {v : Value} {x : DataW H × List MemPlace} (s : Nat) (hs0 : 0 < s) (ht : P.underlying t = some (.slice e)) (hc : P.cellsOf e = s)
    (h : DataW.trod enc P w base (fun _ => true) held fuel t [v] = some x) : ∃ a n c, v = .slice a n c ∧ n ≤ c ∧ n ≤ 9223372036854775807 ∧ (0 < n → ∃ b o, a = some ⟨b, o, none⟩ ∧
      ∀ i, i < n → ∃ cs fuel' y, fuel' < fuel ∧ cs.length = s ∧ (∀ j, j < s → w.cell? ⟨b, o + i * s + j, none⟩ = cs[j]?) ∧ DataW.trod enc P w base (fun _ => true) held fuel' e cs = some y) := by
  rcases DataW.trod_slice ht h with ⟨hcs, _⟩ | ⟨ad, len, cap, elems, rest, n', hf, hcs, _, _, hl, hm, hlen, hel, _, _⟩
  · simp at hcs
    subst hcs
    exact ⟨none, 0, 0, rfl, Nat.le_refl _, by omega, fun h => absurd h (by omega)⟩
  · simp at hcs
    subst hcs
    refine ⟨_, _, _, rfl, hl, by simp only [maxLen] at hm; omega, fun hn => ?_⟩
    have hget : ∀ i, i < len → ∃ cs' y, w.cells? base (ad.add (i * P.cellsOf e)) (P.cellsOf e) = some cs' ∧ DataW.trod enc P w base (fun _ => true) held n' e cs' = some y := by
      intro i hi
      have := hel i hi
      rw [List.getElem?_eq_getElem (by omega), Option.bind_eq_some_iff] at this
      obtain ⟨cs', h1, h2⟩ := this
      exact ⟨cs', _, h1, h2⟩
    obtain ⟨b, o, rfl⟩ : ∃ b o, ad = ⟨b, o, none⟩ := by
      obtain ⟨cs', _, hcs', _⟩ := hget 0 (by omega)
      rw [hc] at hcs'
      obtain ⟨_, hlen, hat⟩ := World.cells?_some hcs'
      have h0 := hat 0 hs0
      rw [show (ad.add (0 * s)).add 0 = ad from by simp [Addr.add], List.getElem?_eq_getElem (by omega)] at h0
      exact addr_plain h0
    refine ⟨b, o, rfl, fun i hi => ?_⟩
    obtain ⟨cs', y, hcs', hy⟩ := hget i hi
    rw [hc] at hcs'
    obtain ⟨_, hlen, hat⟩ := World.cells?_some hcs'
    refine ⟨cs', n', y, by omega, hlen, fun j hj => ?_, hy⟩
    have := hat j hj
    rw [Addr.add_lit, Addr.add_lit] at this
    exact this
theorem ent2_build {s : Nat} {rows : List (List Dat)} {b o n c : Nat} (hs0 : 0 < s) (hn : rows.length = n) (h0 : 0 < n) (hc : n ≤ c) (hm : n ≤ 9223372036854775807)
    (hr : ∀ i, i < n → (rGet rows i).length = s ∧ ∀ j, j < s → ∃ u, w.cell? ⟨b, o + i * s + j, none⟩ = some u ∧ Rd w (fun _ => True) (rAt rows i j) u) : Rd w (fun _ => True) (.arr s rows) (.slice (some ⟨b, o, none⟩) n c) := by
  subst hn
  refine .arr s rows b o c (fun i j => (w.cell? ⟨b, o + i * s + j, none⟩).getD undef) trivial h0 hs0 hc hm (fun i hi => (hr i hi).1) (fun i j hi hj => ?_) (fun i j hi hj => ?_)
  · obtain ⟨u, hu, _⟩ := (hr i hi).2 j hj
    rw [hu]; rfl
  · obtain ⟨u, hu, hr'⟩ := (hr i hi).2 j hj
    show Rd _ _ _ ((w.cell? ⟨b, o + i * s + j, none⟩).getD undef)
    rw [hu]; exact hr'
end

section
variable {H : Type} {enc : TypeId × Value → H} {w : World} {base : Nat} {held : Bool}

theorem ent2_Int (fuel : Nat) (v : Value) (y : DataW H × List MemPlace) (h : DataW.trod enc Tryz.prog w base (fun _ => true) held fuel 52 [v] = some y) : ∃ a n c xs, v = .slice a n c ∧ Rd w (fun _ => True) (encInts xs) (.slice a n c) := by
  obtain ⟨a, n, c, rfl, hnc, hm, hel⟩ := ent2_slice 1 (by omega) Tryz.underlying52 (by kernel_rfl) h
  obtain ⟨_, xs, hxs, _⟩ := ent_ints Tryz.underlying52 Tryz.underlying3 (by kernel_rfl) h
  exact ⟨a, n, c, xs, rfl, hxs.toRd hnc hm⟩

theorem ent2_rowCon (fuel : Nat) (cs : List Value) (x : DataW H × List MemPlace) (ihInt : ∀ fuel' v y, fuel' < fuel → DataW.trod enc Tryz.prog w base (fun _ => true) held fuel' 52 [v] = some y → ∃ a n c xs, v = .slice a n c ∧ Rd w (fun _ => True) (encInts xs) (.slice a n c))
    (h : DataW.trod enc Tryz.prog w base (fun _ => true) held fuel 224 cs = some x) : ∃ d : (List Int), (rowC d).length = 1 ∧ ∀ j, j < 1 → ∃ u, cs[j]? = some u ∧ Rd w (fun _ => True) (dGet (rowC d) j) u := by
  obtain ⟨ys, m, hfu, _, hcl, hyl, hf⟩ := DataW.trod_struct Tryz.underlying224 h
  have h0 := hf 0 _ rfl
  have hN : cs.length = 1 := by rw [hcl]; kernel_rfl
  obtain ⟨v0, rfl⟩ := len1 hN
  have hY : ys.length = 1 := by rw [hyl]; rfl
  obtain ⟨y0, rfl⟩ := len1 hY
  simp at h0
  rw [show Tryz.prog.cellsOf 52 = 1 from by kernel_rfl] at h0
  simp at h0
  obtain ⟨a0, n0, c0, xs0, rfl, r0⟩ := ihInt m _ _ (by omega) h0
  refine ⟨xs0, rfl, fun j hj => ?_⟩
  rcases j with _ | j
  · exact ⟨_, rfl, r0⟩
  · omega
theorem ent2_Con (fuel : Nat) (v : Value) (y : DataW H × List MemPlace) (h : DataW.trod enc Tryz.prog w base (fun _ => true) held fuel 112 [v] = some y) : ∃ a n c xs, v = .slice a n c ∧ Rd w (fun _ => True) (encCons xs) (.slice a n c) := by
  obtain ⟨a, n, c, rfl, hnc, hm, hel⟩ := ent2_slice 1 (by omega) Tryz.underlying112 (by kernel_rfl) h
  rcases Nat.eq_zero_or_pos n with rfl | hn
  · exact ⟨a, 0, c, [], rfl, .nil _ _ _⟩
  obtain ⟨b, o, rfl, hel2⟩ := hel hn
  obtain ⟨l, hl, hp⟩ := ent_choose n (fun i (d : (List Int)) => (rowC d).length = 1 ∧ ∀ j, j < 1 → ∃ u, w.cell? ⟨b, o + i * 1 + j, none⟩ = some u ∧ Rd w (fun _ => True) (dGet (rowC d) j) u) (fun i hi => by
    obtain ⟨cs, fu, y, hfu, hlen, hcell, hy⟩ := hel2 i hi
    obtain ⟨d, h1, h2⟩ := ent2_rowCon fu cs y (fun fu v y _ hq => ent2_Int fu v y hq) hy
    exact ⟨d, h1, fun j hj => by rw [hcell j hj]; exact h2 j hj⟩) ([] : List Int)
  refine ⟨_, n, c, l, rfl, ?_⟩
  refine ent2_build (s := 1) (rows := (l.map rowC)) (by omega) (by rw [cons_len]; exact hl) hn hnc hm (fun i hi => ?_)
  have hg : rGet (l.map rowC) i = rowC (cAt l i) := by rw [rGet_lt (by rw [cons_len]; omega), cAt_get (by omega)]; simp
  rw [hg]
  refine ⟨(hp i hi).1, fun j hj => ?_⟩
  rw [rAt, hg]
  exact (hp i hi).2 j hj

theorem ent2_rowDecl (fuel : Nat) (cs : List Value) (x : DataW H × List MemPlace) (ihCon : ∀ fuel' v y, fuel' < fuel → DataW.trod enc Tryz.prog w base (fun _ => true) held fuel' 112 [v] = some y → ∃ a n c xs, v = .slice a n c ∧ Rd w (fun _ => True) (encCons xs) (.slice a n c))
    (h : DataW.trod enc Tryz.prog w base (fun _ => true) held fuel 114 cs = some x) : ∃ d : DeclL, (rowD d).length = 3 ∧ ∀ j, j < 3 → ∃ u, cs[j]? = some u ∧ Rd w (fun _ => True) (dGet (rowD d) j) u := by
  obtain ⟨ys, m, hfu, _, hcl, hyl, hf⟩ := DataW.trod_struct Tryz.underlying114 h
  have h0 := hf 0 _ rfl
  have h1 := hf 1 _ rfl
  have h2 := hf 2 _ rfl
  have hN : cs.length = 3 := by rw [hcl]; kernel_rfl
  obtain ⟨v0, v1, v2, rfl⟩ := len3 hN
  have hY : ys.length = 3 := by rw [hyl]; rfl
  obtain ⟨y0, y1, y2, rfl⟩ := len3 hY
  simp at h0
  rw [show Tryz.prog.cellsOf 3 = 1 from by kernel_rfl] at h0
  simp at h0
  obtain ⟨z0, e0, _⟩ := DataW.trod_int Tryz.underlying3 h0
  simp at e0
  subst e0
  simp at h1
  rw [show Tryz.prog.cellsOf 3 = 1 from by kernel_rfl] at h1
  simp at h1
  obtain ⟨z1, e1, _⟩ := DataW.trod_int Tryz.underlying3 h1
  simp at e1
  subst e1
  simp at h2
  rw [show Tryz.prog.cellsOf 112 = 1 from by kernel_rfl] at h2
  simp at h2
  obtain ⟨a2, n2, c2, xs2, rfl, r2⟩ := ihCon m _ _ (by omega) h2
  refine ⟨⟨z0, z1, xs2⟩, rfl, fun j hj => ?_⟩
  rcases j with _ | _ | _ | j
  · exact ⟨_, rfl, .num _⟩
  · exact ⟨_, rfl, .num _⟩
  · exact ⟨_, rfl, r2⟩
  · omega
theorem ent2_Decl (fuel : Nat) (v : Value) (y : DataW H × List MemPlace) (h : DataW.trod enc Tryz.prog w base (fun _ => true) held fuel 22 [v] = some y) : ∃ a n c xs, v = .slice a n c ∧ Rd w (fun _ => True) (encDecls xs) (.slice a n c) := by
  obtain ⟨a, n, c, rfl, hnc, hm, hel⟩ := ent2_slice 3 (by omega) Tryz.underlying22 (by kernel_rfl) h
  rcases Nat.eq_zero_or_pos n with rfl | hn
  · exact ⟨a, 0, c, [], rfl, .nil _ _ _⟩
  obtain ⟨b, o, rfl, hel2⟩ := hel hn
  obtain ⟨l, hl, hp⟩ := ent_choose n (fun i (d : DeclL) => (rowD d).length = 3 ∧ ∀ j, j < 3 → ∃ u, w.cell? ⟨b, o + i * 3 + j, none⟩ = some u ∧ Rd w (fun _ => True) (dGet (rowD d) j) u) (fun i hi => by
    obtain ⟨cs, fu, y, hfu, hlen, hcell, hy⟩ := hel2 i hi
    obtain ⟨d, h1, h2⟩ := ent2_rowDecl fu cs y (fun fu v y _ hq => ent2_Con fu v y hq) hy
    exact ⟨d, h1, fun j hj => by rw [hcell j hj]; exact h2 j hj⟩) (default : DeclL)
  refine ⟨_, n, c, l, rfl, ?_⟩
  refine ent2_build (s := 3) (rows := (l.map rowD)) (by omega) (by rw [decls_len]; exact hl) hn hnc hm (fun i hi => ?_)
  have hg : rGet (l.map rowD) i = rowD (dAt l i) := by rw [rGet_lt (by rw [decls_len]; omega), dAt_get (by omega)]; simp
  rw [hg]
  refine ⟨(hp i hi).1, fun j hj => ?_⟩
  rw [rAt, hg]
  exact (hp i hi).2 j hj

end
end Go.Proofs.YtkapldpmjkdmcaaGreat
/- From the reading of an expression that came in to data that can be read, whose numbers are in range. -/
namespace Go.Proofs.YtkapldpmjkdmcaaGreat
open Go.RowKit Go.ChangeShapes Go.WideShapes Go.Deep

theorem allEs_of {P : Int → Int → Prop} {es : List ExprL} (h : ∀ j, j < es.length → allE P (eAt es j)) : allEs P es := by
  induction es with
  | nil => trivial
  | cons e es ih => exact ⟨h 0 (by simp), ih (fun j hj => by have := h (j + 1) (by simpa using hj); simpa [eAt] using this)⟩

section
variable {H : Type} {enc : TypeId × Value → H} {w : World} {base : Nat} {held : Bool}
theorem ent3_rowExpr (fuel : Nat) (cs : List Value) (x : DataW H × List MemPlace) (ihExpr : ∀ fuel' v y, fuel' < fuel → DataW.trod enc Tryz.prog w base (fun _ => true) held fuel' 145 [v] = some y → ∃ a n c xs, v = .slice a n c ∧ Rd w (fun _ => True) (encExprs xs) (.slice a n c) ∧ allEs fitN xs)
    (h : DataW.trod enc Tryz.prog w base (fun _ => true) held fuel 147 cs = some x) : ∃ d : ExprL, (rowE d).length = 3 ∧ allE fitN d ∧ ∀ j, j < 3 → ∃ u, cs[j]? = some u ∧ Rd w (fun _ => True) (dGet (rowE d) j) u := by
  obtain ⟨ys, m, hfu, _, hcl, hyl, hf⟩ := DataW.trod_struct Tryz.underlying147 h
  have h0 := hf 0 _ rfl
  have h1 := hf 1 _ rfl
  have h2 := hf 2 _ rfl
  have hN : cs.length = 3 := by rw [hcl]; kernel_rfl
  obtain ⟨v0, v1, v2, rfl⟩ := len3 hN
  have hY : ys.length = 3 := by rw [hyl]; rfl
  obtain ⟨y0, y1, y2, rfl⟩ := len3 hY
  simp at h0
  rw [show Tryz.prog.cellsOf 3 = 1 from by kernel_rfl] at h0
  simp at h0
  obtain ⟨z0, e0, _⟩ := DataW.trod_int Tryz.underlying3 h0
  simp at e0
  subst e0
  simp at h1
  rw [show Tryz.prog.cellsOf 3 = 1 from by kernel_rfl] at h1
  simp at h1
  obtain ⟨z1, e1, wf1⟩ := DataW.trod_int Tryz.underlying3 h1
  simp at e1
  subst e1
  simp at h2
  rw [show Tryz.prog.cellsOf 145 = 1 from by kernel_rfl] at h2
  simp at h2
  obtain ⟨a2, n2, c2, xs2, rfl, r2, q2⟩ := ihExpr m _ _ (by omega) h2
  refine ⟨ExprL.mk z0 z1 xs2, rfl, ⟨int_fits wf1.2, q2⟩, fun j hj => ?_⟩
  rcases j with _ | _ | _ | j
  · exact ⟨_, rfl, .num _⟩
  · exact ⟨_, rfl, .num _⟩
  · exact ⟨_, rfl, r2⟩
  · omega

theorem ent3_Expr_n (N : Nat) : ∀ (fuel : Nat), fuel < N → ∀ (v : Value) (y : DataW H × List MemPlace), DataW.trod enc Tryz.prog w base (fun _ => true) held fuel 145 [v] = some y → ∃ a n c xs, v = .slice a n c ∧ Rd w (fun _ => True) (encExprs xs) (.slice a n c) ∧ allEs fitN xs := by
  induction N with
  | zero => intro fuel h; omega
  | succ N ihN =>
  intro fuel hN v y h
  obtain ⟨a, n, c, rfl, hnc, hm, hel⟩ := ent2_slice 3 (by omega) Tryz.underlying145 (by kernel_rfl) h
  rcases Nat.eq_zero_or_pos n with rfl | hn
  · exact ⟨a, 0, c, [], rfl, .nil _ _ _, trivial⟩
  obtain ⟨b, o, rfl, hel2⟩ := hel hn
  obtain ⟨l, hl, hp⟩ := ent_choose n (fun i (d : ExprL) => (rowE d).length = 3 ∧ allE fitN d ∧ ∀ j, j < 3 → ∃ u, w.cell? ⟨b, o + i * 3 + j, none⟩ = some u ∧ Rd w (fun _ => True) (dGet (rowE d) j) u) (fun i hi => by
    obtain ⟨cs, fu, y, hfu, hlen, hcell, hy⟩ := hel2 i hi
    obtain ⟨d, h1, hq, h2⟩ := ent3_rowExpr fu cs y (fun fu2 v y hfu2 hq => ihN fu2 (by omega) v y hq) hy
    exact ⟨d, h1, hq, fun j hj => by rw [hcell j hj]; exact h2 j hj⟩) (default : ExprL)
  refine ⟨_, n, c, l, rfl, ?_, allEs_of (fun j hj => by rw [eAt_get hj]; have := (hp j (by omega)).2.1; simpa [List.getD, List.getElem?_eq_getElem hj] using this)⟩
  refine ent2_build (s := 3) (rows := (rowsE l)) (by omega) (by rw [exprs_len]; exact hl) hn hnc hm (fun i hi => ?_)
  have hg : rGet (rowsE l) i = rowE (eAt l i) := by rw [rGet_lt (by rw [exprs_len]; omega), eAt_get (by omega)]; simp [rowsE_map]
  rw [hg]
  refine ⟨(hp i hi).1, fun j hj => ?_⟩
  rw [rAt, hg]
  exact (hp i hi).2.2 j hj
theorem ent3_Expr (fuel : Nat) (v : Value) (y : DataW H × List MemPlace) (h : DataW.trod enc Tryz.prog w base (fun _ => true) held fuel 145 [v] = some y) : ∃ a n c xs, v = .slice a n c ∧ Rd w (fun _ => True) (encExprs xs) (.slice a n c) ∧ allEs fitN xs := ent3_Expr_n _ fuel (Nat.lt_succ_self _) v y h

end
end Go.Proofs.YtkapldpmjkdmcaaGreat
/- From the reading of a program that came in to data that can be read, whose numbers are in range. -/
namespace Go.Proofs.YtkapldpmjkdmcaaGreat
open Go.RowKit Go.ChangeShapes Go.WideShapes Go.Deep

section
variable {H : Type} {enc : TypeId × Value → H} {w : World} {base : Nat} {held : Bool}
theorem ent4_rowFunc (fuel : Nat) (cs : List Value) (x : DataW H × List MemPlace) (ihInt : ∀ fuel' v y, fuel' < fuel → DataW.trod enc Tryz.prog w base (fun _ => true) held fuel' 52 [v] = some y → ∃ a n c xs, v = .slice a n c ∧ Rd w (fun _ => True) (encInts xs) (.slice a n c)) (ihExpr : ∀ fuel' v y, fuel' < fuel → DataW.trod enc Tryz.prog w base (fun _ => true) held fuel' 145 [v] = some y → ∃ a n c xs, v = .slice a n c ∧ Rd w (fun _ => True) (encExprs xs) (.slice a n c) ∧ allEs fitN xs)
    (h : DataW.trod enc Tryz.prog w base (fun _ => true) held fuel 149 cs = some x) : ∃ d : FuncL, (rowF d).length = 5 ∧ allE fitN d.body ∧ ∀ j, j < 5 → ∃ u, cs[j]? = some u ∧ Rd w (fun _ => True) (dGet (rowF d) j) u := by
  obtain ⟨ys, m, hfu, _, hcl, hyl, hf⟩ := DataW.trod_struct Tryz.underlying149 h
  have h0 := hf 0 _ rfl
  have h1 := hf 1 _ rfl
  have h2 := hf 2 _ rfl
  have hN : cs.length = 5 := by rw [hcl]; kernel_rfl
  obtain ⟨v0, v1, v2, v3, v4, rfl⟩ := len5 hN
  have hY : ys.length = 3 := by rw [hyl]; rfl
  obtain ⟨y0, y1, y2, rfl⟩ := len3 hY
  simp at h0
  rw [show Tryz.prog.cellsOf 52 = 1 from by kernel_rfl] at h0
  simp at h0
  obtain ⟨a0, n0, c0, xs0, rfl, r0⟩ := ihInt m _ _ (by omega) h0
  simp at h1
  rw [show Tryz.prog.cellsOf 3 = 1 from by kernel_rfl] at h1
  simp at h1
  obtain ⟨z1, e1, _⟩ := DataW.trod_int Tryz.underlying3 h1
  simp at e1
  subst e1
  simp at h2
  rw [show Tryz.prog.cellsOf 147 = 3 from by kernel_rfl] at h2
  simp at h2
  obtain ⟨x2, hx2a, hxq, hx2b⟩ := ent3_rowExpr m _ _ (fun fu v y hfu' hq => ihExpr fu v y (by omega) hq) h2
  refine ⟨⟨xs0, z1, x2⟩, rfl, hxq, fun j hj => ?_⟩
  rcases j with _ | _ | _ | _ | _ | j
  · exact ⟨_, rfl, r0⟩
  · exact ⟨_, rfl, .num _⟩
  · obtain ⟨u, hu, hr⟩ := hx2b 0 (by omega)
    refine ⟨u, hu, ?_⟩
    rw [show dGet (rowF ⟨xs0, z1, x2⟩) 2 = dGet (rowE x2) 0 from by cases x2; rfl]
    exact hr
  · obtain ⟨u, hu, hr⟩ := hx2b 1 (by omega)
    refine ⟨u, hu, ?_⟩
    rw [show dGet (rowF ⟨xs0, z1, x2⟩) 3 = dGet (rowE x2) 1 from by cases x2; rfl]
    exact hr
  · obtain ⟨u, hu, hr⟩ := hx2b 2 (by omega)
    refine ⟨u, hu, ?_⟩
    rw [show dGet (rowF ⟨xs0, z1, x2⟩) 4 = dGet (rowE x2) 2 from by cases x2; rfl]
    exact hr
  · omega
theorem ent4_Func (fuel : Nat) (v : Value) (y : DataW H × List MemPlace) (h : DataW.trod enc Tryz.prog w base (fun _ => true) held fuel 37 [v] = some y) : ∃ a n c xs, v = .slice a n c ∧ Rd w (fun _ => True) (encFuncs xs) (.slice a n c) ∧ fitP xs := by
  obtain ⟨a, n, c, rfl, hnc, hm, hel⟩ := ent2_slice 5 (by omega) Tryz.underlying37 (by kernel_rfl) h
  rcases Nat.eq_zero_or_pos n with rfl | hn
  · exact ⟨a, 0, c, [], rfl, .nil _ _ _, fun i hi => absurd hi (by simp)⟩
  obtain ⟨b, o, rfl, hel2⟩ := hel hn
  obtain ⟨l, hl, hp⟩ := ent_choose n (fun i (d : FuncL) => (rowF d).length = 5 ∧ allE fitN d.body ∧ ∀ j, j < 5 → ∃ u, w.cell? ⟨b, o + i * 5 + j, none⟩ = some u ∧ Rd w (fun _ => True) (dGet (rowF d) j) u) (fun i hi => by
    obtain ⟨cs, fu, y, hfu, hlen, hcell, hy⟩ := hel2 i hi
    obtain ⟨d, h1, hq, h2⟩ := ent4_rowFunc fu cs y (fun fu v y _ hq => ent2_Int fu v y hq) (fun fu v y _ hq => ent3_Expr fu v y hq) hy
    exact ⟨d, h1, hq, fun j hj => by rw [hcell j hj]; exact h2 j hj⟩) (default : FuncL)
  refine ⟨_, n, c, l, rfl, ?_, fun i hi => by rw [fAt_get hi]; have := (hp i (by omega)).2.1; simpa [List.getD, List.getElem?_eq_getElem hi] using this⟩
  refine ent2_build (s := 5) (rows := (l.map rowF)) (by omega) (by rw [funcs_len]; exact hl) hn hnc hm (fun i hi => ?_)
  have hg : rGet (l.map rowF) i = rowF (fAt l i) := by rw [rGet_lt (by rw [funcs_len]; omega), fAt_get (by omega)]; simp
  rw [hg]
  refine ⟨(hp i hi).1, fun j hj => ?_⟩
  rw [rAt, hg]
  exact (hp i hi).2.2 j hj

set_option maxRecDepth 100000 in
theorem ent4_valProgram {r : Reach} {b0 : Nat} {v : Value} {d : DataW H} {p : List MemPlace} (hv : Value.okWide Tryz.prog w r b0 39 v) (h : DataW.Trod enc Tryz.prog w base (fun _ => true) held 39 v d p) :
    ∃ (ds : List DeclL) (fs : List FuncL) (a : Option Addr) (n c : Nat) (a' : Option Addr) (n' c' : Nat), v = .agg #[.slice a n c, .slice a' n' c'] ∧ Rd w (fun _ => True) (encDecls ds) (.slice a n c) ∧ Rd w (fun _ => True) (encFuncs fs) (.slice a' n' c') ∧ fitP fs := by
  obtain ⟨cs, rfl, hsz⟩ := okWide_struct Tryz.underlying39 hv
  rw [show Tryz.prog.cellsOf 39 = 2 from by kernel_rfl] at hsz
  obtain ⟨fuel, hf⟩ := h
  obtain ⟨u0, u1, e⟩ := len2 (l := cs.toList) (by simpa using hsz)
  replace hf : DataW.trod enc Tryz.prog w base (fun _ => true) held fuel 39 cs.toList = some (d, p) := hf
  rw [e] at hf
  obtain ⟨ys, m, hfu, _, hcl, hyl, hg⟩ := DataW.trod_struct Tryz.underlying39 hf
  have h0 := hg 0 _ rfl
  have h1 := hg 1 _ rfl
  obtain ⟨y0, y1, rfl⟩ := len2 (l := ys) (by rw [hyl]; rfl)
  simp at h0 h1
  rw [show Tryz.prog.cellsOf 22 = 1 from by kernel_rfl] at h0
  rw [show Tryz.prog.cellsOf 37 = 1 from by kernel_rfl] at h1
  simp at h0 h1
  obtain ⟨a, n, c, ds, rfl, r0⟩ := ent2_Decl _ _ _ h0
  obtain ⟨a', n', c', fs, rfl, r1, hq⟩ := ent4_Func _ _ _ h1
  exact ⟨ds, fs, a, n, c, a', n', c', by rw [← Array.toArray_toList (xs := cs), e], r0, r1, hq⟩
end
end Go.Proofs.YtkapldpmjkdmcaaGreat
