/- The exact law FnExactValidProgram: the walk. -/
import Derived.Test.YtbknmljfnjlieaaValidProg
import Derived.Test.YtbknmljfnjlieaaUSz
import Derived.Test.YtbknmljfnjlieaaUToS
import Derived.Test.YtbknmljfnjlieaaUEq
import Derived.Deep.RegionHeld3
namespace Go.Proofs.Ytbknmljfnjlieaa
open Go.RowKit

set_option linter.unusedVariables false
set_option maxRecDepth 100000 in
set_option maxHeartbeats 4000000 in
theorem fnExactValidProgram_walk (ds : List DeclL) (fs : List FuncL) (a0 : Option Addr) (n0 c0 : Nat) (a1 : Option Addr) (n1 c1 : Nat) (w : World) (r0 : Rd w (fun _ => True) (encDecls ds) (.slice a0 n0 c0)) (r1 : Rd w (fun _ => True) (encFuncs fs) (.slice a1 n1 c1)) (hfit : fitP fs) :
    Calls Try.prog 4 #[.agg #[.slice a0 n0 c0, .slice a1 n1 c1]] w fun e w' => e = .returned (.bool true) ∧ Keep w w' := by
  refine calls_k fun Q hQ => ?_
  have K0 := Keep.al w (.cells #[.slice a0 n0 c0, .slice a1 n1 c1] 25)
  by_cases hs : (1048576 : Int) < ((szD (encDecls ds) + szD (encFuncs fs) : Nat) : Int)
  · have V : Hid (szo (szD (encDecls ds) + szD (encFuncs fs)) 1048576 = -1) := szo_no (by omega)
    have s0 := r0.k K0
    have s1 := r1.k K0
    go_enter Try.func4, Try.ntmps4
    go_wp2_with fail
    refine (szProgram _ _ _ _ _ _ _ _ _ _ _ s0 s1 (szDeclS _) (szFuncS _) (by omega) (by omega)).mono ?_
    rw [V.out]
    rintro e w1 ⟨rfl, p1⟩
    go_wp2_with fail
    exact fin_ hQ ⟨rfl, K0.trans p1⟩
  have hz0 : szD (encDecls ds) ≤ 1048576 := by omega
  have hz1 : szD (encFuncs fs) ≤ 1048576 := by omega
  have V : Hid (szo (szD (encDecls ds) + szD (encFuncs fs)) 1048576 = 1048576 - ((szD (encDecls ds) : Int) + (szD (encFuncs fs) : Int))) := by show _ = _; rw [szo_yes (by omega)]; omega
  have t0 : 0 ≤ 1048576 - ((szD (encDecls ds) : Int) + (szD (encFuncs fs) : Int)) := by omega
  clear hs
  have HFT := Lib.hid hfit
  clear hfit
  have bk : Keep (w.alloc (.cells #[.slice a0 n0 c0, .slice a1 n1 c1] 25)) (w.alloc (.cells #[.slice a0 n0 c0, .slice a1 n1 c1] 25)) := Ext.refl _ _
  have s0 := r0.k K0
  have s1 := r1.k K0
  go_enter Try.func4, Try.ntmps4
  go_wp2_with fail
  refine (szProgram _ _ _ _ _ _ _ _ _ _ _ s0 s1 (szDeclS _) (szFuncS _) (by omega) (by omega)).mono ?_
  rw [V.out]
  rintro e w1 ⟨rfl, p1⟩
  replace bk := bk.trans p1
  replace s0 := s0.k p1
  replace s1 := s1.k p1
  clear V
  have x0 := boxk bk 0
  have x1 := boxk bk 1
  simp at x0 x1
  go_wp2_with fail
  refine (toProgram _ _ _ _ _ _ _ _ _ _ s0 hz0 s1 hz1 (toDeclS _) (toFuncS _)).mono ?_
  rintro e w2 ⟨b0q, b1q, rfl, tsq, pq⟩
  have g0q := (tsq.get 0 _ _ rfl rfl).read
  have g1q := (tsq.get 1 _ _ rfl rfl).read
  clear tsq
  replace bk := bk.trans pq
  replace s0 := s0.k pq
  replace s1 := s1.k pq
  go_wp2_with fail
  refine (specValidProgram _ _ _ _ _ _ _ _ _ _ _ g0q g1q).mono ?_
  rintro e w3 ⟨rfl, p3⟩
  replace bk := bk.trans p3
  replace s0 := s0.k p3
  replace s1 := s1.k p3
  clear g0q g1q
  clear x0 x1
  have x0 := boxk bk 0
  have x1 := boxk bk 1
  simp at x0 x1
  go_wp2_with fail
  refine (toProgram _ _ _ _ _ _ _ _ _ _ s0 hz0 s1 hz1 (toDeclS _) (toFuncS _)).mono ?_
  rintro e w4 ⟨b0x, b1x, rfl, tsx, px⟩
  have g0x := (tsx.get 0 _ _ rfl rfl).read
  have g1x := (tsx.get 1 _ _ rfl rfl).read
  have k4 := Keep.al w4 (.cells #[.slice b0x n0 n0, .slice b1x n1 n1] 36)
  clear tsx
  have bx : Keep (w4.alloc (.cells #[.slice b0x n0 n0, .slice b1x n1 n1] 36)) (w4.alloc (.cells #[.slice b0x n0 n0, .slice b1x n1 n1] 36)) := Ext.refl _ _
  replace bk := bk.trans px
  replace s0 := s0.k px
  replace s1 := s1.k px
  replace bk := bk.trans k4
  replace s0 := s0.k k4
  replace s1 := s1.k k4
  replace g0x := g0x.k k4
  replace g1x := g1x.k k4
  clear x0 x1
  go_wp2_with fail
  refine (implValidProgram _ _ _ _ _ _ _ _ _ _ _ g0x g1x HFT.out).mono ?_
  rintro e w5 ⟨rfl, p5⟩
  replace bk := bk.trans p5
  replace s0 := s0.k p5
  replace s1 := s1.k p5
  replace g0x := g0x.k p5
  replace g1x := g1x.k p5
  replace bx := bx.trans p5
  have x0 := boxk bk 0
  have x1 := boxk bk 1
  simp at x0 x1
  have y0 := boxk bx 0
  have y1 := boxk bx 1
  simp at y0 y1
  have s0d := s0.k (w' := w5.drew) (Ext.refl (fun _ => False) w5).drew
  have g0d := g0x.k (w' := w5.drew) (Ext.refl (fun _ => False) w5).drew
  have s1d := s1.k (w' := w5.drew) (Ext.refl (fun _ => False) w5).drew
  have g1d := g1x.k (w' := w5.drew) (Ext.refl (fun _ => False) w5).drew
  go_wp2_with fail
  go_region_held3 (fun w' => w'.cell? ⟨w.heap.size, 0, none⟩ = some (.slice a0 n0 c0) ∧ w'.cell? ⟨w.heap.size, 1, none⟩ = some (.slice a1 n1 c1) ∧ w'.cell? ⟨w4.heap.size, 0, none⟩ = some (.slice b0x n0 n0) ∧ w'.cell? ⟨w4.heap.size, 1, none⟩ = some (.slice b1x n1 n1))
    (first | exact ⟨Keep.at (pa.trans pb) x0, Keep.at (pa.trans pb) x1, Keep.at (pa.trans pb) y0, Keep.at (pa.trans pb) y1⟩ | exact ⟨Keep.at pa x0, Keep.at pa x1, Keep.at pa y0, Keep.at pa y1⟩ | go_keep)
    (first
      | (go_at_call 13; refine (toProgram _ _ _ _ _ _ _ _ _ _ s0d hz0 s1d hz1 (toDeclS _) (toFuncS _)).mono ?_; rintro e wa ⟨b0a, b1a, rfl, tsa, pa⟩)
      | (go_at_call 17; refine (eqProgram _ _ _ _ _ _ _ _ _ _ _ _ _ _ _ _ _ (g0d.k pa) ((tsa.get 0 _ _ rfl rfl).read) (g1d.k pa) ((tsa.get 1 _ _ rfl rfl).read) (eqDeclS _) (eqFuncS _)).mono ?_; rintro e wb ⟨rfl, pb⟩))
  go_wp2_with fail
  exact fin_ hQ ⟨rfl, (((K0.trans bk).drew).trans pa).trans pb⟩
end Go.Proofs.Ytbknmljfnjlieaa
