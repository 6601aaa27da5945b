/- The exact law FnExactMentionsOf: the walk. -/
import Derived.Test.YtpebcclabaennaaMentions
import Derived.Test.YtpebcclabaennaaUSz
import Derived.Test.YtpebcclabaennaaUToS
import Derived.Test.YtpebcclabaennaaUEq
import Derived.Deep.RegionHeld3
namespace Go.Proofs.Ytpebcclabaennaa
open Go.RowKit

set_option linter.unusedVariables false
set_option maxRecDepth 100000 in
set_option maxHeartbeats 4000000 in
theorem fnExactMentionsOf_walk (op num : Int) (es : List ExprL) (a2 : Option Addr) (n2 c2 : Nat) (z0 : Int) (w : World) (r2 : Rd w (fun _ => True) (encExprs es) (.slice a2 n2 c2)) (lz0 : -9223372036854775808 ≤ z0) (uz0 : z0 ≤ 9223372036854775807) :
    Calls Try.prog 4 #[.agg #[.int .i64 op, .int .i64 num, .slice a2 n2 c2], .int .i64 z0] w fun e w' => e = .returned (.bool true) ∧ Keep w w' := by
  refine calls_k fun Q hQ => ?_
  have K0 := Keep.al w (.cells #[.int .i64 op, .int .i64 num, .slice a2 n2 c2] 24)
  by_cases hs : (1048576 : Int) < ((szD (encExprs es) : Nat) : Int)
  · have V : Hid (szo (szD (encExprs es)) 1048576 = -1) := szo_no (by omega)
    have s2 := r2.k K0
    go_enter Try.func4, Try.ntmps4
    go_wp2_with fail
    refine (szExpr _ _ _ _ _ _ _ _ _ s2 (szExprS _) (by omega) (by omega)).mono ?_
    rw [V.out]
    rintro e w1 ⟨rfl, p1⟩
    go_wp2_with fail
    exact fin_ hQ ⟨rfl, K0.trans p1⟩
  have hz2 : szD (encExprs es) ≤ 1048576 := by omega
  have V : Hid (szo (szD (encExprs es)) 1048576 = 1048576 - (szD (encExprs es) : Int)) := szo_yes (by omega)
  have t0 : 0 ≤ 1048576 - ((szD (encExprs es) : Int)) := by omega
  clear hs
  have bk : Keep (w.alloc (.cells #[.int .i64 op, .int .i64 num, .slice a2 n2 c2] 24)) (w.alloc (.cells #[.int .i64 op, .int .i64 num, .slice a2 n2 c2] 24)) := Ext.refl _ _
  have s2 := r2.k K0
  go_enter Try.func4, Try.ntmps4
  go_wp2_with fail
  refine (szExpr _ _ _ _ _ _ _ _ _ s2 (szExprS _) (by omega) (by omega)).mono ?_
  rw [V.out]
  rintro e w1 ⟨rfl, p1⟩
  replace bk := bk.trans p1
  replace s2 := s2.k p1
  clear V t0
  have x0 := boxk bk 0
  have x1 := boxk bk 1
  have x2 := boxk bk 2
  simp at x0 x1 x2
  go_wp2_with fail
  refine (toExpr _ _ _ _ _ _ _ _ s2 hz2 (toExprS _)).mono ?_
  rintro e w2 ⟨b2q, rfl, tsq, pq⟩
  have g2q := (tsq.get 2 _ _ rfl rfl).read
  clear tsq
  replace bk := bk.trans pq
  replace s2 := s2.k pq
  go_wp2_with fail
  refine (specMentionsOf _ _ _ _ _ _ _ _ _ g2q).mono ?_
  rintro e w3 ⟨rfl, p3⟩
  replace bk := bk.trans p3
  replace s2 := s2.k p3
  clear g2q
  clear x0 x1 x2
  have x0 := boxk bk 0
  have x1 := boxk bk 1
  have x2 := boxk bk 2
  simp at x0 x1 x2
  go_wp2_with fail
  refine (toExpr _ _ _ _ _ _ _ _ s2 hz2 (toExprS _)).mono ?_
  rintro e w4 ⟨b2x, rfl, tsx, px⟩
  have g2x := (tsx.get 2 _ _ rfl rfl).read
  have k4 := Keep.al w4 (.cells #[.int .i64 op, .int .i64 num, .slice b2x n2 n2] 29)
  clear tsx
  have bx : Keep (w4.alloc (.cells #[.int .i64 op, .int .i64 num, .slice b2x n2 n2] 29)) (w4.alloc (.cells #[.int .i64 op, .int .i64 num, .slice b2x n2 n2] 29)) := Ext.refl _ _
  replace bk := bk.trans px
  replace s2 := s2.k px
  replace bk := bk.trans k4
  replace s2 := s2.k k4
  replace g2x := g2x.k k4
  clear x0 x1 x2
  go_wp2_with fail
  refine (implMentionsOf _ _ _ _ _ _ _ _ _ g2x).mono ?_
  rintro e w5 ⟨rfl, p5⟩
  replace bk := bk.trans p5
  replace s2 := s2.k p5
  replace g2x := g2x.k p5
  replace bx := bx.trans p5
  have x0 := boxk bk 0
  have x1 := boxk bk 1
  have x2 := boxk bk 2
  simp at x0 x1 x2
  have y0 := boxk bx 0
  have y1 := boxk bx 1
  have y2 := boxk bx 2
  simp at y0 y1 y2
  have s2d := s2.k (w' := w5.drew) (Ext.refl (fun _ => False) w5).drew
  have g2d := g2x.k (w' := w5.drew) (Ext.refl (fun _ => False) w5).drew
  go_wp2_with fail
  go_region_held3 (fun w' => w'.cell? ⟨w.heap.size, 0, none⟩ = some (.int .i64 op) ∧ w'.cell? ⟨w.heap.size, 1, none⟩ = some (.int .i64 num) ∧ w'.cell? ⟨w.heap.size, 2, none⟩ = some (.slice a2 n2 c2) ∧ w'.cell? ⟨w4.heap.size, 0, none⟩ = some (.int .i64 op) ∧ w'.cell? ⟨w4.heap.size, 1, none⟩ = some (.int .i64 num) ∧ w'.cell? ⟨w4.heap.size, 2, none⟩ = some (.slice b2x n2 n2))
    (first | exact ⟨Keep.at (pa.trans pb) x0, Keep.at (pa.trans pb) x1, Keep.at (pa.trans pb) x2, Keep.at (pa.trans pb) y0, Keep.at (pa.trans pb) y1, Keep.at (pa.trans pb) y2⟩ | exact ⟨Keep.at pa x0, Keep.at pa x1, Keep.at pa x2, Keep.at pa y0, Keep.at pa y1, Keep.at pa y2⟩ | go_keep)
    (first
      | (go_at_call 18; refine (toExpr _ _ _ _ _ _ _ _ s2d hz2 (toExprS _)).mono ?_; rintro e wa ⟨b2a, rfl, tsa, pa⟩)
      | (go_at_call 20; refine (eqExpr _ _ _ _ _ _ _ _ _ _ _ _ (g2d.k pa) ((tsa.get 2 _ _ rfl rfl).read) (eqExprS _)).mono ?_; rintro e wb ⟨rfl, pb⟩))
  go_wp2_with fail
  exact fin_ hQ ⟨rfl, (((K0.trans bk).drew).trans pa).trans pb⟩
end Go.Proofs.Ytpebcclabaennaa
