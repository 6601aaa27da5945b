/- The exact law on NodesOf: the walk. -/
import Derived.Test.YtpebcclabaennaaNodes
import Derived.Test.YtpebcclabaennaaUSz
import Derived.Test.YtpebcclabaennaaUToS
import Derived.Test.YtpebcclabaennaaUEq
import Derived.Deep.RegionHeld3
namespace Go.Proofs.Ytpebcclabaennaa
open Go.RowKit

set_option maxRecDepth 100000 in
set_option maxHeartbeats 4000000 in
theorem fnExactNodesOf_walk (op num : Int) (es : List ExprL) (a : Option Addr) (n c : Nat) (w : World) (h : Rd w (fun _ => True) (encExprs es) (.slice a n c)) :
    Calls Try.prog 3 #[.agg #[.int .i64 op, .int .i64 num, .slice a n c]] w fun e w' => e = .returned (.bool true) ∧ Keep w w' := by
  refine calls_k fun Q hQ => ?_
  have K0 := Keep.al w (.cells #[.int .i64 op, .int .i64 num, .slice a n c] 24)
  by_cases hs : (1048576 : Int) < (szD (encExprs es) : Int)
  · have V : Hid (szo (szD (encExprs es)) 1048576 = -1) := szo_no (by omega)
    go_enter Try.func3, Try.ntmps3
    go_wp2_with fail
    refine (szExpr _ _ _ _ _ _ _ _ _ (h.k K0) (szExprS _) (by omega) (by omega)).mono ?_
    rw [V.out]
    rintro e w1 ⟨rfl, p1⟩
    go_wp2_with fail
    exact fin_ hQ ⟨rfl, K0.trans p1⟩
  have hz : szD (encExprs es) ≤ 1048576 := by omega
  have V : Hid (szo (szD (encExprs es)) 1048576 = 1048576 - (szD (encExprs es) : Int)) := szo_yes (by omega)
  have t0 : 0 ≤ 1048576 - (szD (encExprs es) : Int) := by omega
  have bk : Keep (w.alloc (.cells #[.int .i64 op, .int .i64 num, .slice a n c] 24)) (w.alloc (.cells #[.int .i64 op, .int .i64 num, .slice a n c] 24)) := Ext.refl _ _
  have s0 := h.k K0
  go_enter Try.func3, Try.ntmps3
  go_wp2_with fail
  refine (szExpr _ _ _ _ _ _ _ _ _ s0 (szExprS _) (by omega) (by omega)).mono ?_
  rw [V.out]
  rintro e w1 ⟨rfl, p1⟩
  replace bk := bk.trans p1
  replace s0 := s0.k p1
  have x0 := boxk bk 0
  have x1 := boxk bk 1
  have x2 := boxk bk 2
  simp at x0 x1 x2
  go_wp2_with fail
  refine (toExpr _ _ _ _ _ _ _ _ s0 hz (toExprS _)).mono ?_
  rintro e w2 ⟨b2, rfl, ts2, p2⟩
  have r2 := (ts2.get 2 _ _ rfl rfl).read
  clear ts2
  replace bk := bk.trans p2
  replace s0 := s0.k p2
  go_wp2_with fail
  refine (specNodesOf _ _ _ _ _ _ _ _ r2).mono ?_
  rintro e w3 ⟨rfl, p3⟩
  replace bk := bk.trans p3
  replace s0 := s0.k p3
  clear x0 x1 x2 r2
  have x0 := boxk bk 0
  have x1 := boxk bk 1
  have x2 := boxk bk 2
  simp at x0 x1 x2
  go_wp2_with fail
  refine (toExpr _ _ _ _ _ _ _ _ s0 hz (toExprS _)).mono ?_
  rintro e w4 ⟨b4, rfl, ts4, p4⟩
  have r4 := (ts4.get 2 _ _ rfl rfl).read
  have k4 := Keep.al w4 (.cells #[.int .i64 op, .int .i64 num, .slice b4 n n] 29)
  replace bk := (bk.trans p4).trans k4
  replace s0 := (s0.k p4).k k4
  replace r4 := r4.k k4
  clear ts4 x0 x1 x2
  have bk5 : Keep (w4.alloc (.cells #[.int .i64 op, .int .i64 num, .slice b4 n n] 29)) (w4.alloc (.cells #[.int .i64 op, .int .i64 num, .slice b4 n n] 29)) := Ext.refl _ _
  go_wp2_with fail
  refine (implNodesOf _ _ _ _ _ _ _ _ r4).mono ?_
  rintro e w5 ⟨rfl, p5⟩
  replace bk := bk.trans p5
  replace bk5 := bk5.trans p5
  replace s0 := s0.k p5
  replace r4 := r4.k p5
  have x0 := boxk bk 0
  have x1 := boxk bk 1
  have x2 := boxk bk 2
  have y0 := boxk bk5 0
  have y1 := boxk bk5 1
  have y2 := boxk bk5 2
  simp at x0 x1 x2 y0 y1 y2
  have s0d := s0.k (w' := w5.drew) (Ext.refl (fun _ => False) w5).drew
  have r4d := r4.k (w' := w5.drew) (Ext.refl (fun _ => False) w5).drew
  go_wp2_with fail
  go_region_held3 (fun w' => w'.cell? ⟨w.heap.size, 0, none⟩ = some (.int .i64 op) ∧ w'.cell? ⟨w.heap.size, 1, none⟩ = some (.int .i64 num) ∧ w'.cell? ⟨w.heap.size, 2, none⟩ = some (.slice a n c) ∧ w'.cell? ⟨w4.heap.size, 0, none⟩ = some (.int .i64 op) ∧ w'.cell? ⟨w4.heap.size, 1, none⟩ = some (.int .i64 num) ∧ w'.cell? ⟨w4.heap.size, 2, none⟩ = some (.slice b4 n n))
    (first | exact ⟨Keep.at (p6.trans p7) x0, Keep.at (p6.trans p7) x1, Keep.at (p6.trans p7) x2, Keep.at (p6.trans p7) y0, Keep.at (p6.trans p7) y1, Keep.at (p6.trans p7) y2⟩ | exact ⟨p6.at x0, p6.at x1, p6.at x2, p6.at y0, p6.at y1, p6.at y2⟩ | go_keep)
    (first
      | (go_at_call 18; refine (toExpr _ _ _ _ _ _ _ _ s0d hz (toExprS _)).mono ?_; rintro e w6 ⟨b6, rfl, ts6, p6⟩)
      | (go_at_call 20; refine (eqExpr _ _ _ _ _ _ _ _ _ _ _ _ (r4d.k p6) ((ts6.get 2 _ _ rfl rfl).read) (eqExprS _)).mono ?_; rintro e w7 ⟨rfl, p7⟩))
  go_wp2_with fail
  exact fin_ hQ ⟨rfl, (((K0.trans bk).drew).trans p6).trans p7⟩
end Go.Proofs.Ytpebcclabaennaa
