/- Shift of the reference. -/
import Derived.Test.YtpebcclabaennaaShift3
import Derived.Test.YtpebcclabaennaaNodes
namespace Go.Proofs.Ytpebcclabaennaa
open Go.RowKit

def shOk (k d op num : Int) (es : List ExprL) : Bool := decide (nEs es + 1 ≤ 30) && decide (0 ≤ k ∧ k ≤ 99) && decide (0 ≤ d ∧ d ≤ 99) && (vfN op num && vfEs es)
/-- What Shift returns. -/
def shR (k d op num : Int) (es : List ExprL) : ExprL := if shOk k d op num es then shE k d (.mk op num es) else .mk 0 0 []

set_option maxRecDepth 100000 in
set_option maxHeartbeats 2000000 in
theorem specShift0 (k d op num : Int) (es : List ExprL) (a : Option Addr) (n c : Nat) (D : Nat → Prop) (w : World) (h : Rd w D (encExprs es) (.slice a n c)) :
    Calls Try.prog 28 #[.agg #[.int .i64 op, .int .i64 num, .slice a n c], .int .i64 k, .int .i64 d] w fun r w' =>
      ∃ a' n' c', r = .returned (.tuple #[.agg #[.int .i64 (shR k d op num es).op, .int .i64 (shR k d op num es).num, .slice a' n' c'], .bool (shOk k d op num es)]) ∧ Rd w' (fun q => w.heap.size ≤ q) (encExprs (shR k d op num es).kids) (.slice a' n' c') ∧ Keep w w' := by
  refine calls_k fun Q hQ => ?_
  have K0 := (Keep.al w (.cells #[.int .i64 op, .int .i64 num, .slice a n c] 29)).trans (Keep.al _ (.cells #[.int .i64 0, .int .i64 0, .slice none 0 0] 29))
  have R0 := (rowOf w #[.int .i64 op, .int .i64 num, .slice a n c] 29).alloc (.cells #[.int .i64 0, .int .i64 0, .slice none 0 0] 29)
  have R1 := rowOf (w.alloc (.cells #[.int .i64 op, .int .i64 num, .slice a n c] 29)) #[.int .i64 0, .int .i64 0, .slice none 0 0] 29
  simp only [World.size_alloc] at R1
  have hws : w.heap.size ≤ ((w.alloc (.cells #[.int .i64 op, .int .i64 num, .slice a n c] 29)).alloc (.cells #[.int .i64 0, .int .i64 0, .slice none 0 0] 29)).heap.size := by simp; omega
  have q0 := h.k K0
  by_cases hl : nEs es + 1 ≤ 30
  case neg =>
    have V : Hid (shOk k d op num es = false) := by show _ = _; rw [shOk, decide_eq_false hl]; rfl
    have V1 := Lib.hid (nodesL_no hl)
    clear hl
    go_enter Try.func28, Try.ntmps28
    go_wp2_with fail
    refine (specNodesOf0 _ _ _ _ _ _ _ _ q0).mono ?_
    rw [V1.out]
    rintro e w1 ⟨rfl, p1⟩
    have u0 : w1.cell? ⟨w.heap.size + 1, 0, none⟩ = some (.int .i64 0) := (row_ext R1 p1 (fun h => h)).cell (i := 0) (by simp)
    have f0 := (row_ext R1 p1 (fun h => h)).frozen 0
    have u1 : w1.cell? ⟨w.heap.size + 1, 1, none⟩ = some (.int .i64 0) := (row_ext R1 p1 (fun h => h)).cell (i := 1) (by simp)
    have f1 := (row_ext R1 p1 (fun h => h)).frozen 1
    have u2 : w1.cell? ⟨w.heap.size + 1, 2, none⟩ = some (.slice none 0 0) := (row_ext R1 p1 (fun h => h)).cell (i := 2) (by simp)
    have f2 := (row_ext R1 p1 (fun h => h)).frozen 2
    have X := ((((Ext.refl (fun q => q = w.heap.size + 1) w1).setCell (p := ⟨w.heap.size + 1, 0, none⟩) (.inr rfl) (.int .i64 0)).setCell (p := ⟨w.heap.size + 1, 1, none⟩) (.inr rfl) (.int .i64 0)).setCell (p := ⟨w.heap.size + 1, 2, none⟩) (.inr rfl) (.slice none 0 0))
    have KF := Lib.hid ((K0.trans p1).then_ X (fun q hq e => by omega))
    clear X R0 R1 K0
    go_wp2_with fail
    refine bodyPost_ret (v := .tuple #[.agg #[.int .i64 0, .int .i64 0, .slice none 0 0], .bool false]) (by simp [results, Try.results28, go_sem, u0, u1, u2]) rfl (fin_ hQ ⟨none, 0, 0, ?_, ?_, KF.out⟩)
    · rw [shR, V.out]; rfl
    · rw [shR, V.out]; exact .nil 3 none 0
  have V1 := Lib.hid (nodesL_yes hl)
  have VL := Lib.hid (decide_eq_true hl)
  have hnn : ¬ ((nEs es + 1 : Nat) : Int) < 0 := by omega
  generalize hm : nEs es + 1 = m at V1 hnn
  clear hm
  cases vk : decide (0 ≤ k ∧ k ≤ 99)
  · have V : Hid (shOk k d op num es = false) := by show _ = _; rw [shOk, vk, Bool.and_false]; rfl
    have VK := Lib.hid vk
    clear vk hl
    go_enter Try.func28, Try.ntmps28
    go_wp2_with fail
    refine (specNodesOf0 _ _ _ _ _ _ _ _ q0).mono ?_
    rw [V1.out]
    rintro e w1 ⟨rfl, p1⟩
    go_wp2_with fail
    refine (specInRange _ _ _ _).mono ?_
    rw [VK.out]
    rintro e wz ⟨rfl, rfl⟩
    have u0 : w1.cell? ⟨w.heap.size + 1, 0, none⟩ = some (.int .i64 0) := (row_ext R1 p1 (fun h => h)).cell (i := 0) (by simp)
    have f0 := (row_ext R1 p1 (fun h => h)).frozen 0
    have u1 : w1.cell? ⟨w.heap.size + 1, 1, none⟩ = some (.int .i64 0) := (row_ext R1 p1 (fun h => h)).cell (i := 1) (by simp)
    have f1 := (row_ext R1 p1 (fun h => h)).frozen 1
    have u2 : w1.cell? ⟨w.heap.size + 1, 2, none⟩ = some (.slice none 0 0) := (row_ext R1 p1 (fun h => h)).cell (i := 2) (by simp)
    have f2 := (row_ext R1 p1 (fun h => h)).frozen 2
    have X := ((((Ext.refl (fun q => q = w.heap.size + 1) w1).setCell (p := ⟨w.heap.size + 1, 0, none⟩) (.inr rfl) (.int .i64 0)).setCell (p := ⟨w.heap.size + 1, 1, none⟩) (.inr rfl) (.int .i64 0)).setCell (p := ⟨w.heap.size + 1, 2, none⟩) (.inr rfl) (.slice none 0 0))
    have KF := Lib.hid ((K0.trans p1).then_ X (fun q hq e => by omega))
    clear X R0 R1 K0
    go_wp2_with fail
    refine bodyPost_ret (v := .tuple #[.agg #[.int .i64 0, .int .i64 0, .slice none 0 0], .bool false]) (by simp [results, Try.results28, go_sem, u0, u1, u2]) rfl (fin_ hQ ⟨none, 0, 0, ?_, ?_, KF.out⟩)
    · rw [shR, V.out]; rfl
    · rw [shR, V.out]; exact .nil 3 none 0
  have VK := Lib.hid vk
  clear vk
  cases vd : decide (0 ≤ d ∧ d ≤ 99)
  · have V : Hid (shOk k d op num es = false) := by show _ = _; rw [shOk, vd, Bool.and_false]; rfl
    have VD := Lib.hid vd
    clear vd hl
    go_enter Try.func28, Try.ntmps28
    go_wp2_with fail
    refine (specNodesOf0 _ _ _ _ _ _ _ _ q0).mono ?_
    rw [V1.out]
    rintro e w1 ⟨rfl, p1⟩
    go_wp2_with fail
    refine (specInRange _ _ _ _).mono ?_
    rw [VK.out]
    rintro e wz ⟨rfl, rfl⟩
    go_wp2_with fail
    refine (specInRange _ _ _ _).mono ?_
    rw [VD.out]
    rintro e wz ⟨rfl, rfl⟩
    have u0 : w1.cell? ⟨w.heap.size + 1, 0, none⟩ = some (.int .i64 0) := (row_ext R1 p1 (fun h => h)).cell (i := 0) (by simp)
    have f0 := (row_ext R1 p1 (fun h => h)).frozen 0
    have u1 : w1.cell? ⟨w.heap.size + 1, 1, none⟩ = some (.int .i64 0) := (row_ext R1 p1 (fun h => h)).cell (i := 1) (by simp)
    have f1 := (row_ext R1 p1 (fun h => h)).frozen 1
    have u2 : w1.cell? ⟨w.heap.size + 1, 2, none⟩ = some (.slice none 0 0) := (row_ext R1 p1 (fun h => h)).cell (i := 2) (by simp)
    have f2 := (row_ext R1 p1 (fun h => h)).frozen 2
    have X := ((((Ext.refl (fun q => q = w.heap.size + 1) w1).setCell (p := ⟨w.heap.size + 1, 0, none⟩) (.inr rfl) (.int .i64 0)).setCell (p := ⟨w.heap.size + 1, 1, none⟩) (.inr rfl) (.int .i64 0)).setCell (p := ⟨w.heap.size + 1, 2, none⟩) (.inr rfl) (.slice none 0 0))
    have KF := Lib.hid ((K0.trans p1).then_ X (fun q hq e => by omega))
    clear X R0 R1 K0
    go_wp2_with fail
    refine bodyPost_ret (v := .tuple #[.agg #[.int .i64 0, .int .i64 0, .slice none 0 0], .bool false]) (by simp [results, Try.results28, go_sem, u0, u1, u2]) rfl (fin_ hQ ⟨none, 0, 0, ?_, ?_, KF.out⟩)
    · rw [shR, V.out]; rfl
    · rw [shR, V.out]; exact .nil 3 none 0
  have VD := Lib.hid vd
  clear vd
  cases vv : (vfN op num && vfEs es)
  · have V : Hid (shOk k d op num es = false) := by show _ = _; rw [shOk, vv, Bool.and_false]
    have VV := Lib.hid vv
    clear vv hl
    go_enter Try.func28, Try.ntmps28
    go_wp2_with fail
    refine (specNodesOf0 _ _ _ _ _ _ _ _ q0).mono ?_
    rw [V1.out]
    rintro e w1 ⟨rfl, p1⟩
    have x0 : w1.cell? ⟨w.heap.size, 0, none⟩ = some (.int .i64 op) := (row_ext R0 p1 (fun h => h)).cell (i := 0) (by simp)
    have x1 : w1.cell? ⟨w.heap.size, 1, none⟩ = some (.int .i64 num) := (row_ext R0 p1 (fun h => h)).cell (i := 1) (by simp)
    have x2 : w1.cell? ⟨w.heap.size, 2, none⟩ = some (.slice a n c) := (row_ext R0 p1 (fun h => h)).cell (i := 2) (by simp)
    go_wp2_with fail
    refine (specInRange _ _ _ _).mono ?_
    rw [VK.out]
    rintro e wz ⟨rfl, rfl⟩
    go_wp2_with fail
    refine (specInRange _ _ _ _).mono ?_
    rw [VD.out]
    rintro e wz ⟨rfl, rfl⟩
    go_wp2_with fail
    refine (specVarsFit_n _ _ _ _ (Nat.lt_succ_self _) _ _ _ _ _ (q0.k p1)).mono ?_
    rw [VV.out]
    rintro e w2 ⟨rfl, p2⟩
    clear x0 x1 x2
    have u0 : w2.cell? ⟨w.heap.size + 1, 0, none⟩ = some (.int .i64 0) := (row_ext R1 (p1.trans p2) (fun h => h)).cell (i := 0) (by simp)
    have f0 := (row_ext R1 (p1.trans p2) (fun h => h)).frozen 0
    have u1 : w2.cell? ⟨w.heap.size + 1, 1, none⟩ = some (.int .i64 0) := (row_ext R1 (p1.trans p2) (fun h => h)).cell (i := 1) (by simp)
    have f1 := (row_ext R1 (p1.trans p2) (fun h => h)).frozen 1
    have u2 : w2.cell? ⟨w.heap.size + 1, 2, none⟩ = some (.slice none 0 0) := (row_ext R1 (p1.trans p2) (fun h => h)).cell (i := 2) (by simp)
    have f2 := (row_ext R1 (p1.trans p2) (fun h => h)).frozen 2
    have X := ((((Ext.refl (fun q => q = w.heap.size + 1) w2).setCell (p := ⟨w.heap.size + 1, 0, none⟩) (.inr rfl) (.int .i64 0)).setCell (p := ⟨w.heap.size + 1, 1, none⟩) (.inr rfl) (.int .i64 0)).setCell (p := ⟨w.heap.size + 1, 2, none⟩) (.inr rfl) (.slice none 0 0))
    have KF := Lib.hid ((K0.trans (p1.trans p2)).then_ X (fun q hq e => by omega))
    clear X R0 R1 K0
    go_wp2_with fail
    refine bodyPost_ret (v := .tuple #[.agg #[.int .i64 0, .int .i64 0, .slice none 0 0], .bool false]) (by simp [results, Try.results28, go_sem, u0, u1, u2]) rfl (fin_ hQ ⟨none, 0, 0, ?_, ?_, KF.out⟩)
    · rw [shR, V.out]; rfl
    · rw [shR, V.out]; exact .nil 3 none 0
  have VV := Lib.hid vv
  clear vv
  have V : Hid (shOk k d op num es = true) := by show _ = _; rw [shOk, VL.out, VK.out, VD.out, VV.out]; rfl
  have hsz : nE (.mk op num es) ≤ 1000000 := by rw [nE]; omega
  clear hl
  go_enter Try.func28, Try.ntmps28
  go_wp2_with fail
  refine (specNodesOf0 _ _ _ _ _ _ _ _ q0).mono ?_
  rw [V1.out]
  rintro e w1 ⟨rfl, p1⟩
  have x0 : w1.cell? ⟨w.heap.size, 0, none⟩ = some (.int .i64 op) := (row_ext R0 p1 (fun h => h)).cell (i := 0) (by simp)
  have x1 : w1.cell? ⟨w.heap.size, 1, none⟩ = some (.int .i64 num) := (row_ext R0 p1 (fun h => h)).cell (i := 1) (by simp)
  have x2 : w1.cell? ⟨w.heap.size, 2, none⟩ = some (.slice a n c) := (row_ext R0 p1 (fun h => h)).cell (i := 2) (by simp)
  go_wp2_with fail
  refine (specInRange _ _ _ _).mono ?_
  rw [VK.out]
  rintro e wz ⟨rfl, rfl⟩
  go_wp2_with fail
  refine (specInRange _ _ _ _).mono ?_
  rw [VD.out]
  rintro e wz ⟨rfl, rfl⟩
  go_wp2_with fail
  refine (specVarsFit_n _ _ _ _ (Nat.lt_succ_self _) _ _ _ _ _ (q0.k p1)).mono ?_
  rw [VV.out]
  rintro e w2 ⟨rfl, p2⟩
  clear x0 x1 x2
  have x0 : w2.cell? ⟨w.heap.size, 0, none⟩ = some (.int .i64 op) := (row_ext R0 (p1.trans p2) (fun h => h)).cell (i := 0) (by simp)
  have x1 : w2.cell? ⟨w.heap.size, 1, none⟩ = some (.int .i64 num) := (row_ext R0 (p1.trans p2) (fun h => h)).cell (i := 1) (by simp)
  have x2 : w2.cell? ⟨w.heap.size, 2, none⟩ = some (.slice a n c) := (row_ext R0 (p1.trans p2) (fun h => h)).cell (i := 2) (by simp)
  go_wp2_with fail
  refine (specShift k d (.mk op num es) hsz _ _ _ _ _ ((q0.k p1).k p2)).mono ?_
  rintro e w3 ⟨a', n', c', rfl, r3, p3⟩
  have hw2 : w.heap.size ≤ w2.heap.size := Nat.le_trans hws (p1.trans p2).size
  have u0 : w3.cell? ⟨w.heap.size + 1, 0, none⟩ = some (.int .i64 0) := (row_ext R1 ((p1.trans p2).trans p3) (fun h => h)).cell (i := 0) (by simp)
  have f0 := (row_ext R1 ((p1.trans p2).trans p3) (fun h => h)).frozen 0
  have u1 : w3.cell? ⟨w.heap.size + 1, 1, none⟩ = some (.int .i64 0) := (row_ext R1 ((p1.trans p2).trans p3) (fun h => h)).cell (i := 1) (by simp)
  have f1 := (row_ext R1 ((p1.trans p2).trans p3) (fun h => h)).frozen 1
  have u2 : w3.cell? ⟨w.heap.size + 1, 2, none⟩ = some (.slice none 0 0) := (row_ext R1 ((p1.trans p2).trans p3) (fun h => h)).cell (i := 2) (by simp)
  have f2 := (row_ext R1 ((p1.trans p2).trans p3) (fun h => h)).frozen 2
  have X := ((((Ext.refl (fun q => q = w.heap.size + 1) w3).setCell (p := ⟨w.heap.size + 1, 0, none⟩) (.inr rfl) (.int .i64 (shE k d (.mk op num es)).op)).setCell (p := ⟨w.heap.size + 1, 1, none⟩) (.inr rfl) (.int .i64 (shE k d (.mk op num es)).num)).setCell (p := ⟨w.heap.size + 1, 2, none⟩) (.inr rfl) (.slice a' n' c'))
  have hsW : w.heap.size + 2 ≤ w2.heap.size := by have := (p1.trans p2).size; simp at this; omega
  have r4 := (r3.ext X (fun q hq e => by omega)).mono (D' := fun q => w.heap.size ≤ q) (fun q hq => Nat.le_trans hw2 hq)
  have KF := Lib.hid ((K0.trans ((p1.trans p2).trans p3)).then_ X (fun q hq e => by omega))
  clear X R0 R1 K0 r3 x0 x1 x2
  go_wp2_with fail
  refine bodyPost_ret (v := .tuple #[.agg #[.int .i64 (shE k d (.mk op num es)).op, .int .i64 (shE k d (.mk op num es)).num, .slice a' n' c'], .bool true]) (by simp [results, Try.results28, go_sem, u0, u1, u2]) rfl (fin_ hQ ⟨a', n', c', ?_, ?_, KF.out⟩)
  · rw [shR, V.out]; rfl
  · rw [shR, V.out]; exact r4
end Go.Proofs.Ytpebcclabaennaa
