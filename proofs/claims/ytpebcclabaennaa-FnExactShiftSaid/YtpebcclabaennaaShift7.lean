/- Shift of the program. -/
import Derived.Test.YtpebcclabaennaaShift4
import Derived.Test.YtpebcclabaennaaShift5
import Derived.Test.YtpebcclabaennaaShift6
import Derived.Test.YtpebcclabaennaaMentions
namespace Go.Proofs.Ytpebcclabaennaa
open Go.RowKit

theorem shOk_no {k d op num : Int} {es : List ExprL} (h : ¬ (nEs es + 1 ≤ 30) ∨ ¬ (0 ≤ k ∧ k ≤ 99) ∨ ¬ (0 ≤ d ∧ d ≤ 99) ∨ (vfN op num && vfEs es) = false) : shOk k d op num es = false := by
  rcases h with h | h | h | h
  · rw [shOk, decide_eq_false h]; rfl
  · rw [shOk, decide_eq_false h]; simp
  · rw [shOk, decide_eq_false h]; simp
  · rw [shOk, h]; simp

set_option maxRecDepth 100000 in
set_option maxHeartbeats 4000000 in
theorem implShift0 (k d op num : Int) (es : List ExprL) (a : Option Addr) (n c : Nat) (D : Nat → Prop) (w : World) (h : Rd w D (encExprs es) (.slice a n c)) :
    Calls Try.prog 29 #[.agg #[.int .i64 op, .int .i64 num, .slice a n c], .int .i64 k, .int .i64 d] w fun r w' =>
      ∃ a' n' c', r = .returned (.tuple #[.agg #[.int .i64 (shR k d op num es).op, .int .i64 (shR k d op num es).num, .slice a' n' c'], .bool (shOk k d op num es)]) ∧ Own w' (fun q => w.heap.size ≤ q) (encExprs (shR k d op num es).kids) (.slice a' n' c') ∧ Keep w w' := by
  refine calls_k fun Q hQ => ?_
  have K0 := (Keep.al w (.cells #[.int .i64 op, .int .i64 num, .slice a n c] 29)).trans (Keep.al _ (.cells #[.int .i64 0, .int .i64 0, .slice none 0 0] 29))
  have R0 := (rowOf w #[.int .i64 op, .int .i64 num, .slice a n c] 29).alloc (.cells #[.int .i64 0, .int .i64 0, .slice none 0 0] 29)
  have R1 := rowOf (w.alloc (.cells #[.int .i64 op, .int .i64 num, .slice a n c] 29)) #[.int .i64 0, .int .i64 0, .slice none 0 0] 29
  simp only [World.size_alloc] at R1
  have q0 := h.lt.k K0
  clear h
  by_cases hl : nEs es + 1 ≤ 30
  case neg =>
    have V := Lib.hid (shOk_no (k := k) (d := d) (op := op) (num := num) (.inl hl))
    have V1 := Lib.hid (nodesL_no hl)
    clear hl
    go_enter Try.func29, Try.ntmps29
    go_wp2_with fail
    refine (implNodesOf _ _ _ _ _ _ _ _ q0).mono ?_
    rw [V1.out]
    rintro e w1 ⟨rfl, p1⟩
    have u0 : w1.cell? ⟨w.heap.size + 1, 0, none⟩ = some (.int .i64 0) := (row_ext R1 (p1) (fun h => h)).cell (i := 0) (by simp)
    have f0 := (row_ext R1 (p1) (fun h => h)).frozen 0
    have u1 : w1.cell? ⟨w.heap.size + 1, 1, none⟩ = some (.int .i64 0) := (row_ext R1 (p1) (fun h => h)).cell (i := 1) (by simp)
    have f1 := (row_ext R1 (p1) (fun h => h)).frozen 1
    have u2 : w1.cell? ⟨w.heap.size + 1, 2, none⟩ = some (.slice none 0 0) := (row_ext R1 (p1) (fun h => h)).cell (i := 2) (by simp)
    have f2 := (row_ext R1 (p1) (fun h => h)).frozen 2
    have X := ((((Ext.refl (fun q => q = w.heap.size + 1) w1).setCell (p := ⟨w.heap.size + 1, 0, none⟩) (.inr rfl) (.int .i64 0)).setCell (p := ⟨w.heap.size + 1, 1, none⟩) (.inr rfl) (.int .i64 0)).setCell (p := ⟨w.heap.size + 1, 2, none⟩) (.inr rfl) (.slice none 0 0))
    have KF := Lib.hid ((K0.trans p1).then_ X (fun q hq e => by omega))
    clear X R0 R1 K0
    go_wp2_with fail
    refine bodyPost_ret (v := .tuple #[.agg #[.int .i64 0, .int .i64 0, .slice none 0 0], .bool false]) (by simp [results, Try.results29, go_sem, u0, u1, u2]) rfl (fin_ hQ ⟨none, 0, 0, ?_, ?_, KF.out⟩)
    · rw [shR, V.out]; rfl
    · rw [shR, V.out]; exact .nil _ 3 none 0
  have V1 := Lib.hid (nodesL_yes hl)
  have hnn : ¬ ((nEs es + 1 : Nat) : Int) < 0 := by omega
  have HLL := Lib.hid hl
  generalize hm : nEs es + 1 = m at V1 hnn
  clear hm hl
  by_cases c0 : k < 0
  case pos =>
    have V := Lib.hid (shOk_no (k := k) (d := d) (op := op) (num := num) (es := es) (.inr (.inl (fun h => by omega))))
    go_enter Try.func29, Try.ntmps29
    go_wp2_with fail
    refine (implNodesOf _ _ _ _ _ _ _ _ q0).mono ?_
    rw [V1.out]
    rintro e w1 ⟨rfl, p1⟩
    have u0 : w1.cell? ⟨w.heap.size + 1, 0, none⟩ = some (.int .i64 0) := (row_ext R1 (p1) (fun h => h)).cell (i := 0) (by simp)
    have f0 := (row_ext R1 (p1) (fun h => h)).frozen 0
    have u1 : w1.cell? ⟨w.heap.size + 1, 1, none⟩ = some (.int .i64 0) := (row_ext R1 (p1) (fun h => h)).cell (i := 1) (by simp)
    have f1 := (row_ext R1 (p1) (fun h => h)).frozen 1
    have u2 : w1.cell? ⟨w.heap.size + 1, 2, none⟩ = some (.slice none 0 0) := (row_ext R1 (p1) (fun h => h)).cell (i := 2) (by simp)
    have f2 := (row_ext R1 (p1) (fun h => h)).frozen 2
    have X := ((((Ext.refl (fun q => q = w.heap.size + 1) w1).setCell (p := ⟨w.heap.size + 1, 0, none⟩) (.inr rfl) (.int .i64 0)).setCell (p := ⟨w.heap.size + 1, 1, none⟩) (.inr rfl) (.int .i64 0)).setCell (p := ⟨w.heap.size + 1, 2, none⟩) (.inr rfl) (.slice none 0 0))
    have KF := Lib.hid ((K0.trans p1).then_ X (fun q hq e => by omega))
    clear X R0 R1 K0
    go_wp2_with fail
    refine bodyPost_ret (v := .tuple #[.agg #[.int .i64 0, .int .i64 0, .slice none 0 0], .bool false]) (by simp [results, Try.results29, go_sem, u0, u1, u2]) rfl (fin_ hQ ⟨none, 0, 0, ?_, ?_, KF.out⟩)
    · rw [shR, V.out]; rfl
    · rw [shR, V.out]; exact .nil _ 3 none 0
  by_cases c1 : 99 < k
  case pos =>
    have V := Lib.hid (shOk_no (k := k) (d := d) (op := op) (num := num) (es := es) (.inr (.inl (fun h => by omega))))
    go_enter Try.func29, Try.ntmps29
    go_wp2_with fail
    refine (implNodesOf _ _ _ _ _ _ _ _ q0).mono ?_
    rw [V1.out]
    rintro e w1 ⟨rfl, p1⟩
    have u0 : w1.cell? ⟨w.heap.size + 1, 0, none⟩ = some (.int .i64 0) := (row_ext R1 (p1) (fun h => h)).cell (i := 0) (by simp)
    have f0 := (row_ext R1 (p1) (fun h => h)).frozen 0
    have u1 : w1.cell? ⟨w.heap.size + 1, 1, none⟩ = some (.int .i64 0) := (row_ext R1 (p1) (fun h => h)).cell (i := 1) (by simp)
    have f1 := (row_ext R1 (p1) (fun h => h)).frozen 1
    have u2 : w1.cell? ⟨w.heap.size + 1, 2, none⟩ = some (.slice none 0 0) := (row_ext R1 (p1) (fun h => h)).cell (i := 2) (by simp)
    have f2 := (row_ext R1 (p1) (fun h => h)).frozen 2
    have X := ((((Ext.refl (fun q => q = w.heap.size + 1) w1).setCell (p := ⟨w.heap.size + 1, 0, none⟩) (.inr rfl) (.int .i64 0)).setCell (p := ⟨w.heap.size + 1, 1, none⟩) (.inr rfl) (.int .i64 0)).setCell (p := ⟨w.heap.size + 1, 2, none⟩) (.inr rfl) (.slice none 0 0))
    have KF := Lib.hid ((K0.trans p1).then_ X (fun q hq e => by omega))
    clear X R0 R1 K0
    go_wp2_with fail
    refine bodyPost_ret (v := .tuple #[.agg #[.int .i64 0, .int .i64 0, .slice none 0 0], .bool false]) (by simp [results, Try.results29, go_sem, u0, u1, u2]) rfl (fin_ hQ ⟨none, 0, 0, ?_, ?_, KF.out⟩)
    · rw [shR, V.out]; rfl
    · rw [shR, V.out]; exact .nil _ 3 none 0
  by_cases c2 : d < 0
  case pos =>
    have V := Lib.hid (shOk_no (k := k) (d := d) (op := op) (num := num) (es := es) (.inr (.inr (.inl (fun h => by omega)))))
    go_enter Try.func29, Try.ntmps29
    go_wp2_with fail
    refine (implNodesOf _ _ _ _ _ _ _ _ q0).mono ?_
    rw [V1.out]
    rintro e w1 ⟨rfl, p1⟩
    have u0 : w1.cell? ⟨w.heap.size + 1, 0, none⟩ = some (.int .i64 0) := (row_ext R1 (p1) (fun h => h)).cell (i := 0) (by simp)
    have f0 := (row_ext R1 (p1) (fun h => h)).frozen 0
    have u1 : w1.cell? ⟨w.heap.size + 1, 1, none⟩ = some (.int .i64 0) := (row_ext R1 (p1) (fun h => h)).cell (i := 1) (by simp)
    have f1 := (row_ext R1 (p1) (fun h => h)).frozen 1
    have u2 : w1.cell? ⟨w.heap.size + 1, 2, none⟩ = some (.slice none 0 0) := (row_ext R1 (p1) (fun h => h)).cell (i := 2) (by simp)
    have f2 := (row_ext R1 (p1) (fun h => h)).frozen 2
    have X := ((((Ext.refl (fun q => q = w.heap.size + 1) w1).setCell (p := ⟨w.heap.size + 1, 0, none⟩) (.inr rfl) (.int .i64 0)).setCell (p := ⟨w.heap.size + 1, 1, none⟩) (.inr rfl) (.int .i64 0)).setCell (p := ⟨w.heap.size + 1, 2, none⟩) (.inr rfl) (.slice none 0 0))
    have KF := Lib.hid ((K0.trans p1).then_ X (fun q hq e => by omega))
    clear X R0 R1 K0
    go_wp2_with fail
    refine bodyPost_ret (v := .tuple #[.agg #[.int .i64 0, .int .i64 0, .slice none 0 0], .bool false]) (by simp [results, Try.results29, go_sem, u0, u1, u2]) rfl (fin_ hQ ⟨none, 0, 0, ?_, ?_, KF.out⟩)
    · rw [shR, V.out]; rfl
    · rw [shR, V.out]; exact .nil _ 3 none 0
  by_cases c3 : 99 < d
  case pos =>
    have V := Lib.hid (shOk_no (k := k) (d := d) (op := op) (num := num) (es := es) (.inr (.inr (.inl (fun h => by omega)))))
    go_enter Try.func29, Try.ntmps29
    go_wp2_with fail
    refine (implNodesOf _ _ _ _ _ _ _ _ q0).mono ?_
    rw [V1.out]
    rintro e w1 ⟨rfl, p1⟩
    have u0 : w1.cell? ⟨w.heap.size + 1, 0, none⟩ = some (.int .i64 0) := (row_ext R1 (p1) (fun h => h)).cell (i := 0) (by simp)
    have f0 := (row_ext R1 (p1) (fun h => h)).frozen 0
    have u1 : w1.cell? ⟨w.heap.size + 1, 1, none⟩ = some (.int .i64 0) := (row_ext R1 (p1) (fun h => h)).cell (i := 1) (by simp)
    have f1 := (row_ext R1 (p1) (fun h => h)).frozen 1
    have u2 : w1.cell? ⟨w.heap.size + 1, 2, none⟩ = some (.slice none 0 0) := (row_ext R1 (p1) (fun h => h)).cell (i := 2) (by simp)
    have f2 := (row_ext R1 (p1) (fun h => h)).frozen 2
    have X := ((((Ext.refl (fun q => q = w.heap.size + 1) w1).setCell (p := ⟨w.heap.size + 1, 0, none⟩) (.inr rfl) (.int .i64 0)).setCell (p := ⟨w.heap.size + 1, 1, none⟩) (.inr rfl) (.int .i64 0)).setCell (p := ⟨w.heap.size + 1, 2, none⟩) (.inr rfl) (.slice none 0 0))
    have KF := Lib.hid ((K0.trans p1).then_ X (fun q hq e => by omega))
    clear X R0 R1 K0
    go_wp2_with fail
    refine bodyPost_ret (v := .tuple #[.agg #[.int .i64 0, .int .i64 0, .slice none 0 0], .bool false]) (by simp [results, Try.results29, go_sem, u0, u1, u2]) rfl (fin_ hQ ⟨none, 0, 0, ?_, ?_, KF.out⟩)
    · rw [shR, V.out]; rfl
    · rw [shR, V.out]; exact .nil _ 3 none 0
  cases vv : (vfN op num && vfEs es)
  · have V := Lib.hid (shOk_no (k := k) (d := d) (op := op) (num := num) (es := es) (.inr (.inr (.inr vv))))
    have VV := Lib.hid vv
    clear vv
    go_enter Try.func29, Try.ntmps29
    go_wp2_with fail
    refine (implNodesOf _ _ _ _ _ _ _ _ q0).mono ?_
    rw [V1.out]
    rintro e w1 ⟨rfl, p1⟩
    have RX := (row_ext R0 p1 (fun h => h)).alloc (.cells #[.bool true] 4)
    have x0 : (w1.alloc (.cells #[.bool true] 4)).cell? ⟨w.heap.size, 0, none⟩ = some (.int .i64 op) := RX.cell (i := 0) (by simp)
    have x1 : (w1.alloc (.cells #[.bool true] 4)).cell? ⟨w.heap.size, 1, none⟩ = some (.int .i64 num) := RX.cell (i := 1) (by simp)
    have x2 : (w1.alloc (.cells #[.bool true] 4)).cell? ⟨w.heap.size, 2, none⟩ = some (.slice a n c) := RX.cell (i := 2) (by simp)
    clear RX
    have sz := p1.size
    simp at sz
    have RV := (rowOf w1 #[.bool true] 4).congr (g := fun _ => .bool true) (fun i hi => by
      obtain rfl : i = 0 := by simpa using hi
      rfl)
    have I0 : VInv w1.heap.size 0 true (w1.alloc (.cells #[.bool true] 4)) := RV
    have q2 := (q0.k p1).k (Keep.al w1 (.cells #[.bool true] 4))
    have PP := Lib.hid (p1.trans (Keep.al w1 (.cells #[.bool true] 4)))
    clear RV q0
    go_wp2_with fail
    refine (walk_n vvis 77 #[.pointer (some ⟨w1.heap.size, 0, none⟩)] (· = w1.heap.size) (VInv w1.heap.size) (fun args w => by kernel_rfl) (fun k s w w' h hk => h.keep hk)
      (fun k s op num a n c w _ h => shClos _ k s op num a n c w h) _ op num es (Nat.lt_succ_self _) 0 true _ _ _ _ _ q2 (fun q hq e => by have := hq.2; omega) (fun q hq => by simp; omega) (by have := HLL.out; omega) I0).mono ?_
    rintro e w2 ⟨rfl, I2, X2⟩
    have v0 := World.rowIs.cell I2 (i := 0) (by omega)
    rw [show visEs vvis es (vvis op num true) = (vfN op num && vfEs es) from by rw [vvisEs, vvis, Bool.true_and], VV.out] at v0
    have PX : Ext (fun q => q = w1.heap.size) w1 w2 := (Keep.to (Keep.al w1 (.cells #[.bool true] 4))).trans X2
    have P2 := p1.then_ PX (fun q hq e => by simp at hq; omega)
    have q3 := q2.ext X2 (fun q hq e => by have := hq.2; omega)
    clear x0 x1 x2
    have u0 : w2.cell? ⟨w.heap.size + 1, 0, none⟩ = some (.int .i64 0) := (row_ext R1 (P2) (fun h => h)).cell (i := 0) (by simp)
    have f0 := (row_ext R1 (P2) (fun h => h)).frozen 0
    have u1 : w2.cell? ⟨w.heap.size + 1, 1, none⟩ = some (.int .i64 0) := (row_ext R1 (P2) (fun h => h)).cell (i := 1) (by simp)
    have f1 := (row_ext R1 (P2) (fun h => h)).frozen 1
    have u2 : w2.cell? ⟨w.heap.size + 1, 2, none⟩ = some (.slice none 0 0) := (row_ext R1 (P2) (fun h => h)).cell (i := 2) (by simp)
    have f2 := (row_ext R1 (P2) (fun h => h)).frozen 2
    have X := ((((Ext.refl (fun q => q = w.heap.size + 1) w2).setCell (p := ⟨w.heap.size + 1, 0, none⟩) (.inr rfl) (.int .i64 0)).setCell (p := ⟨w.heap.size + 1, 1, none⟩) (.inr rfl) (.int .i64 0)).setCell (p := ⟨w.heap.size + 1, 2, none⟩) (.inr rfl) (.slice none 0 0))
    have KF := Lib.hid ((K0.trans P2).then_ X (fun q hq e => by omega))
    clear X R0 R1 K0
    go_wp2_with fail
    refine bodyPost_ret (v := .tuple #[.agg #[.int .i64 0, .int .i64 0, .slice none 0 0], .bool false]) (by simp [results, Try.results29, go_sem, u0, u1, u2]) rfl (fin_ hQ ⟨none, 0, 0, ?_, ?_, KF.out⟩)
    · rw [shR, V.out]; rfl
    · rw [shR, V.out]; exact .nil _ 3 none 0
  have VV := Lib.hid vv
  have V : Hid (shOk k d op num es = true) := by show _ = _; rw [shOk, decide_eq_true HLL.out, decide_eq_true (show 0 ≤ k ∧ k ≤ 99 by omega), decide_eq_true (show 0 ≤ d ∧ d ≤ 99 by omega), vv]; rfl
  have hsz : nE (.mk op num es) ≤ 1000000 := by have := HLL.out; rw [nE]; omega
  clear vv
  go_enter Try.func29, Try.ntmps29
  go_wp2_with fail
  refine (implNodesOf _ _ _ _ _ _ _ _ q0).mono ?_
  rw [V1.out]
  rintro e w1 ⟨rfl, p1⟩
  have RX := (row_ext R0 p1 (fun h => h)).alloc (.cells #[.bool true] 4)
  have x0 : (w1.alloc (.cells #[.bool true] 4)).cell? ⟨w.heap.size, 0, none⟩ = some (.int .i64 op) := RX.cell (i := 0) (by simp)
  have x1 : (w1.alloc (.cells #[.bool true] 4)).cell? ⟨w.heap.size, 1, none⟩ = some (.int .i64 num) := RX.cell (i := 1) (by simp)
  have x2 : (w1.alloc (.cells #[.bool true] 4)).cell? ⟨w.heap.size, 2, none⟩ = some (.slice a n c) := RX.cell (i := 2) (by simp)
  clear RX
  have sz := p1.size
  simp at sz
  have RV := (rowOf w1 #[.bool true] 4).congr (g := fun _ => .bool true) (fun i hi => by
    obtain rfl : i = 0 := by simpa using hi
    rfl)
  have I0 : VInv w1.heap.size 0 true (w1.alloc (.cells #[.bool true] 4)) := RV
  have q2 := (q0.k p1).k (Keep.al w1 (.cells #[.bool true] 4))
  have PP := Lib.hid (p1.trans (Keep.al w1 (.cells #[.bool true] 4)))
  clear RV q0
  go_wp2_with fail
  refine (walk_n vvis 77 #[.pointer (some ⟨w1.heap.size, 0, none⟩)] (· = w1.heap.size) (VInv w1.heap.size) (fun args w => by kernel_rfl) (fun k s w w' h hk => h.keep hk)
    (fun k s op num a n c w _ h => shClos _ k s op num a n c w h) _ op num es (Nat.lt_succ_self _) 0 true _ _ _ _ _ q2 (fun q hq e => by have := hq.2; omega) (fun q hq => by simp; omega) (by have := HLL.out; omega) I0).mono ?_
  rintro e w2 ⟨rfl, I2, X2⟩
  have v0 := World.rowIs.cell I2 (i := 0) (by omega)
  rw [show visEs vvis es (vvis op num true) = (vfN op num && vfEs es) from by rw [vvisEs, vvis, Bool.true_and], VV.out] at v0
  have PX : Ext (fun q => q = w1.heap.size) w1 w2 := (Keep.to (Keep.al w1 (.cells #[.bool true] 4))).trans X2
  have P2 := p1.then_ PX (fun q hq e => by simp at hq; omega)
  have q3 := q2.ext X2 (fun q hq e => by have := hq.2; omega)
  clear x0 x1 x2
  have x0 : w2.cell? ⟨w.heap.size, 0, none⟩ = some (.int .i64 op) := (row_ext R0 P2 (fun h => h)).cell (i := 0) (by simp)
  have x1 : w2.cell? ⟨w.heap.size, 1, none⟩ = some (.int .i64 num) := (row_ext R0 P2 (fun h => h)).cell (i := 1) (by simp)
  have x2 : w2.cell? ⟨w.heap.size, 2, none⟩ = some (.slice a n c) := (row_ext R0 P2 (fun h => h)).cell (i := 2) (by simp)
  have Z2 := P2.size
  simp at Z2
  go_wp2_with fail
  refine (implShifted k d (.mk op num es) hsz _ _ _ _ _ q3).mono ?_
  rintro e w3 ⟨a', n', c', rfl, r3, p3⟩
  have u0 : w3.cell? ⟨w.heap.size + 1, 0, none⟩ = some (.int .i64 0) := (row_ext R1 (P2.trans p3) (fun h => h)).cell (i := 0) (by simp)
  have f0 := (row_ext R1 (P2.trans p3) (fun h => h)).frozen 0
  have u1 : w3.cell? ⟨w.heap.size + 1, 1, none⟩ = some (.int .i64 0) := (row_ext R1 (P2.trans p3) (fun h => h)).cell (i := 1) (by simp)
  have f1 := (row_ext R1 (P2.trans p3) (fun h => h)).frozen 1
  have u2 : w3.cell? ⟨w.heap.size + 1, 2, none⟩ = some (.slice none 0 0) := (row_ext R1 (P2.trans p3) (fun h => h)).cell (i := 2) (by simp)
  have f2 := (row_ext R1 (P2.trans p3) (fun h => h)).frozen 2
  have X := ((((Ext.refl (fun q => q = w.heap.size + 1) w3).setCell (p := ⟨w.heap.size + 1, 0, none⟩) (.inr rfl) (.int .i64 (shE k d (.mk op num es)).op)).setCell (p := ⟨w.heap.size + 1, 1, none⟩) (.inr rfl) (.int .i64 (shE k d (.mk op num es)).num)).setCell (p := ⟨w.heap.size + 1, 2, none⟩) (.inr rfl) (.slice a' n' c'))
  have KF := Lib.hid ((K0.trans (P2.trans p3)).then_ X (fun q hq e => by omega))
  have r4 := Lib.hid ((r3.ext X (fun q hq e => by omega)).mono (D' := fun q => w.heap.size ≤ q) (fun q hq => by omega))
  clear X R0 R1 K0 r3 x0 x1 x2
  go_wp2_with fail
  refine bodyPost_ret (v := .tuple #[.agg #[.int .i64 (shE k d (.mk op num es)).op, .int .i64 (shE k d (.mk op num es)).num, .slice a' n' c'], .bool true]) (by simp [results, Try.results29, go_sem, u0, u1, u2]) rfl (fin_ hQ ⟨a', n', c', ?_, ?_, KF.out⟩)
  · rw [shR, V.out]; rfl
  · rw [shR, V.out]; exact r4.out
end Go.Proofs.Ytpebcclabaennaa
