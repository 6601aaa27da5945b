/- shift of the reference, whole. -/
import Derived.Test.YtpebcclabaennaaShift1
import Derived.Test.YtpebcclabaennaaOwn2
namespace Go.Proofs.Ytpebcclabaennaa
open Go.RowKit

theorem frozen_keep {w w' : World} (p : Keep w.drew w') {q : Addr} {v : Value} (h : w.cell? q = some v) (hf : w.frozen? q = false) : w'.frozen? q = false := by
  have hb : q.block < w.drew.heap.size := World.block_lt_of_cell? _ _ h
  rw [p.frozen hb (fun h => h)]; exact hf

set_option maxRecDepth 100000 in
set_option maxHeartbeats 2000000 in
theorem specShift_n (k d : Int) (N : Nat) : ∀ e : ExprL, nE e < N → nE e ≤ 1000000 → ShC k d e := by
  induction N with
  | zero => intro e h; omega
  | succ N ihN =>
  intro e hN hsz
  obtain ⟨op, num, es⟩ := e
  intro a n c D w h
  have he := nE_eq (.mk op num es)
  have IH := Lib.hid (fun (j : Nat) (hj : j < es.length) => ihN (eAt es j) (by have := nE_le es hj; have e : ExprL.kids (.mk op num es) = es := rfl; rw [e] at he; omega) (by have := nE_le es hj; have e : ExprL.kids (.mk op num es) = es := rfl; rw [e] at he; omega))
  have hn : n ≤ 1000000 := by
    have := (exprs_at h).1
    have h2 := nEs_len es
    have e : ExprL.kids (.mk op num es) = es := rfl
    rw [e] at he this
    omega
  clear ihN he hsz hN
  refine calls_k fun Q hQ => ?_
  change Rd w D (encExprs es) _ at h
  simp only [ExprL.op, ExprL.num]
  have K0 := (Keep.al w (.cells #[.int .i64 op, .int .i64 num, .slice a n c] 29)).trans (Keep.al _ (.cells #[.int .i64 0, .int .i64 0, .slice none 0 0] 29))
  have R0 := (rowOf w #[.int .i64 op, .int .i64 num, .slice a n c] 29).alloc (.cells #[.int .i64 0, .int .i64 0, .slice none 0 0] 29)
  have R1 := rowOf (w.alloc (.cells #[.int .i64 op, .int .i64 num, .slice a n c] 29)) #[.int .i64 0, .int .i64 0, .slice none 0 0] 29
  simp only [World.size_alloc] at R1
  have x0 : ((w.alloc (.cells #[.int .i64 op, .int .i64 num, .slice a n c] 29)).alloc (.cells #[.int .i64 0, .int .i64 0, .slice none 0 0] 29)).cell? ⟨w.heap.size, 0, none⟩ = some (.int .i64 op) := R0.cell (i := 0) (by simp)
  have x1 : ((w.alloc (.cells #[.int .i64 op, .int .i64 num, .slice a n c] 29)).alloc (.cells #[.int .i64 0, .int .i64 0, .slice none 0 0] 29)).cell? ⟨w.heap.size, 1, none⟩ = some (.int .i64 num) := R0.cell (i := 1) (by simp)
  have x2 : ((w.alloc (.cells #[.int .i64 op, .int .i64 num, .slice a n c] 29)).alloc (.cells #[.int .i64 0, .int .i64 0, .slice none 0 0] 29)).cell? ⟨w.heap.size, 2, none⟩ = some (.slice a n c) := R0.cell (i := 2) (by simp)
  have u0 : ((w.alloc (.cells #[.int .i64 op, .int .i64 num, .slice a n c] 29)).alloc (.cells #[.int .i64 0, .int .i64 0, .slice none 0 0] 29)).cell? ⟨w.heap.size + 1, 0, none⟩ = some (.int .i64 0) := R1.cell (i := 0) (by simp)
  have u1 : ((w.alloc (.cells #[.int .i64 op, .int .i64 num, .slice a n c] 29)).alloc (.cells #[.int .i64 0, .int .i64 0, .slice none 0 0] 29)).cell? ⟨w.heap.size + 1, 1, none⟩ = some (.int .i64 0) := R1.cell (i := 1) (by simp)
  have u2 : ((w.alloc (.cells #[.int .i64 op, .int .i64 num, .slice a n c] 29)).alloc (.cells #[.int .i64 0, .int .i64 0, .slice none 0 0] 29)).cell? ⟨w.heap.size + 1, 2, none⟩ = some (.slice none 0 0) := R1.cell (i := 2) (by simp)
  have f0 := R1.frozen 0
  have f1 := R1.frozen 1
  have f2 := R1.frozen 2
  by_cases h1 : op = 12
  · by_cases h2 : k ≤ num
    · have V : Hid (shN k d op num = wrap64 (num + d)) := if_pos ⟨h1, h2⟩
      have h1' : (op == 12) = true := by simpa using h1
      clear h1
      go_enter Try.func76, Try.ntmps76
      go_wp2_with fail
      have hsz : ((w.alloc (.cells #[.int .i64 op, .int .i64 num, .slice a n c] 29)).alloc (.cells #[.int .i64 0, .int .i64 0, .slice none 0 0] 29)).heap.size = w.heap.size + 2 := by simp
      generalize ((w.alloc (.cells #[.int .i64 op, .int .i64 num, .slice a n c] 29)).alloc (.cells #[.int .i64 0, .int .i64 0, .slice none 0 0] 29)) = W at *
      have q2 := (h.k K0).k (w' := W.drew) (Ext.refl (fun _ => False) _).drew
      have KD := Lib.hid K0.drew
      have hs2 : w.heap.size ≤ W.drew.heap.size := by show w.heap.size ≤ W.heap.size; omega
      clear R0 R1 K0 h x1
      go_region_held3 (fun w' => w'.cell? ⟨w.heap.size, 0, none⟩ = some (.int .i64 op) ∧ w'.cell? ⟨w.heap.size, 2, none⟩ = some (.slice a n c))
        (first | exact ⟨Keep.at p1 x0, Keep.at p1 x2⟩ | go_keep)
        ((go_at_call 119; refine (specShiftAll_of k d es IH.out _ _ _ _ _ q2 hn).mono ?_; rintro e w1 ⟨a', n', c', rfl, r1, p1⟩; have v0 := Keep.at p1 u0; have v1 := Keep.at p1 u1; have v2 := Keep.at p1 u2; have g0 := frozen_keep p1 u0 f0; have g1 := frozen_keep p1 u1 f1; have g2 := frozen_keep p1 u2 f2))
      have X := ((((Ext.refl (fun q => q = w.heap.size + 1) w1).setCell (p := ⟨w.heap.size + 1, 0, none⟩) (.inr rfl) (.int .i64 op)).setCell (p := ⟨w.heap.size + 1, 1, none⟩) (.inr rfl) (.int .i64 (wrap64 (num + d)))).setCell (p := ⟨w.heap.size + 1, 2, none⟩) (.inr rfl) (.slice a' n' c'))
      have r2 := (r1.ext X (fun q hq e => by change W.heap.size ≤ q at hq; omega)).mono (D' := fun q => w.heap.size ≤ q) (fun q hq => Nat.le_trans hs2 hq)
      have KF := Lib.hid ((KD.out.trans p1).then_ X (fun q hq e => by omega))
      clear X
      go_wp2_with fail
      refine bodyPost_ret (v := .agg #[.int .i64 op, .int .i64 (wrap64 (num + d)), .slice a' n' c']) (by simp [results, Try.results76, go_sem, v0, v1, v2]) rfl (fin_ hQ ⟨a', n', c', ?_, ?_, KF.out⟩)
      · rw [shE_eq]
        show _ = Ending.returned (.agg #[.int .i64 op, .int .i64 (shN k d op num), .slice a' n' c'])
        rw [V.out]
      · rw [shE_eq]; exact r2
    · have V : Hid (shN k d op num = num) := if_neg (fun h => h2 h.2)
      have h1' : (op == 12) = true := by simpa using h1
      clear h1
      go_enter Try.func76, Try.ntmps76
      go_wp2_with fail
      have hsz : ((w.alloc (.cells #[.int .i64 op, .int .i64 num, .slice a n c] 29)).alloc (.cells #[.int .i64 0, .int .i64 0, .slice none 0 0] 29)).heap.size = w.heap.size + 2 := by simp
      generalize ((w.alloc (.cells #[.int .i64 op, .int .i64 num, .slice a n c] 29)).alloc (.cells #[.int .i64 0, .int .i64 0, .slice none 0 0] 29)) = W at *
      have q2 := (h.k K0).k (w' := W.drew) (Ext.refl (fun _ => False) _).drew
      have KD := Lib.hid K0.drew
      have hs2 : w.heap.size ≤ W.drew.heap.size := by show w.heap.size ≤ W.heap.size; omega
      clear R0 R1 K0 h x1
      go_region_held3 (fun w' => w'.cell? ⟨w.heap.size, 0, none⟩ = some (.int .i64 op) ∧ w'.cell? ⟨w.heap.size, 2, none⟩ = some (.slice a n c))
        (first | exact ⟨Keep.at p1 x0, Keep.at p1 x2⟩ | go_keep)
        ((go_at_call 119; refine (specShiftAll_of k d es IH.out _ _ _ _ _ q2 hn).mono ?_; rintro e w1 ⟨a', n', c', rfl, r1, p1⟩; have v0 := Keep.at p1 u0; have v1 := Keep.at p1 u1; have v2 := Keep.at p1 u2; have g0 := frozen_keep p1 u0 f0; have g1 := frozen_keep p1 u1 f1; have g2 := frozen_keep p1 u2 f2))
      have X := ((((Ext.refl (fun q => q = w.heap.size + 1) w1).setCell (p := ⟨w.heap.size + 1, 0, none⟩) (.inr rfl) (.int .i64 op)).setCell (p := ⟨w.heap.size + 1, 1, none⟩) (.inr rfl) (.int .i64 num)).setCell (p := ⟨w.heap.size + 1, 2, none⟩) (.inr rfl) (.slice a' n' c'))
      have r2 := (r1.ext X (fun q hq e => by change W.heap.size ≤ q at hq; omega)).mono (D' := fun q => w.heap.size ≤ q) (fun q hq => Nat.le_trans hs2 hq)
      have KF := Lib.hid ((KD.out.trans p1).then_ X (fun q hq e => by omega))
      clear X
      go_wp2_with fail
      refine bodyPost_ret (v := .agg #[.int .i64 op, .int .i64 num, .slice a' n' c']) (by simp [results, Try.results76, go_sem, v0, v1, v2]) rfl (fin_ hQ ⟨a', n', c', ?_, ?_, KF.out⟩)
      · rw [shE_eq]
        show _ = Ending.returned (.agg #[.int .i64 op, .int .i64 (shN k d op num), .slice a' n' c'])
        rw [V.out]
      · rw [shE_eq]; exact r2
  · have V : Hid (shN k d op num = num) := if_neg (fun h => h1 h.1)
    have h1' : (op == 12) = false := by simpa using h1
    clear h1
    go_enter Try.func76, Try.ntmps76
    go_wp2_with fail
    have hsz : ((w.alloc (.cells #[.int .i64 op, .int .i64 num, .slice a n c] 29)).alloc (.cells #[.int .i64 0, .int .i64 0, .slice none 0 0] 29)).heap.size = w.heap.size + 2 := by simp
    generalize ((w.alloc (.cells #[.int .i64 op, .int .i64 num, .slice a n c] 29)).alloc (.cells #[.int .i64 0, .int .i64 0, .slice none 0 0] 29)) = W at *
    have q2 := (h.k K0).k (w' := W.drew) (Ext.refl (fun _ => False) _).drew
    have KD := Lib.hid K0.drew
    have hs2 : w.heap.size ≤ W.drew.heap.size := by show w.heap.size ≤ W.heap.size; omega
    clear R0 R1 K0 h x1
    go_region_held3 (fun w' => w'.cell? ⟨w.heap.size, 0, none⟩ = some (.int .i64 op) ∧ w'.cell? ⟨w.heap.size, 2, none⟩ = some (.slice a n c))
      (first | exact ⟨Keep.at p1 x0, Keep.at p1 x2⟩ | go_keep)
      ((go_at_call 119; refine (specShiftAll_of k d es IH.out _ _ _ _ _ q2 hn).mono ?_; rintro e w1 ⟨a', n', c', rfl, r1, p1⟩; have v0 := Keep.at p1 u0; have v1 := Keep.at p1 u1; have v2 := Keep.at p1 u2; have g0 := frozen_keep p1 u0 f0; have g1 := frozen_keep p1 u1 f1; have g2 := frozen_keep p1 u2 f2))
    have X := ((((Ext.refl (fun q => q = w.heap.size + 1) w1).setCell (p := ⟨w.heap.size + 1, 0, none⟩) (.inr rfl) (.int .i64 op)).setCell (p := ⟨w.heap.size + 1, 1, none⟩) (.inr rfl) (.int .i64 num)).setCell (p := ⟨w.heap.size + 1, 2, none⟩) (.inr rfl) (.slice a' n' c'))
    have r2 := (r1.ext X (fun q hq e => by change W.heap.size ≤ q at hq; omega)).mono (D' := fun q => w.heap.size ≤ q) (fun q hq => Nat.le_trans hs2 hq)
    have KF := Lib.hid ((KD.out.trans p1).then_ X (fun q hq e => by omega))
    clear X
    go_wp2_with fail
    refine bodyPost_ret (v := .agg #[.int .i64 op, .int .i64 num, .slice a' n' c']) (by simp [results, Try.results76, go_sem, v0, v1, v2]) rfl (fin_ hQ ⟨a', n', c', ?_, ?_, KF.out⟩)
    · rw [shE_eq]
      show _ = Ending.returned (.agg #[.int .i64 op, .int .i64 (shN k d op num), .slice a' n' c'])
      rw [V.out]
    · rw [shE_eq]; exact r2

theorem specShift (k d : Int) (e : ExprL) (h : nE e ≤ 1000000) : ShC k d e := specShift_n k d _ e (Nat.lt_succ_self _) h
end Go.Proofs.Ytpebcclabaennaa
