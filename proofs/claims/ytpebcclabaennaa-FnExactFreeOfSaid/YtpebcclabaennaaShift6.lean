/- shifted of the program: a fresh copy. -/
import Derived.Test.YtpebcclabaennaaShift2
import Derived.Test.YtpebcclabaennaaAppT
import Derived.Deep.RegionHeld3
namespace Go.Proofs.Ytpebcclabaennaa
open Go.RowKit

/-- What shifted of the program does for one expression. -/
def ShI (k d : Int) (e : ExprL) : Prop := ∀ (a : Option Addr) (n c : Nat) (D : Nat → Prop) (w : World), Rd w D (encExprs e.kids) (.slice a n c) →
  Calls Try.prog 78 #[.agg #[.int .i64 e.op, .int .i64 e.num, .slice a n c], .int .i64 k, .int .i64 d] w fun r w' =>
    ∃ a' n' c', r = .returned (.agg #[.int .i64 (shE k d e).op, .int .i64 (shE k d e).num, .slice a' n' c']) ∧ Own w' (fun q => w.heap.size ≤ q) (encExprs (shE k d e).kids) (.slice a' n' c') ∧ Keep w w'

/-- What holds at the head of the loop over the kids. -/
def ShRel (k d op num : Int) (es : List ExprL) (w : World) (j : Nat) (v : Value) (wr : World) : Prop :=
  wr.rowIs w.heap.size 29 3 (fun i => if i = 2 then v else (#[.int .i64 op, .int .i64 num, .slice none 0 0] : Array Value).getD i undef) ∧
  wr.rowIs (w.heap.size + 1) 29 3 (fun i => (#[.int .i64 0, .int .i64 0, .slice none 0 0] : Array Value).getD i undef) ∧
  Acc wr (w.heap.size + 2) (fun q => w.heap.size + 2 ≤ q ∧ q < wr.heap.size) 29 3 v ((shEs k d (es.take j)).map rowE) ∧ Keep w wr

theorem cell_set {w : World} {p q : Addr} {u v : Value} (h : w.cell? q = some v) (hne : q.block ≠ p.block) : (w.setCell p u).cell? q = some v :=
  (((Ext.refl (fun k => k = p.block) w).setCell (p := p) (.inr rfl) u).cell (World.block_lt_of_cell? _ _ h) hne).trans h
theorem cell_ext {S : Nat → Prop} {w w1 w2 : World} {q : Addr} {v : Value} (hx : Ext S w1 w2) (hs : ¬ S q.block) (h : w.cell? q = some v) (hk : Keep w w1) : w2.cell? q = some v := by
  have h1 := (hk.cell (World.block_lt_of_cell? _ _ h) (fun h => h)).trans h
  exact (hx.cell (World.block_lt_of_cell? _ _ h1) hs).trans h1

theorem acc_val {w : World} {base : Nat} {D : Nat → Prop} {T : TypeId} {s : Nat} {v v' : Value} {rows : List (List Dat)} (e : v = v') (h : Acc w base D T s v rows) : Acc w base D T s v' rows := e ▸ h

theorem ShRel.start (k d op num : Int) (es : List ExprL) (w : World) : ShRel k d op num es w 0 (.slice none 0 0) ((w.alloc (.cells #[.int .i64 op, .int .i64 num, .slice none 0 0] 29)).alloc (.cells #[.int .i64 0, .int .i64 0, .slice none 0 0] 29)) := by
  refine ⟨?_, ?_, Acc.nil _ _ _ _ _, (Keep.al w _).trans (Keep.al _ _)⟩
  · refine ((rowOf w #[.int .i64 op, .int .i64 num, .slice none 0 0] 29).alloc _).congr (fun i hi => ?_)
    rcases (show i = 0 ∨ i = 1 ∨ i = 2 by simp at hi; omega) with rfl | rfl | rfl <;> rfl
  · have h := rowOf (w.alloc (.cells #[.int .i64 op, .int .i64 num, .slice none 0 0] 29)) #[.int .i64 0, .int .i64 0, .slice none 0 0] 29
    simp only [World.size_alloc] at h
    exact h

theorem ShRel.step {k d op num : Int} {es : List ExprL} {w wr w2 : World} {j : Nat} {v v1 : Value} {D' : Nat → Prop} (h : ShRel k d op num es w j v wr) (hj : j < es.length) (hx : Ext (fun q => v.ownBlock = some q) wr w2)
    (hA : Acc w2 (w.heap.size + 2) D' 29 3 v1 ((shEs k d (es.take j)).map rowE ++ [[.num (shE k d (eAt es j)).op, .num (shE k d (eAt es j)).num, encExprs (shE k d (eAt es j)).kids]])) (hD' : ∀ q, D' q → w.heap.size + 2 ≤ q) :
    ShRel k d op num es w (j + 1) v1 (w2.setCell ⟨w.heap.size, 2, none⟩ v1) := by
  obtain ⟨h1, h2, h3, h4⟩ := h
  have hb := h3.bound
  have hn : ∀ q, q ≤ w.heap.size + 1 → ¬ v.ownBlock = some q := fun q hq e => by have := (hb q e).1; omega
  have hX : Ext (fun q => q = w.heap.size) w2 (w2.setCell ⟨w.heap.size, 2, none⟩ v1) := (Ext.refl (fun q => q = w.heap.size) w2).setCell (p := ⟨w.heap.size, 2, none⟩) (.inr rfl) _
  refine ⟨?_, ?_, ?_, ?_⟩
  · refine ((row_ext h1 hx (hn _ (by omega))).set 2 v1).congr (fun i hi => ?_)
    rcases (show i = 0 ∨ i = 1 ∨ i = 2 by omega) with rfl | rfl | rfl <;> rfl
  · exact row_ext (row_ext h2 hx (hn _ (by omega))) hX (by omega)
  · have e : (shEs k d (es.take (j + 1))).map rowE = (shEs k d (es.take j)).map rowE ++ [[.num (shE k d (eAt es j)).op, .num (shE k d (eAt es j)).num, encExprs (shE k d (eAt es j)).kids]] := by
      rw [shEs_take k d es hj, List.map_append, List.map_singleton, rowE_eq]
    rw [e]
    have h5 : Acc w2 (w.heap.size + 2) (fun q => w.heap.size + 2 ≤ q ∧ q < w2.heap.size) 29 3 v1 ((shEs k d (es.take j)).map rowE ++ [[.num (shE k d (eAt es j)).op, .num (shE k d (eAt es j)).num, encExprs (shE k d (eAt es j)).kids]]) := hA.lt.mono (fun q hq => ⟨hD' q hq.1, hq.2⟩)
    exact (h5.ext hX (fun q _ hq e => by rcases hq with hq | hq <;> omega)).mono (fun q hq => ⟨hq.1, Nat.lt_of_lt_of_le hq.2 hX.size⟩)
  · exact (h4.then_ hx (fun q hq e => hn q (by omega) e)).then_ hX (fun q hq e => by omega)

theorem ShRel.done {k d op num : Int} {es : List ExprL} {w wr : World} {j : Nat} {v : Value} (h : ShRel k d op num es w j v wr) (hj : es.length ≤ j) (hm : es.length ≤ 1000000) :
    ∃ a n c, v = .slice a n c ∧ Own wr (fun q => w.heap.size + 2 ≤ q) (encExprs (shEs k d es)) (.slice a n c) ∧ Keep w wr ∧
      (∀ i, i < 3 → wr.cell? ⟨w.heap.size, i, none⟩ = some ((#[.int .i64 op, .int .i64 num, .slice a n c] : Array Value).getD i undef)) ∧
      (∀ i, i < 3 → wr.cell? ⟨w.heap.size + 1, i, none⟩ = some ((#[.int .i64 0, .int .i64 0, .slice none 0 0] : Array Value).getD i undef) ∧ wr.frozen? ⟨w.heap.size + 1, i, none⟩ = false) := by
  obtain ⟨h1, h2, h3, h4⟩ := h
  rw [List.take_of_length_le hj] at h3
  obtain ⟨a, c, rfl, hc, ho⟩ := h3.own (by omega) (by simp [shEs_len]; omega)
  refine ⟨a, _, c, rfl, ?_, h4, fun i hi => ?_, fun i hi => ⟨h2.cell hi, h2.frozen i⟩⟩
  · rw [encExprs, rowsE_map]; exact ho.mono (fun q hq => by rcases hq with hq | hq <;> omega)
  · rw [h1.cell hi]
    rcases (show i = 0 ∨ i = 1 ∨ i = 2 by omega) with rfl | rfl | rfl <;> rfl

set_option maxRecDepth 100000 in
set_option maxHeartbeats 4000000 in
theorem implShifted_n (k d : Int) (N : Nat) : ∀ e : ExprL, nE e < N → nE e ≤ 1000000 → ShI k d e := by
  induction N with
  | zero => intro e h; omega
  | succ N ihN =>
  intro e hN hsz
  obtain ⟨op, num, es⟩ := e
  intro a n c D w h
  have he := nE_eq (.mk op num es)
  have IH := Lib.hid (fun (j : Nat) (hj : j < es.length) => ihN (eAt es j) (by have := nE_le es hj; have e : ExprL.kids (.mk op num es) = es := rfl; rw [e] at he; omega) (by have := nE_le es hj; have e : ExprL.kids (.mk op num es) = es := rfl; rw [e] at he; omega))
  have hlm : es.length ≤ 1000000 := by
    have h2 := nEs_len es
    have e : ExprL.kids (.mk op num es) = es := rfl
    rw [e] at he
    omega
  have hn : n ≤ 1000000 := by
    have h1 := (exprs_at h).1
    have e : ExprL.kids (.mk op num es) = es := rfl
    rw [e] at h1
    omega
  clear ihN he hsz hN
  refine calls_k fun Q hQ => ?_
  change Rd w D (encExprs es) _ at h
  simp only [ExprL.op, ExprL.num]
  obtain ⟨e1, hnc, hm, hat⟩ := exprs_at h
  have HL := Lib.hid e1
  have HA := Lib.hid hat
  clear e1 hat h
  by_cases h1 : op = 12
  · by_cases h2 : k ≤ num
    · have V : Hid (shN k d op num = wrap64 (num + d)) := if_pos ⟨h1, h2⟩
      have h1' : (op == 12) = true := by simpa using h1
      clear h1
      go_enter Try.func78, Try.ntmps78
      go_wp2_with fail
      go_loopw [29] (fun iv wr => ∃ (j : Nat) (v : Value), j ≤ n ∧ iv = .int .i64 j ∧ ShRel k d op (wrap64 (num + d)) es w j v wr) (fun i _ => n - (intOf i).toNat)
      case atStart => exact ⟨0, .slice none 0 0, Nat.zero_le _, rfl, ShRel.start k d op (wrap64 (num + d)) es w⟩
      case round =>
        obtain ⟨j, v, hj, rfl, hR⟩ := hrel
        by_cases hlt : j < n
        · have hR0 := Lib.hid hR
          obtain ⟨RB, _, hB, hK⟩ := hR
          obtain ⟨b, o, rfl, hd, a2, n2, c2, d0, d1, d2, r2⟩ := HA.out j hlt
          have g0 := (hK.cell (World.block_lt_of_cell? w _ d0) (fun h => h)).trans d0
          have g1 := (hK.cell (World.block_lt_of_cell? w _ d1) (fun h => h)).trans d1
          have g2 := (hK.cell (World.block_lt_of_cell? w _ d2) (fun h => h)).trans d2
          have bnd := Lib.hid hB.bound
          have ka := Keep.al wr (.cells #[.int .i64 (eAt es j).op, .int .i64 (eAt es j).num, .slice a2 n2 c2] 29)
          have y2 : (wr.alloc (.cells #[.int .i64 (eAt es j).op, .int .i64 (eAt es j).num, .slice a2 n2 c2] 29)).cell? ⟨w.heap.size, 2, none⟩ = some v := (row_ext RB ka (fun h => h)).cell (i := 2) (by simp)
          have KA := Lib.hid (hB.keep ka)
          have RW := Lib.hid (row_ext RB ka (fun h => h))
          clear d0 d1 d2 RB hB
          go_wp2_with fail
          have lW : (wr.alloc (.cells #[.int .i64 (eAt es j).op, .int .i64 (eAt es j).num, .slice a2 n2 c2] 29)).heap.size = wr.heap.size + 1 := by simp
          generalize hW : wr.alloc (.cells #[.int .i64 (eAt es j).op, .int .i64 (eAt es j).num, .slice a2 n2 c2] 29) = W at *
          have z0 : W.cell? ⟨wr.heap.size, 0, none⟩ = some (.int .i64 (eAt es j).op) := by rw [← hW]; simp
          have z1 : W.cell? ⟨wr.heap.size, 1, none⟩ = some (.int .i64 (eAt es j).num) := by rw [← hW]; simp
          have z2 : W.cell? ⟨wr.heap.size, 2, none⟩ = some (.slice a2 n2 c2) := by rw [← hW]; simp
          have q2 := ((r2.k hK).k ka).k (w' := W.drew) (Ext.refl (fun _ => False) _).drew
          have hBL : w.heap.size + 2 ≤ wr.heap.size := by have := (hR0.out.2.1).lt; omega
          have LW := Lib.hid lW
          have ko := Lib.hid ka
          have NE : Hid (wr.heap.size ≠ w.heap.size) := (by show _ ≠ _; omega)
          clear hW g0 g1 g2 r2 hK lW ka
          go_region_law (first
              | (refine step_call (by rfl) 78 _ _ (by rfl) _ (by rfl) (by kernel_rfl) (IH.out j (by have := HL.out; omega) _ _ _ _ _ q2) ?_; rintro e w1 ⟨a', n', c', rfl, o1, p1⟩; refine ⟨_, rfl, ?_⟩; have y3 := Keep.at p1 y2; have b1 := Keep.al w1 (.cells #[.int .i64 (shE k d (eAt es j)).op, .int .i64 (shE k d (eAt es j)).num, .slice a' n' c'] 29); have y5 := (b1.cell (World.block_lt_of_cell? _ _ y3) (fun h => h)).trans y3; have B1 := Lib.hid b1; have A1 := Lib.hid (((KA.out.keep (w' := W.drew) (Ext.refl (fun _ => False) _).drew).keep p1).keep b1); have S1 : Hid (wr.heap.size + 1 ≤ w1.heap.size) := (by have h1 := p1.size; have h2 := LW.out; change W.heap.size ≤ w1.heap.size at h1; show _ ≤ _; omega); have O1 := Lib.hid (o1.lt.ext b1 (fun _ _ h => h)); have P1 := Lib.hid p1; clear o1 b1 p1)
              | (refine step_appT (by rfl) (.tmp 34) (.tmp 39) 27 (by rfl) (w.heap.size + 2) 29 (.agg #[.int .i64 0, .int .i64 0, .slice none 0 0]) 3 40 Try.underlying27 (by kernel_rfl) (by rfl) (by omega) (fun q => w.heap.size + 2 ≤ q ∧ q < wr.heap.size) (fun q => w.heap.size + 2 ≤ q) (wr.heap.size + 1) w1.heap.size v _ (by rfl) A1.out w1.heap.size 1 [.int .i64 (shE k d (eAt es j)).op, .int .i64 (shE k d (eAt es j)).num, .slice a' n' c'] [.num (shE k d (eAt es j)).op, .num (shE k d (eAt es j)).num, encExprs (shE k d (eAt es j)).kids] (by rfl) (cells_lit w1 _ _) (by simp [Value.oneCell']) (by rfl) (((ToS.one O1.out (fun q h1 h2 => by have := LW.out; change W.heap.size ≤ q ∧ q < w1.heap.size at h1; omega)).consI (by have := S1.out; omega)).consI (by have := S1.out; omega)) (fun q h1 h2 => ⟨by omega, by omega, fun e => by have := (bnd.out q e).2; omega, by simp; omega⟩) (fun q h1 => h1.1) (by simp [shEs_len]; omega) (by simp [shEs_len]; omega) (by simp; have := S1.out; omega) ?_; intro v1 w10 hA xA sA; have H1 := Lib.hid hA; have H2 := Lib.hid xA; have y4 : w10.cell? ⟨w.heap.size, 2, none⟩ = some v := ((xA.cell (World.block_lt_of_cell? _ _ y5) (fun e => by have h1 := (bnd.out _ e).1; change w.heap.size + 2 ≤ w.heap.size at h1; omega)).trans y5); have f4 : w10.frozen? ⟨w.heap.size, 2, none⟩ = false := ((xA.frozen (World.block_lt_of_cell? _ _ y5) (fun e => by have h1 := (bnd.out _ e).1; change w.heap.size + 2 ≤ w.heap.size at h1; omega)).trans (((B1.out.frozen (World.block_lt_of_cell? _ _ y3) (fun h => h))).trans (frozen_keep P1.out y2 (RW.out.frozen 2)))); obtain ⟨av, cv, rfl, _, _⟩ := hA.own (by omega) (by simp [shEs_len]; omega); clear hA xA))
          all_goals
            have XX := Lib.hid ((((Keep.to ko.out).drew).trans (Keep.to P1.out)).trans (Keep.to B1.out) |>.trans H2.out)
            have J2 : Hid (j < es.length) := (by have := HL.out; show _ < _; omega)
            go_wp2
            go_roundw
            case rel => exact ⟨j + 1, _, by omega, by go_num, ShRel.step hR0.out J2.out XX.out (acc_val (by simp) H1.out) (fun q h => h)⟩
            case measure => simp [intOf]; omega
        · have HJ : Hid (es.length ≤ j) := by have := HL.out; show _ ≤ _; omega
          obtain ⟨av, nv, cv, rfl, ho, hK, f1, f2⟩ := hR.done HJ.out hlm
          have HO := Lib.hid ho
          have x0 := f1 0 (by omega)
          have x1 := f1 1 (by omega)
          have x2 := f1 2 (by omega)
          obtain ⟨y0, t0⟩ := f2 0 (by omega)
          obtain ⟨y1, t1⟩ := f2 1 (by omega)
          obtain ⟨y2, t2⟩ := f2 2 (by omega)
          simp at x0 x1 x2 y0 y1 y2
          clear f1 f2 ho hR
          have X := ((((Ext.refl (fun q => q = w.heap.size + 1) wr).setCell (p := ⟨w.heap.size + 1, 0, none⟩) (.inr rfl) (.int .i64 op)).setCell (p := ⟨w.heap.size + 1, 1, none⟩) (.inr rfl) (.int .i64 (wrap64 (num + d)))).setCell (p := ⟨w.heap.size + 1, 2, none⟩) (.inr rfl) (.slice av nv cv))
          have O2 := Lib.hid ((HO.out.ext X (fun q hq e => by omega)).mono (D' := fun q => w.heap.size ≤ q) (fun q hq => by omega))
          have KF := Lib.hid (hK.then_ X (fun q hq e => by omega))
          clear X
          go_wp2_with fail
          refine bodyPost_ret (v := .agg #[.int .i64 op, .int .i64 (wrap64 (num + d)), .slice av nv cv]) (by simp [results, Try.results78, go_sem, y0, y1, y2]) rfl (fin_ hQ ⟨av, nv, cv, ?_, ?_, KF.out⟩)
          · rw [shE_eq]
            show _ = Ending.returned (.agg #[.int .i64 op, .int .i64 (shN k d op num), .slice av nv cv])
            rw [V.out]
          · rw [shE_eq]; exact O2.out
    · have V : Hid (shN k d op num = num) := if_neg (fun h => h2 h.2)
      have h1' : (op == 12) = true := by simpa using h1
      clear h1
      go_enter Try.func78, Try.ntmps78
      go_wp2_with fail
      go_loopw [29] (fun iv wr => ∃ (j : Nat) (v : Value), j ≤ n ∧ iv = .int .i64 j ∧ ShRel k d op num es w j v wr) (fun i _ => n - (intOf i).toNat)
      case atStart => exact ⟨0, .slice none 0 0, Nat.zero_le _, rfl, ShRel.start k d op num es w⟩
      case round =>
        obtain ⟨j, v, hj, rfl, hR⟩ := hrel
        by_cases hlt : j < n
        · have hR0 := Lib.hid hR
          obtain ⟨RB, _, hB, hK⟩ := hR
          obtain ⟨b, o, rfl, hd, a2, n2, c2, d0, d1, d2, r2⟩ := HA.out j hlt
          have g0 := (hK.cell (World.block_lt_of_cell? w _ d0) (fun h => h)).trans d0
          have g1 := (hK.cell (World.block_lt_of_cell? w _ d1) (fun h => h)).trans d1
          have g2 := (hK.cell (World.block_lt_of_cell? w _ d2) (fun h => h)).trans d2
          have bnd := Lib.hid hB.bound
          have ka := Keep.al wr (.cells #[.int .i64 (eAt es j).op, .int .i64 (eAt es j).num, .slice a2 n2 c2] 29)
          have y2 : (wr.alloc (.cells #[.int .i64 (eAt es j).op, .int .i64 (eAt es j).num, .slice a2 n2 c2] 29)).cell? ⟨w.heap.size, 2, none⟩ = some v := (row_ext RB ka (fun h => h)).cell (i := 2) (by simp)
          have KA := Lib.hid (hB.keep ka)
          have RW := Lib.hid (row_ext RB ka (fun h => h))
          clear d0 d1 d2 RB hB
          go_wp2_with fail
          have lW : (wr.alloc (.cells #[.int .i64 (eAt es j).op, .int .i64 (eAt es j).num, .slice a2 n2 c2] 29)).heap.size = wr.heap.size + 1 := by simp
          generalize hW : wr.alloc (.cells #[.int .i64 (eAt es j).op, .int .i64 (eAt es j).num, .slice a2 n2 c2] 29) = W at *
          have z0 : W.cell? ⟨wr.heap.size, 0, none⟩ = some (.int .i64 (eAt es j).op) := by rw [← hW]; simp
          have z1 : W.cell? ⟨wr.heap.size, 1, none⟩ = some (.int .i64 (eAt es j).num) := by rw [← hW]; simp
          have z2 : W.cell? ⟨wr.heap.size, 2, none⟩ = some (.slice a2 n2 c2) := by rw [← hW]; simp
          have q2 := ((r2.k hK).k ka).k (w' := W.drew) (Ext.refl (fun _ => False) _).drew
          have hBL : w.heap.size + 2 ≤ wr.heap.size := by have := (hR0.out.2.1).lt; omega
          have LW := Lib.hid lW
          have ko := Lib.hid ka
          have NE : Hid (wr.heap.size ≠ w.heap.size) := (by show _ ≠ _; omega)
          clear hW g0 g1 g2 r2 hK lW ka
          go_region_law (first
              | (refine step_call (by rfl) 78 _ _ (by rfl) _ (by rfl) (by kernel_rfl) (IH.out j (by have := HL.out; omega) _ _ _ _ _ q2) ?_; rintro e w1 ⟨a', n', c', rfl, o1, p1⟩; refine ⟨_, rfl, ?_⟩; have y3 := Keep.at p1 y2; have b1 := Keep.al w1 (.cells #[.int .i64 (shE k d (eAt es j)).op, .int .i64 (shE k d (eAt es j)).num, .slice a' n' c'] 29); have y5 := (b1.cell (World.block_lt_of_cell? _ _ y3) (fun h => h)).trans y3; have B1 := Lib.hid b1; have A1 := Lib.hid (((KA.out.keep (w' := W.drew) (Ext.refl (fun _ => False) _).drew).keep p1).keep b1); have S1 : Hid (wr.heap.size + 1 ≤ w1.heap.size) := (by have h1 := p1.size; have h2 := LW.out; change W.heap.size ≤ w1.heap.size at h1; show _ ≤ _; omega); have O1 := Lib.hid (o1.lt.ext b1 (fun _ _ h => h)); have P1 := Lib.hid p1; clear o1 b1 p1)
              | (refine step_appT (by rfl) (.tmp 34) (.tmp 39) 27 (by rfl) (w.heap.size + 2) 29 (.agg #[.int .i64 0, .int .i64 0, .slice none 0 0]) 3 40 Try.underlying27 (by kernel_rfl) (by rfl) (by omega) (fun q => w.heap.size + 2 ≤ q ∧ q < wr.heap.size) (fun q => w.heap.size + 2 ≤ q) (wr.heap.size + 1) w1.heap.size v _ (by rfl) A1.out w1.heap.size 1 [.int .i64 (shE k d (eAt es j)).op, .int .i64 (shE k d (eAt es j)).num, .slice a' n' c'] [.num (shE k d (eAt es j)).op, .num (shE k d (eAt es j)).num, encExprs (shE k d (eAt es j)).kids] (by rfl) (cells_lit w1 _ _) (by simp [Value.oneCell']) (by rfl) (((ToS.one O1.out (fun q h1 h2 => by have := LW.out; change W.heap.size ≤ q ∧ q < w1.heap.size at h1; omega)).consI (by have := S1.out; omega)).consI (by have := S1.out; omega)) (fun q h1 h2 => ⟨by omega, by omega, fun e => by have := (bnd.out q e).2; omega, by simp; omega⟩) (fun q h1 => h1.1) (by simp [shEs_len]; omega) (by simp [shEs_len]; omega) (by simp; have := S1.out; omega) ?_; intro v1 w10 hA xA sA; have H1 := Lib.hid hA; have H2 := Lib.hid xA; have y4 : w10.cell? ⟨w.heap.size, 2, none⟩ = some v := ((xA.cell (World.block_lt_of_cell? _ _ y5) (fun e => by have h1 := (bnd.out _ e).1; change w.heap.size + 2 ≤ w.heap.size at h1; omega)).trans y5); have f4 : w10.frozen? ⟨w.heap.size, 2, none⟩ = false := ((xA.frozen (World.block_lt_of_cell? _ _ y5) (fun e => by have h1 := (bnd.out _ e).1; change w.heap.size + 2 ≤ w.heap.size at h1; omega)).trans (((B1.out.frozen (World.block_lt_of_cell? _ _ y3) (fun h => h))).trans (frozen_keep P1.out y2 (RW.out.frozen 2)))); obtain ⟨av, cv, rfl, _, _⟩ := hA.own (by omega) (by simp [shEs_len]; omega); clear hA xA))
          all_goals
            have XX := Lib.hid ((((Keep.to ko.out).drew).trans (Keep.to P1.out)).trans (Keep.to B1.out) |>.trans H2.out)
            have J2 : Hid (j < es.length) := (by have := HL.out; show _ < _; omega)
            go_wp2
            go_roundw
            case rel => exact ⟨j + 1, _, by omega, by go_num, ShRel.step hR0.out J2.out XX.out (acc_val (by simp) H1.out) (fun q h => h)⟩
            case measure => simp [intOf]; omega
        · have HJ : Hid (es.length ≤ j) := by have := HL.out; show _ ≤ _; omega
          obtain ⟨av, nv, cv, rfl, ho, hK, f1, f2⟩ := hR.done HJ.out hlm
          have HO := Lib.hid ho
          have x0 := f1 0 (by omega)
          have x1 := f1 1 (by omega)
          have x2 := f1 2 (by omega)
          obtain ⟨y0, t0⟩ := f2 0 (by omega)
          obtain ⟨y1, t1⟩ := f2 1 (by omega)
          obtain ⟨y2, t2⟩ := f2 2 (by omega)
          simp at x0 x1 x2 y0 y1 y2
          clear f1 f2 ho hR
          have X := ((((Ext.refl (fun q => q = w.heap.size + 1) wr).setCell (p := ⟨w.heap.size + 1, 0, none⟩) (.inr rfl) (.int .i64 op)).setCell (p := ⟨w.heap.size + 1, 1, none⟩) (.inr rfl) (.int .i64 num)).setCell (p := ⟨w.heap.size + 1, 2, none⟩) (.inr rfl) (.slice av nv cv))
          have O2 := Lib.hid ((HO.out.ext X (fun q hq e => by omega)).mono (D' := fun q => w.heap.size ≤ q) (fun q hq => by omega))
          have KF := Lib.hid (hK.then_ X (fun q hq e => by omega))
          clear X
          go_wp2_with fail
          refine bodyPost_ret (v := .agg #[.int .i64 op, .int .i64 num, .slice av nv cv]) (by simp [results, Try.results78, go_sem, y0, y1, y2]) rfl (fin_ hQ ⟨av, nv, cv, ?_, ?_, KF.out⟩)
          · rw [shE_eq]
            show _ = Ending.returned (.agg #[.int .i64 op, .int .i64 (shN k d op num), .slice av nv cv])
            rw [V.out]
          · rw [shE_eq]; exact O2.out
  · have V : Hid (shN k d op num = num) := if_neg (fun h => h1 h.1)
    have h1' : (op == 12) = false := by simpa using h1
    clear h1
    go_enter Try.func78, Try.ntmps78
    go_wp2_with fail
    go_loopw [29] (fun iv wr => ∃ (j : Nat) (v : Value), j ≤ n ∧ iv = .int .i64 j ∧ ShRel k d op num es w j v wr) (fun i _ => n - (intOf i).toNat)
    case atStart => exact ⟨0, .slice none 0 0, Nat.zero_le _, rfl, ShRel.start k d op num es w⟩
    case round =>
      obtain ⟨j, v, hj, rfl, hR⟩ := hrel
      by_cases hlt : j < n
      · have hR0 := Lib.hid hR
        obtain ⟨RB, _, hB, hK⟩ := hR
        obtain ⟨b, o, rfl, hd, a2, n2, c2, d0, d1, d2, r2⟩ := HA.out j hlt
        have g0 := (hK.cell (World.block_lt_of_cell? w _ d0) (fun h => h)).trans d0
        have g1 := (hK.cell (World.block_lt_of_cell? w _ d1) (fun h => h)).trans d1
        have g2 := (hK.cell (World.block_lt_of_cell? w _ d2) (fun h => h)).trans d2
        have bnd := Lib.hid hB.bound
        have ka := Keep.al wr (.cells #[.int .i64 (eAt es j).op, .int .i64 (eAt es j).num, .slice a2 n2 c2] 29)
        have y2 : (wr.alloc (.cells #[.int .i64 (eAt es j).op, .int .i64 (eAt es j).num, .slice a2 n2 c2] 29)).cell? ⟨w.heap.size, 2, none⟩ = some v := (row_ext RB ka (fun h => h)).cell (i := 2) (by simp)
        have KA := Lib.hid (hB.keep ka)
        have RW := Lib.hid (row_ext RB ka (fun h => h))
        clear d0 d1 d2 RB hB
        go_wp2_with fail
        have lW : (wr.alloc (.cells #[.int .i64 (eAt es j).op, .int .i64 (eAt es j).num, .slice a2 n2 c2] 29)).heap.size = wr.heap.size + 1 := by simp
        generalize hW : wr.alloc (.cells #[.int .i64 (eAt es j).op, .int .i64 (eAt es j).num, .slice a2 n2 c2] 29) = W at *
        have z0 : W.cell? ⟨wr.heap.size, 0, none⟩ = some (.int .i64 (eAt es j).op) := by rw [← hW]; simp
        have z1 : W.cell? ⟨wr.heap.size, 1, none⟩ = some (.int .i64 (eAt es j).num) := by rw [← hW]; simp
        have z2 : W.cell? ⟨wr.heap.size, 2, none⟩ = some (.slice a2 n2 c2) := by rw [← hW]; simp
        have q2 := ((r2.k hK).k ka).k (w' := W.drew) (Ext.refl (fun _ => False) _).drew
        have hBL : w.heap.size + 2 ≤ wr.heap.size := by have := (hR0.out.2.1).lt; omega
        have LW := Lib.hid lW
        have ko := Lib.hid ka
        have NE : Hid (wr.heap.size ≠ w.heap.size) := (by show _ ≠ _; omega)
        clear hW g0 g1 g2 r2 hK lW ka
        go_region_law (first
            | (refine step_call (by rfl) 78 _ _ (by rfl) _ (by rfl) (by kernel_rfl) (IH.out j (by have := HL.out; omega) _ _ _ _ _ q2) ?_; rintro e w1 ⟨a', n', c', rfl, o1, p1⟩; refine ⟨_, rfl, ?_⟩; have y3 := Keep.at p1 y2; have b1 := Keep.al w1 (.cells #[.int .i64 (shE k d (eAt es j)).op, .int .i64 (shE k d (eAt es j)).num, .slice a' n' c'] 29); have y5 := (b1.cell (World.block_lt_of_cell? _ _ y3) (fun h => h)).trans y3; have B1 := Lib.hid b1; have A1 := Lib.hid (((KA.out.keep (w' := W.drew) (Ext.refl (fun _ => False) _).drew).keep p1).keep b1); have S1 : Hid (wr.heap.size + 1 ≤ w1.heap.size) := (by have h1 := p1.size; have h2 := LW.out; change W.heap.size ≤ w1.heap.size at h1; show _ ≤ _; omega); have O1 := Lib.hid (o1.lt.ext b1 (fun _ _ h => h)); have P1 := Lib.hid p1; clear o1 b1 p1)
            | (refine step_appT (by rfl) (.tmp 34) (.tmp 39) 27 (by rfl) (w.heap.size + 2) 29 (.agg #[.int .i64 0, .int .i64 0, .slice none 0 0]) 3 40 Try.underlying27 (by kernel_rfl) (by rfl) (by omega) (fun q => w.heap.size + 2 ≤ q ∧ q < wr.heap.size) (fun q => w.heap.size + 2 ≤ q) (wr.heap.size + 1) w1.heap.size v _ (by rfl) A1.out w1.heap.size 1 [.int .i64 (shE k d (eAt es j)).op, .int .i64 (shE k d (eAt es j)).num, .slice a' n' c'] [.num (shE k d (eAt es j)).op, .num (shE k d (eAt es j)).num, encExprs (shE k d (eAt es j)).kids] (by rfl) (cells_lit w1 _ _) (by simp [Value.oneCell']) (by rfl) (((ToS.one O1.out (fun q h1 h2 => by have := LW.out; change W.heap.size ≤ q ∧ q < w1.heap.size at h1; omega)).consI (by have := S1.out; omega)).consI (by have := S1.out; omega)) (fun q h1 h2 => ⟨by omega, by omega, fun e => by have := (bnd.out q e).2; omega, by simp; omega⟩) (fun q h1 => h1.1) (by simp [shEs_len]; omega) (by simp [shEs_len]; omega) (by simp; have := S1.out; omega) ?_; intro v1 w10 hA xA sA; have H1 := Lib.hid hA; have H2 := Lib.hid xA; have y4 : w10.cell? ⟨w.heap.size, 2, none⟩ = some v := ((xA.cell (World.block_lt_of_cell? _ _ y5) (fun e => by have h1 := (bnd.out _ e).1; change w.heap.size + 2 ≤ w.heap.size at h1; omega)).trans y5); have f4 : w10.frozen? ⟨w.heap.size, 2, none⟩ = false := ((xA.frozen (World.block_lt_of_cell? _ _ y5) (fun e => by have h1 := (bnd.out _ e).1; change w.heap.size + 2 ≤ w.heap.size at h1; omega)).trans (((B1.out.frozen (World.block_lt_of_cell? _ _ y3) (fun h => h))).trans (frozen_keep P1.out y2 (RW.out.frozen 2)))); obtain ⟨av, cv, rfl, _, _⟩ := hA.own (by omega) (by simp [shEs_len]; omega); clear hA xA))
        all_goals
          have XX := Lib.hid ((((Keep.to ko.out).drew).trans (Keep.to P1.out)).trans (Keep.to B1.out) |>.trans H2.out)
          have J2 : Hid (j < es.length) := (by have := HL.out; show _ < _; omega)
          go_wp2
          go_roundw
          case rel => exact ⟨j + 1, _, by omega, by go_num, ShRel.step hR0.out J2.out XX.out (acc_val (by simp) H1.out) (fun q h => h)⟩
          case measure => simp [intOf]; omega
      · have HJ : Hid (es.length ≤ j) := by have := HL.out; show _ ≤ _; omega
        obtain ⟨av, nv, cv, rfl, ho, hK, f1, f2⟩ := hR.done HJ.out hlm
        have HO := Lib.hid ho
        have x0 := f1 0 (by omega)
        have x1 := f1 1 (by omega)
        have x2 := f1 2 (by omega)
        obtain ⟨y0, t0⟩ := f2 0 (by omega)
        obtain ⟨y1, t1⟩ := f2 1 (by omega)
        obtain ⟨y2, t2⟩ := f2 2 (by omega)
        simp at x0 x1 x2 y0 y1 y2
        clear f1 f2 ho hR
        have X := ((((Ext.refl (fun q => q = w.heap.size + 1) wr).setCell (p := ⟨w.heap.size + 1, 0, none⟩) (.inr rfl) (.int .i64 op)).setCell (p := ⟨w.heap.size + 1, 1, none⟩) (.inr rfl) (.int .i64 num)).setCell (p := ⟨w.heap.size + 1, 2, none⟩) (.inr rfl) (.slice av nv cv))
        have O2 := Lib.hid ((HO.out.ext X (fun q hq e => by omega)).mono (D' := fun q => w.heap.size ≤ q) (fun q hq => by omega))
        have KF := Lib.hid (hK.then_ X (fun q hq e => by omega))
        clear X
        go_wp2_with fail
        refine bodyPost_ret (v := .agg #[.int .i64 op, .int .i64 num, .slice av nv cv]) (by simp [results, Try.results78, go_sem, y0, y1, y2]) rfl (fin_ hQ ⟨av, nv, cv, ?_, ?_, KF.out⟩)
        · rw [shE_eq]
          show _ = Ending.returned (.agg #[.int .i64 op, .int .i64 (shN k d op num), .slice av nv cv])
          rw [V.out]
        · rw [shE_eq]; exact O2.out

theorem implShifted (k d : Int) (e : ExprL) (h : nE e ≤ 1000000) : ShI k d e := implShifted_n k d _ e (Nat.lt_succ_self _) h
end Go.Proofs.Ytpebcclabaennaa
