/- Shift of the reference. -/
import Derived.Test.YtaeddcnakilnlaaMF
import Derived.Test.YtaeddcnakilnlaaWNodes
import Derived.Test.YtaeddcnakilnlaaME
import Derived.Test.YtaeddcnakilnlaaMGA
import Derived.Deep.RegionHeld3
import Derived.Test.YtaeddcnakilnlaaWMentions
namespace Go.Proofs.Ytaeddcnakilnlaa
open Go.RowKit

def shOk (k d op num : Int) (es : List ExprL) : Bool := decide (nEs es + 1 ≤ 30) && decide (0 ≤ k ∧ k ≤ 99) && decide (0 ≤ d ∧ d ≤ 99) && (vfN op num && vfEs es)
/-- What Shift returns. -/
def shR (k d op num : Int) (es : List ExprL) : ExprL := if shOk k d op num es then shE k d (.mk op num es) else .mk 0 0 []

end Go.Proofs.Ytaeddcnakilnlaa
/- The closure of Shift of the program. -/
namespace Go.Proofs.Ytaeddcnakilnlaa
open Go.RowKit

def vvis (op num : Int) (s : Bool) : Bool := s && vfN op num
mutual
theorem vvisE : ∀ (e : ExprL) (s : Bool), visE vvis e s = (s && vfE e)
  | .mk op num ks, s => by rw [visE, vvisEs ks, vvis, vfE, Bool.and_assoc]
theorem vvisEs : ∀ (es : List ExprL) (s : Bool), visEs vvis es s = (s && vfEs es)
  | [], s => by rw [visEs, vfEs, Bool.and_true]
  | k :: ks, s => by rw [visEs, vvisE k, vvisEs ks, vfEs, Bool.and_assoc]
end

/-- What the visits of Shift keep: block q says whether all is well. -/
def VInv (q : Nat) (_ : Nat) (s : Bool) (w : World) : Prop := w.rowIs q 4 1 (fun _ => .bool s)
theorem VInv.keep {q k : Nat} {s : Bool} {w w' : World} (h : VInv q k s w) (hk : Keep w w') : VInv q k s w' := row_ext h hk (fun h => h)

theorem shClos (q k : Nat) (s : Bool) (op num : Int) (a : Option Addr) (n c : Nat) (w : World) (h : VInv q k s w) :
    Calls Try.prog 84 #[.agg #[.int .i64 op, .int .i64 num, .slice a n c], .pointer (some ⟨q, 0, none⟩)] w fun e w' => e = .returned (.tuple #[]) ∧ VInv q (k + 1) (vvis op num s) w' ∧ Ext (· = q) w w' := by
  refine calls_k fun Q hQ => ?_
  have vq := World.rowIs.cell h (i := 0) (by omega)
  have fq := World.rowIs.frozen h 0
  have lq := World.rowIs.lt h
  have HQ := Lib.hid h
  clear h
  have fin : ∀ b : Bool, vvis op num s = b → VInv q (k + 1) (vvis op num s) ((w.setCell ⟨q, 0, none⟩ (.bool b)).alloc (.cells #[.int .i64 op, .int .i64 num, .slice a n c] 53)) ∧ Ext (· = q) w ((w.setCell ⟨q, 0, none⟩ (.bool b)).alloc (.cells #[.int .i64 op, .int .i64 num, .slice a n c] 53)) := fun b hb => by
    refine ⟨?_, ((Ext.refl (· = q) w).setCell (p := ⟨q, 0, none⟩) (.inr rfl) _).alloc _⟩
    show World.rowIs _ _ _ _ _
    refine ((World.rowIs.set HQ.out 0 (.bool b)).alloc _).congr (fun i hi => ?_)
    rw [if_pos (by omega), hb]
  have FIN := Lib.hid fin
  clear fin
  cases s
  · go_enter Try.func84, Try.ntmps84
    go_wp2
    refine bodyPost_end (v := .tuple #[]) (by simp [results, Try.results84, go_sem]) rfl (fin_ hQ ⟨rfl, FIN.out false rfl⟩)
  · by_cases h1 : op = 12
    · have h1' : (op != 12) = false := by simpa using h1
      by_cases h2 : 0 ≤ num
      · by_cases h3 : num ≤ 99
        · have V : Hid (vvis op num true = true) := by show _ = _; rw [vvis, vfN, decide_eq_true (show 0 ≤ num ∧ num ≤ 99 from ⟨h2, h3⟩)]; simp
          clear h1
          go_enter Try.func84, Try.ntmps84
          go_wp2
          refine bodyPost_end (v := .tuple #[]) (by simp [results, Try.results84, go_sem]) rfl (fin_ hQ ⟨rfl, FIN.out true V.out⟩)
        · have V : Hid (vvis op num true = false) := by show _ = _; rw [vvis, vfN, decide_eq_false (show ¬ (0 ≤ num ∧ num ≤ 99) from fun h => h3 h.2)]; simp [h1]
          clear h1
          go_enter Try.func84, Try.ntmps84
          go_wp2
          refine bodyPost_end (v := .tuple #[]) (by simp [results, Try.results84, go_sem]) rfl (fin_ hQ ⟨rfl, FIN.out false V.out⟩)
      · have V : Hid (vvis op num true = false) := by show _ = _; rw [vvis, vfN, decide_eq_false (show ¬ (0 ≤ num ∧ num ≤ 99) from fun h => h2 h.1)]; simp [h1]
        clear h1
        go_enter Try.func84, Try.ntmps84
        go_wp2
        refine bodyPost_end (v := .tuple #[]) (by simp [results, Try.results84, go_sem]) rfl (fin_ hQ ⟨rfl, FIN.out false V.out⟩)
    · have h1' : (op != 12) = true := by simpa using h1
      have V : Hid (vvis op num true = true) := by show _ = _; rw [vvis, vfN]; simp [h1]
      clear h1
      go_enter Try.func84, Try.ntmps84
      go_wp2
      refine bodyPost_end (v := .tuple #[]) (by simp [results, Try.results84, go_sem]) rfl (fin_ hQ ⟨rfl, FIN.out true V.out⟩)
end Go.Proofs.Ytaeddcnakilnlaa
/- shifted of the program: a fresh copy. -/
namespace Go.Proofs.Ytaeddcnakilnlaa
open Go.RowKit

/-- What shifted of the program does for one expression. -/
def ShI (k d : Int) (e : ExprL) : Prop := ∀ (a : Option Addr) (n c : Nat) (D : Nat → Prop) (w : World), Rd w D (encExprs e.kids) (.slice a n c) →
  Calls Try.prog 85 #[.agg #[.int .i64 e.op, .int .i64 e.num, .slice a n c], .int .i64 k, .int .i64 d] w fun r w' =>
    ∃ a' n' c', r = .returned (.agg #[.int .i64 (shE k d e).op, .int .i64 (shE k d e).num, .slice a' n' c']) ∧ Own w' (fun q => w.heap.size ≤ q) (encExprs (shE k d e).kids) (.slice a' n' c') ∧ Keep w w'

/-- What holds at the head of the loop over the kids. -/
def ShRel (k d op num : Int) (es : List ExprL) (w : World) (j : Nat) (v : Value) (wr : World) : Prop :=
  wr.rowIs w.heap.size 53 3 (fun i => if i = 2 then v else (#[.int .i64 op, .int .i64 num, .slice none 0 0] : Array Value).getD i undef) ∧
  wr.rowIs (w.heap.size + 1) 53 3 (fun i => (#[.int .i64 0, .int .i64 0, .slice none 0 0] : Array Value).getD i undef) ∧
  Acc wr (w.heap.size + 2) (fun q => w.heap.size + 2 ≤ q ∧ q < wr.heap.size) 53 3 v ((shEs k d (es.take j)).map rowE) ∧ Keep w wr

theorem acc_val {w : World} {base : Nat} {D : Nat → Prop} {T : TypeId} {s : Nat} {v v' : Value} {rows : List (List Dat)} (e : v = v') (h : Acc w base D T s v rows) : Acc w base D T s v' rows := e ▸ h

theorem ShRel.start (k d op num : Int) (es : List ExprL) (w : World) : ShRel k d op num es w 0 (.slice none 0 0) ((w.alloc (.cells #[.int .i64 op, .int .i64 num, .slice none 0 0] 53)).alloc (.cells #[.int .i64 0, .int .i64 0, .slice none 0 0] 53)) := by
  refine ⟨?_, ?_, Acc.nil _ _ _ _ _, (Keep.al w _).trans (Keep.al _ _)⟩
  · refine ((rowOf w #[.int .i64 op, .int .i64 num, .slice none 0 0] 53).alloc _).congr (fun i hi => ?_)
    rcases (show i = 0 ∨ i = 1 ∨ i = 2 by simp at hi; omega) with rfl | rfl | rfl <;> rfl
  · have h := rowOf (w.alloc (.cells #[.int .i64 op, .int .i64 num, .slice none 0 0] 53)) #[.int .i64 0, .int .i64 0, .slice none 0 0] 53
    simp only [World.size_alloc] at h
    exact h

theorem ShRel.step {k d op num : Int} {es : List ExprL} {w wr w2 : World} {j : Nat} {v v1 : Value} {D' : Nat → Prop} (h : ShRel k d op num es w j v wr) (hj : j < es.length) (hx : Ext (fun q => v.ownBlock = some q) wr w2)
    (hA : Acc w2 (w.heap.size + 2) D' 53 3 v1 ((shEs k d (es.take j)).map rowE ++ [[.num (shE k d (eAt es j)).op, .num (shE k d (eAt es j)).num, encExprs (shE k d (eAt es j)).kids]])) (hD' : ∀ q, D' q → w.heap.size + 2 ≤ q) :
    ShRel k d op num es w (j + 1) v1 (w2.setCell ⟨w.heap.size, 2, none⟩ v1) := by
  obtain ⟨h1, h2, h3, h4⟩ := h
  have hb := h3.bound
  have hn : ∀ q, q ≤ w.heap.size + 1 → ¬ v.ownBlock = some q := fun q hq e => by have := (hb q e).1; omega
  have hX : Ext (fun q => q = w.heap.size) w2 (w2.setCell ⟨w.heap.size, 2, none⟩ v1) := (Ext.refl (fun q => q = w.heap.size) w2).setCell (p := ⟨w.heap.size, 2, none⟩) (.inr rfl) _
  refine ⟨?_, ?_, ?_, ?_⟩
  · refine ((row_ext h1 hx (hn _ (by omega))).set 2 v1).congr (fun i hi => ?_)
    rcases (show i = 0 ∨ i = 1 ∨ i = 2 by omega) with rfl | rfl | rfl <;> rfl
  · exact row_ext (row_ext h2 hx (hn _ (by omega))) hX (by omega)
  · have e : (shEs k d (es.take (j + 1))).map rowE = (shEs k d (es.take j)).map rowE ++ [[.num (shE k d (eAt es j)).op, .num (shE k d (eAt es j)).num, encExprs (shE k d (eAt es j)).kids]] := by
      rw [shEs_take k d es hj, List.map_append, List.map_singleton, rowE_eq]
    rw [e]
    have h5 : Acc w2 (w.heap.size + 2) (fun q => w.heap.size + 2 ≤ q ∧ q < w2.heap.size) 53 3 v1 ((shEs k d (es.take j)).map rowE ++ [[.num (shE k d (eAt es j)).op, .num (shE k d (eAt es j)).num, encExprs (shE k d (eAt es j)).kids]]) := hA.lt.mono (fun q hq => ⟨hD' q hq.1, hq.2⟩)
    exact (h5.ext hX (fun q _ hq e => by rcases hq with hq | hq <;> omega)).mono (fun q hq => ⟨hq.1, Nat.lt_of_lt_of_le hq.2 hX.size⟩)
  · exact (h4.then_ hx (fun q hq e => hn q (by omega) e)).then_ hX (fun q hq e => by omega)

theorem ShRel.done {k d op num : Int} {es : List ExprL} {w wr : World} {j : Nat} {v : Value} (h : ShRel k d op num es w j v wr) (hj : es.length ≤ j) (hm : es.length ≤ 1000000) :
    ∃ a n c, v = .slice a n c ∧ Own wr (fun q => w.heap.size + 2 ≤ q) (encExprs (shEs k d es)) (.slice a n c) ∧ Keep w wr ∧
      (∀ i, i < 3 → wr.cell? ⟨w.heap.size, i, none⟩ = some ((#[.int .i64 op, .int .i64 num, .slice a n c] : Array Value).getD i undef)) ∧
      (∀ i, i < 3 → wr.cell? ⟨w.heap.size + 1, i, none⟩ = some ((#[.int .i64 0, .int .i64 0, .slice none 0 0] : Array Value).getD i undef) ∧ wr.frozen? ⟨w.heap.size + 1, i, none⟩ = false) := by
  obtain ⟨h1, h2, h3, h4⟩ := h
  rw [List.take_of_length_le hj] at h3
  obtain ⟨a, c, rfl, hc, ho⟩ := h3.own (by omega) (by simp [shEs_len]; omega)
  refine ⟨a, _, c, rfl, ?_, h4, fun i hi => ?_, fun i hi => ⟨h2.cell hi, h2.frozen i⟩⟩
  · rw [encExprs, rowsE_map]; exact ho.mono (fun q hq => by rcases hq with hq | hq <;> omega)
  · rw [h1.cell hi]
    rcases (show i = 0 ∨ i = 1 ∨ i = 2 by omega) with rfl | rfl | rfl <;> rfl

set_option maxRecDepth 100000 in
set_option maxHeartbeats 4000000 in
theorem implShifted_n (k d : Int) (N : Nat) : ∀ e : ExprL, nE e < N → nE e ≤ 1000000 → ShI k d e := by
  induction N with
  | zero => intro e h; omega
  | succ N ihN =>
  intro e hN hsz
  obtain ⟨op, num, es⟩ := e
  intro a n c D w h
  have he := nE_eq (.mk op num es)
  have IH := Lib.hid (fun (j : Nat) (hj : j < es.length) => ihN (eAt es j) (by have := nE_le es hj; have e : ExprL.kids (.mk op num es) = es := rfl; rw [e] at he; omega) (by have := nE_le es hj; have e : ExprL.kids (.mk op num es) = es := rfl; rw [e] at he; omega))
  have hlm : es.length ≤ 1000000 := by
    have h2 := nEs_len es
    have e : ExprL.kids (.mk op num es) = es := rfl
    rw [e] at he
    omega
  have hn : n ≤ 1000000 := by
    have h1 := (exprs_at h).1
    have e : ExprL.kids (.mk op num es) = es := rfl
    rw [e] at h1
    omega
  clear ihN he hsz hN
  refine calls_k fun Q hQ => ?_
  change Rd w D (encExprs es) _ at h
  simp only [ExprL.op, ExprL.num]
  obtain ⟨e1, hnc, hm, hat⟩ := exprs_at h
  have HL := Lib.hid e1
  have HA := Lib.hid hat
  clear e1 hat h
  by_cases h1 : op = 12
  · by_cases h2 : k ≤ num
    · have V : Hid (shN k d op num = wrap64 (num + d)) := if_pos ⟨h1, h2⟩
      have h1' : (op == 12) = true := by simpa using h1
      clear h1
      go_enter Try.func85, Try.ntmps85
      go_wp2_with fail
      go_loopw [29] (fun iv wr => ∃ (j : Nat) (v : Value), j ≤ n ∧ iv = .int .i64 j ∧ ShRel k d op (wrap64 (num + d)) es w j v wr) (fun i _ => n - (intOf i).toNat)
      case atStart => exact ⟨0, .slice none 0 0, Nat.zero_le _, rfl, ShRel.start k d op (wrap64 (num + d)) es w⟩
      case round =>
        obtain ⟨j, v, hj, rfl, hR⟩ := hrel
        by_cases hlt : j < n
        · have hR0 := Lib.hid hR
          obtain ⟨RB, _, hB, hK⟩ := hR
          obtain ⟨b, o, rfl, hd, a2, n2, c2, d0, d1, d2, r2⟩ := HA.out j hlt
          have g0 := (hK.cell (World.block_lt_of_cell? w _ d0) (fun h => h)).trans d0
          have g1 := (hK.cell (World.block_lt_of_cell? w _ d1) (fun h => h)).trans d1
          have g2 := (hK.cell (World.block_lt_of_cell? w _ d2) (fun h => h)).trans d2
          have bnd := Lib.hid hB.bound
          have ka := Keep.al wr (.cells #[.int .i64 (eAt es j).op, .int .i64 (eAt es j).num, .slice a2 n2 c2] 53)
          have y2 : (wr.alloc (.cells #[.int .i64 (eAt es j).op, .int .i64 (eAt es j).num, .slice a2 n2 c2] 53)).cell? ⟨w.heap.size, 2, none⟩ = some v := (row_ext RB ka (fun h => h)).cell (i := 2) (by simp)
          have KA := Lib.hid (hB.keep ka)
          have RW := Lib.hid (row_ext RB ka (fun h => h))
          clear d0 d1 d2 RB hB
          go_wp2_with fail
          have lW : (wr.alloc (.cells #[.int .i64 (eAt es j).op, .int .i64 (eAt es j).num, .slice a2 n2 c2] 53)).heap.size = wr.heap.size + 1 := by simp
          generalize hW : wr.alloc (.cells #[.int .i64 (eAt es j).op, .int .i64 (eAt es j).num, .slice a2 n2 c2] 53) = W at *
          have z0 : W.cell? ⟨wr.heap.size, 0, none⟩ = some (.int .i64 (eAt es j).op) := by rw [← hW]; simp
          have z1 : W.cell? ⟨wr.heap.size, 1, none⟩ = some (.int .i64 (eAt es j).num) := by rw [← hW]; simp
          have z2 : W.cell? ⟨wr.heap.size, 2, none⟩ = some (.slice a2 n2 c2) := by rw [← hW]; simp
          have q2 := ((r2.k hK).k ka).k (w' := W.drew) (Ext.refl (fun _ => False) _).drew
          have hBL : w.heap.size + 2 ≤ wr.heap.size := by have := (hR0.out.2.1).lt; omega
          have LW := Lib.hid lW
          have ko := Lib.hid ka
          have NE : Hid (wr.heap.size ≠ w.heap.size) := (by show _ ≠ _; omega)
          clear hW g0 g1 g2 r2 hK lW ka
          go_region_law (first
              | (refine step_call (by rfl) 85 _ _ (by rfl) _ (by rfl) (by kernel_rfl) (IH.out j (by have := HL.out; omega) _ _ _ _ _ q2) ?_; rintro e w1 ⟨a', n', c', rfl, o1, p1⟩; refine ⟨_, rfl, ?_⟩; have y3 := Keep.at p1 y2; have b1 := Keep.al w1 (.cells #[.int .i64 (shE k d (eAt es j)).op, .int .i64 (shE k d (eAt es j)).num, .slice a' n' c'] 53); have y5 := (b1.cell (World.block_lt_of_cell? _ _ y3) (fun h => h)).trans y3; have B1 := Lib.hid b1; have A1 := Lib.hid (((KA.out.keep (w' := W.drew) (Ext.refl (fun _ => False) _).drew).keep p1).keep b1); have S1 : Hid (wr.heap.size + 1 ≤ w1.heap.size) := (by have h1 := p1.size; have h2 := LW.out; change W.heap.size ≤ w1.heap.size at h1; show _ ≤ _; omega); have O1 := Lib.hid (o1.lt.ext b1 (fun _ _ h => h)); have P1 := Lib.hid p1; clear o1 b1 p1)
              | (refine step_appT (by rfl) (.tmp 34) (.tmp 39) 51 (by rfl) (w.heap.size + 2) 53 (.agg #[.int .i64 0, .int .i64 0, .slice none 0 0]) 3 40 Try.underlying51 (by kernel_rfl) (by rfl) (by omega) (fun q => w.heap.size + 2 ≤ q ∧ q < wr.heap.size) (fun q => w.heap.size + 2 ≤ q) (wr.heap.size + 1) w1.heap.size v _ (by rfl) A1.out w1.heap.size 1 [.int .i64 (shE k d (eAt es j)).op, .int .i64 (shE k d (eAt es j)).num, .slice a' n' c'] [.num (shE k d (eAt es j)).op, .num (shE k d (eAt es j)).num, encExprs (shE k d (eAt es j)).kids] (by rfl) (cells_lit w1 _ _) (by simp [Value.oneCell']) (by rfl) (((ToS.one O1.out (fun q h1 h2 => by have := LW.out; change W.heap.size ≤ q ∧ q < w1.heap.size at h1; omega)).consI (by have := S1.out; omega)).consI (by have := S1.out; omega)) (fun q h1 h2 => ⟨by omega, by omega, fun e => by have := (bnd.out q e).2; omega, by simp; omega⟩) (fun q h1 => h1.1) (by simp [shEs_len]; omega) (by simp [shEs_len]; omega) (by simp; have := S1.out; omega) ?_; intro v1 w10 hA xA sA; have H1 := Lib.hid hA; have H2 := Lib.hid xA; have y4 : w10.cell? ⟨w.heap.size, 2, none⟩ = some v := ((xA.cell (World.block_lt_of_cell? _ _ y5) (fun e => by have h1 := (bnd.out _ e).1; change w.heap.size + 2 ≤ w.heap.size at h1; omega)).trans y5); have f4 : w10.frozen? ⟨w.heap.size, 2, none⟩ = false := ((xA.frozen (World.block_lt_of_cell? _ _ y5) (fun e => by have h1 := (bnd.out _ e).1; change w.heap.size + 2 ≤ w.heap.size at h1; omega)).trans (((B1.out.frozen (World.block_lt_of_cell? _ _ y3) (fun h => h))).trans (frozen_keep P1.out y2 (RW.out.frozen 2)))); obtain ⟨av, cv, rfl, _, _⟩ := hA.own (by omega) (by simp [shEs_len]; omega); clear hA xA))
          all_goals
            have XX := Lib.hid ((((Keep.to ko.out).drew).trans (Keep.to P1.out)).trans (Keep.to B1.out) |>.trans H2.out)
            have J2 : Hid (j < es.length) := (by have := HL.out; show _ < _; omega)
            go_wp2
            go_roundw
            case rel => exact ⟨j + 1, _, by omega, by go_num, ShRel.step hR0.out J2.out XX.out (acc_val (by simp) H1.out) (fun q h => h)⟩
            case measure => simp [intOf]; omega
        · have HJ : Hid (es.length ≤ j) := by have := HL.out; show _ ≤ _; omega
          obtain ⟨av, nv, cv, rfl, ho, hK, f1, f2⟩ := hR.done HJ.out hlm
          have HO := Lib.hid ho
          have x0 := f1 0 (by omega)
          have x1 := f1 1 (by omega)
          have x2 := f1 2 (by omega)
          obtain ⟨y0, t0⟩ := f2 0 (by omega)
          obtain ⟨y1, t1⟩ := f2 1 (by omega)
          obtain ⟨y2, t2⟩ := f2 2 (by omega)
          simp at x0 x1 x2 y0 y1 y2
          clear f1 f2 ho hR
          have X := ((((Ext.refl (fun q => q = w.heap.size + 1) wr).setCell (p := ⟨w.heap.size + 1, 0, none⟩) (.inr rfl) (.int .i64 op)).setCell (p := ⟨w.heap.size + 1, 1, none⟩) (.inr rfl) (.int .i64 (wrap64 (num + d)))).setCell (p := ⟨w.heap.size + 1, 2, none⟩) (.inr rfl) (.slice av nv cv))
          have O2 := Lib.hid ((HO.out.ext X (fun q hq e => by omega)).mono (D' := fun q => w.heap.size ≤ q) (fun q hq => by omega))
          have KF := Lib.hid (hK.then_ X (fun q hq e => by omega))
          clear X
          go_wp2_with fail
          refine bodyPost_ret (v := .agg #[.int .i64 op, .int .i64 (wrap64 (num + d)), .slice av nv cv]) (by simp [results, Try.results85, go_sem, y0, y1, y2]) rfl (fin_ hQ ⟨av, nv, cv, ?_, ?_, KF.out⟩)
          · rw [shE_eq]
            show _ = Ending.returned (.agg #[.int .i64 op, .int .i64 (shN k d op num), .slice av nv cv])
            rw [V.out]
          · rw [shE_eq]; exact O2.out
    · have V : Hid (shN k d op num = num) := if_neg (fun h => h2 h.2)
      have h1' : (op == 12) = true := by simpa using h1
      clear h1
      go_enter Try.func85, Try.ntmps85
      go_wp2_with fail
      go_loopw [29] (fun iv wr => ∃ (j : Nat) (v : Value), j ≤ n ∧ iv = .int .i64 j ∧ ShRel k d op num es w j v wr) (fun i _ => n - (intOf i).toNat)
      case atStart => exact ⟨0, .slice none 0 0, Nat.zero_le _, rfl, ShRel.start k d op num es w⟩
      case round =>
        obtain ⟨j, v, hj, rfl, hR⟩ := hrel
        by_cases hlt : j < n
        · have hR0 := Lib.hid hR
          obtain ⟨RB, _, hB, hK⟩ := hR
          obtain ⟨b, o, rfl, hd, a2, n2, c2, d0, d1, d2, r2⟩ := HA.out j hlt
          have g0 := (hK.cell (World.block_lt_of_cell? w _ d0) (fun h => h)).trans d0
          have g1 := (hK.cell (World.block_lt_of_cell? w _ d1) (fun h => h)).trans d1
          have g2 := (hK.cell (World.block_lt_of_cell? w _ d2) (fun h => h)).trans d2
          have bnd := Lib.hid hB.bound
          have ka := Keep.al wr (.cells #[.int .i64 (eAt es j).op, .int .i64 (eAt es j).num, .slice a2 n2 c2] 53)
          have y2 : (wr.alloc (.cells #[.int .i64 (eAt es j).op, .int .i64 (eAt es j).num, .slice a2 n2 c2] 53)).cell? ⟨w.heap.size, 2, none⟩ = some v := (row_ext RB ka (fun h => h)).cell (i := 2) (by simp)
          have KA := Lib.hid (hB.keep ka)
          have RW := Lib.hid (row_ext RB ka (fun h => h))
          clear d0 d1 d2 RB hB
          go_wp2_with fail
          have lW : (wr.alloc (.cells #[.int .i64 (eAt es j).op, .int .i64 (eAt es j).num, .slice a2 n2 c2] 53)).heap.size = wr.heap.size + 1 := by simp
          generalize hW : wr.alloc (.cells #[.int .i64 (eAt es j).op, .int .i64 (eAt es j).num, .slice a2 n2 c2] 53) = W at *
          have z0 : W.cell? ⟨wr.heap.size, 0, none⟩ = some (.int .i64 (eAt es j).op) := by rw [← hW]; simp
          have z1 : W.cell? ⟨wr.heap.size, 1, none⟩ = some (.int .i64 (eAt es j).num) := by rw [← hW]; simp
          have z2 : W.cell? ⟨wr.heap.size, 2, none⟩ = some (.slice a2 n2 c2) := by rw [← hW]; simp
          have q2 := ((r2.k hK).k ka).k (w' := W.drew) (Ext.refl (fun _ => False) _).drew
          have hBL : w.heap.size + 2 ≤ wr.heap.size := by have := (hR0.out.2.1).lt; omega
          have LW := Lib.hid lW
          have ko := Lib.hid ka
          have NE : Hid (wr.heap.size ≠ w.heap.size) := (by show _ ≠ _; omega)
          clear hW g0 g1 g2 r2 hK lW ka
          go_region_law (first
              | (refine step_call (by rfl) 85 _ _ (by rfl) _ (by rfl) (by kernel_rfl) (IH.out j (by have := HL.out; omega) _ _ _ _ _ q2) ?_; rintro e w1 ⟨a', n', c', rfl, o1, p1⟩; refine ⟨_, rfl, ?_⟩; have y3 := Keep.at p1 y2; have b1 := Keep.al w1 (.cells #[.int .i64 (shE k d (eAt es j)).op, .int .i64 (shE k d (eAt es j)).num, .slice a' n' c'] 53); have y5 := (b1.cell (World.block_lt_of_cell? _ _ y3) (fun h => h)).trans y3; have B1 := Lib.hid b1; have A1 := Lib.hid (((KA.out.keep (w' := W.drew) (Ext.refl (fun _ => False) _).drew).keep p1).keep b1); have S1 : Hid (wr.heap.size + 1 ≤ w1.heap.size) := (by have h1 := p1.size; have h2 := LW.out; change W.heap.size ≤ w1.heap.size at h1; show _ ≤ _; omega); have O1 := Lib.hid (o1.lt.ext b1 (fun _ _ h => h)); have P1 := Lib.hid p1; clear o1 b1 p1)
              | (refine step_appT (by rfl) (.tmp 34) (.tmp 39) 51 (by rfl) (w.heap.size + 2) 53 (.agg #[.int .i64 0, .int .i64 0, .slice none 0 0]) 3 40 Try.underlying51 (by kernel_rfl) (by rfl) (by omega) (fun q => w.heap.size + 2 ≤ q ∧ q < wr.heap.size) (fun q => w.heap.size + 2 ≤ q) (wr.heap.size + 1) w1.heap.size v _ (by rfl) A1.out w1.heap.size 1 [.int .i64 (shE k d (eAt es j)).op, .int .i64 (shE k d (eAt es j)).num, .slice a' n' c'] [.num (shE k d (eAt es j)).op, .num (shE k d (eAt es j)).num, encExprs (shE k d (eAt es j)).kids] (by rfl) (cells_lit w1 _ _) (by simp [Value.oneCell']) (by rfl) (((ToS.one O1.out (fun q h1 h2 => by have := LW.out; change W.heap.size ≤ q ∧ q < w1.heap.size at h1; omega)).consI (by have := S1.out; omega)).consI (by have := S1.out; omega)) (fun q h1 h2 => ⟨by omega, by omega, fun e => by have := (bnd.out q e).2; omega, by simp; omega⟩) (fun q h1 => h1.1) (by simp [shEs_len]; omega) (by simp [shEs_len]; omega) (by simp; have := S1.out; omega) ?_; intro v1 w10 hA xA sA; have H1 := Lib.hid hA; have H2 := Lib.hid xA; have y4 : w10.cell? ⟨w.heap.size, 2, none⟩ = some v := ((xA.cell (World.block_lt_of_cell? _ _ y5) (fun e => by have h1 := (bnd.out _ e).1; change w.heap.size + 2 ≤ w.heap.size at h1; omega)).trans y5); have f4 : w10.frozen? ⟨w.heap.size, 2, none⟩ = false := ((xA.frozen (World.block_lt_of_cell? _ _ y5) (fun e => by have h1 := (bnd.out _ e).1; change w.heap.size + 2 ≤ w.heap.size at h1; omega)).trans (((B1.out.frozen (World.block_lt_of_cell? _ _ y3) (fun h => h))).trans (frozen_keep P1.out y2 (RW.out.frozen 2)))); obtain ⟨av, cv, rfl, _, _⟩ := hA.own (by omega) (by simp [shEs_len]; omega); clear hA xA))
          all_goals
            have XX := Lib.hid ((((Keep.to ko.out).drew).trans (Keep.to P1.out)).trans (Keep.to B1.out) |>.trans H2.out)
            have J2 : Hid (j < es.length) := (by have := HL.out; show _ < _; omega)
            go_wp2
            go_roundw
            case rel => exact ⟨j + 1, _, by omega, by go_num, ShRel.step hR0.out J2.out XX.out (acc_val (by simp) H1.out) (fun q h => h)⟩
            case measure => simp [intOf]; omega
        · have HJ : Hid (es.length ≤ j) := by have := HL.out; show _ ≤ _; omega
          obtain ⟨av, nv, cv, rfl, ho, hK, f1, f2⟩ := hR.done HJ.out hlm
          have HO := Lib.hid ho
          have x0 := f1 0 (by omega)
          have x1 := f1 1 (by omega)
          have x2 := f1 2 (by omega)
          obtain ⟨y0, t0⟩ := f2 0 (by omega)
          obtain ⟨y1, t1⟩ := f2 1 (by omega)
          obtain ⟨y2, t2⟩ := f2 2 (by omega)
          simp at x0 x1 x2 y0 y1 y2
          clear f1 f2 ho hR
          have X := ((((Ext.refl (fun q => q = w.heap.size + 1) wr).setCell (p := ⟨w.heap.size + 1, 0, none⟩) (.inr rfl) (.int .i64 op)).setCell (p := ⟨w.heap.size + 1, 1, none⟩) (.inr rfl) (.int .i64 num)).setCell (p := ⟨w.heap.size + 1, 2, none⟩) (.inr rfl) (.slice av nv cv))
          have O2 := Lib.hid ((HO.out.ext X (fun q hq e => by omega)).mono (D' := fun q => w.heap.size ≤ q) (fun q hq => by omega))
          have KF := Lib.hid (hK.then_ X (fun q hq e => by omega))
          clear X
          go_wp2_with fail
          refine bodyPost_ret (v := .agg #[.int .i64 op, .int .i64 num, .slice av nv cv]) (by simp [results, Try.results85, go_sem, y0, y1, y2]) rfl (fin_ hQ ⟨av, nv, cv, ?_, ?_, KF.out⟩)
          · rw [shE_eq]
            show _ = Ending.returned (.agg #[.int .i64 op, .int .i64 (shN k d op num), .slice av nv cv])
            rw [V.out]
          · rw [shE_eq]; exact O2.out
  · have V : Hid (shN k d op num = num) := if_neg (fun h => h1 h.1)
    have h1' : (op == 12) = false := by simpa using h1
    clear h1
    go_enter Try.func85, Try.ntmps85
    go_wp2_with fail
    go_loopw [29] (fun iv wr => ∃ (j : Nat) (v : Value), j ≤ n ∧ iv = .int .i64 j ∧ ShRel k d op num es w j v wr) (fun i _ => n - (intOf i).toNat)
    case atStart => exact ⟨0, .slice none 0 0, Nat.zero_le _, rfl, ShRel.start k d op num es w⟩
    case round =>
      obtain ⟨j, v, hj, rfl, hR⟩ := hrel
      by_cases hlt : j < n
      · have hR0 := Lib.hid hR
        obtain ⟨RB, _, hB, hK⟩ := hR
        obtain ⟨b, o, rfl, hd, a2, n2, c2, d0, d1, d2, r2⟩ := HA.out j hlt
        have g0 := (hK.cell (World.block_lt_of_cell? w _ d0) (fun h => h)).trans d0
        have g1 := (hK.cell (World.block_lt_of_cell? w _ d1) (fun h => h)).trans d1
        have g2 := (hK.cell (World.block_lt_of_cell? w _ d2) (fun h => h)).trans d2
        have bnd := Lib.hid hB.bound
        have ka := Keep.al wr (.cells #[.int .i64 (eAt es j).op, .int .i64 (eAt es j).num, .slice a2 n2 c2] 53)
        have y2 : (wr.alloc (.cells #[.int .i64 (eAt es j).op, .int .i64 (eAt es j).num, .slice a2 n2 c2] 53)).cell? ⟨w.heap.size, 2, none⟩ = some v := (row_ext RB ka (fun h => h)).cell (i := 2) (by simp)
        have KA := Lib.hid (hB.keep ka)
        have RW := Lib.hid (row_ext RB ka (fun h => h))
        clear d0 d1 d2 RB hB
        go_wp2_with fail
        have lW : (wr.alloc (.cells #[.int .i64 (eAt es j).op, .int .i64 (eAt es j).num, .slice a2 n2 c2] 53)).heap.size = wr.heap.size + 1 := by simp
        generalize hW : wr.alloc (.cells #[.int .i64 (eAt es j).op, .int .i64 (eAt es j).num, .slice a2 n2 c2] 53) = W at *
        have z0 : W.cell? ⟨wr.heap.size, 0, none⟩ = some (.int .i64 (eAt es j).op) := by rw [← hW]; simp
        have z1 : W.cell? ⟨wr.heap.size, 1, none⟩ = some (.int .i64 (eAt es j).num) := by rw [← hW]; simp
        have z2 : W.cell? ⟨wr.heap.size, 2, none⟩ = some (.slice a2 n2 c2) := by rw [← hW]; simp
        have q2 := ((r2.k hK).k ka).k (w' := W.drew) (Ext.refl (fun _ => False) _).drew
        have hBL : w.heap.size + 2 ≤ wr.heap.size := by have := (hR0.out.2.1).lt; omega
        have LW := Lib.hid lW
        have ko := Lib.hid ka
        have NE : Hid (wr.heap.size ≠ w.heap.size) := (by show _ ≠ _; omega)
        clear hW g0 g1 g2 r2 hK lW ka
        go_region_law (first
            | (refine step_call (by rfl) 85 _ _ (by rfl) _ (by rfl) (by kernel_rfl) (IH.out j (by have := HL.out; omega) _ _ _ _ _ q2) ?_; rintro e w1 ⟨a', n', c', rfl, o1, p1⟩; refine ⟨_, rfl, ?_⟩; have y3 := Keep.at p1 y2; have b1 := Keep.al w1 (.cells #[.int .i64 (shE k d (eAt es j)).op, .int .i64 (shE k d (eAt es j)).num, .slice a' n' c'] 53); have y5 := (b1.cell (World.block_lt_of_cell? _ _ y3) (fun h => h)).trans y3; have B1 := Lib.hid b1; have A1 := Lib.hid (((KA.out.keep (w' := W.drew) (Ext.refl (fun _ => False) _).drew).keep p1).keep b1); have S1 : Hid (wr.heap.size + 1 ≤ w1.heap.size) := (by have h1 := p1.size; have h2 := LW.out; change W.heap.size ≤ w1.heap.size at h1; show _ ≤ _; omega); have O1 := Lib.hid (o1.lt.ext b1 (fun _ _ h => h)); have P1 := Lib.hid p1; clear o1 b1 p1)
            | (refine step_appT (by rfl) (.tmp 34) (.tmp 39) 51 (by rfl) (w.heap.size + 2) 53 (.agg #[.int .i64 0, .int .i64 0, .slice none 0 0]) 3 40 Try.underlying51 (by kernel_rfl) (by rfl) (by omega) (fun q => w.heap.size + 2 ≤ q ∧ q < wr.heap.size) (fun q => w.heap.size + 2 ≤ q) (wr.heap.size + 1) w1.heap.size v _ (by rfl) A1.out w1.heap.size 1 [.int .i64 (shE k d (eAt es j)).op, .int .i64 (shE k d (eAt es j)).num, .slice a' n' c'] [.num (shE k d (eAt es j)).op, .num (shE k d (eAt es j)).num, encExprs (shE k d (eAt es j)).kids] (by rfl) (cells_lit w1 _ _) (by simp [Value.oneCell']) (by rfl) (((ToS.one O1.out (fun q h1 h2 => by have := LW.out; change W.heap.size ≤ q ∧ q < w1.heap.size at h1; omega)).consI (by have := S1.out; omega)).consI (by have := S1.out; omega)) (fun q h1 h2 => ⟨by omega, by omega, fun e => by have := (bnd.out q e).2; omega, by simp; omega⟩) (fun q h1 => h1.1) (by simp [shEs_len]; omega) (by simp [shEs_len]; omega) (by simp; have := S1.out; omega) ?_; intro v1 w10 hA xA sA; have H1 := Lib.hid hA; have H2 := Lib.hid xA; have y4 : w10.cell? ⟨w.heap.size, 2, none⟩ = some v := ((xA.cell (World.block_lt_of_cell? _ _ y5) (fun e => by have h1 := (bnd.out _ e).1; change w.heap.size + 2 ≤ w.heap.size at h1; omega)).trans y5); have f4 : w10.frozen? ⟨w.heap.size, 2, none⟩ = false := ((xA.frozen (World.block_lt_of_cell? _ _ y5) (fun e => by have h1 := (bnd.out _ e).1; change w.heap.size + 2 ≤ w.heap.size at h1; omega)).trans (((B1.out.frozen (World.block_lt_of_cell? _ _ y3) (fun h => h))).trans (frozen_keep P1.out y2 (RW.out.frozen 2)))); obtain ⟨av, cv, rfl, _, _⟩ := hA.own (by omega) (by simp [shEs_len]; omega); clear hA xA))
        all_goals
          have XX := Lib.hid ((((Keep.to ko.out).drew).trans (Keep.to P1.out)).trans (Keep.to B1.out) |>.trans H2.out)
          have J2 : Hid (j < es.length) := (by have := HL.out; show _ < _; omega)
          go_wp2
          go_roundw
          case rel => exact ⟨j + 1, _, by omega, by go_num, ShRel.step hR0.out J2.out XX.out (acc_val (by simp) H1.out) (fun q h => h)⟩
          case measure => simp [intOf]; omega
      · have HJ : Hid (es.length ≤ j) := by have := HL.out; show _ ≤ _; omega
        obtain ⟨av, nv, cv, rfl, ho, hK, f1, f2⟩ := hR.done HJ.out hlm
        have HO := Lib.hid ho
        have x0 := f1 0 (by omega)
        have x1 := f1 1 (by omega)
        have x2 := f1 2 (by omega)
        obtain ⟨y0, t0⟩ := f2 0 (by omega)
        obtain ⟨y1, t1⟩ := f2 1 (by omega)
        obtain ⟨y2, t2⟩ := f2 2 (by omega)
        simp at x0 x1 x2 y0 y1 y2
        clear f1 f2 ho hR
        have X := ((((Ext.refl (fun q => q = w.heap.size + 1) wr).setCell (p := ⟨w.heap.size + 1, 0, none⟩) (.inr rfl) (.int .i64 op)).setCell (p := ⟨w.heap.size + 1, 1, none⟩) (.inr rfl) (.int .i64 num)).setCell (p := ⟨w.heap.size + 1, 2, none⟩) (.inr rfl) (.slice av nv cv))
        have O2 := Lib.hid ((HO.out.ext X (fun q hq e => by omega)).mono (D' := fun q => w.heap.size ≤ q) (fun q hq => by omega))
        have KF := Lib.hid (hK.then_ X (fun q hq e => by omega))
        clear X
        go_wp2_with fail
        refine bodyPost_ret (v := .agg #[.int .i64 op, .int .i64 num, .slice av nv cv]) (by simp [results, Try.results85, go_sem, y0, y1, y2]) rfl (fin_ hQ ⟨av, nv, cv, ?_, ?_, KF.out⟩)
        · rw [shE_eq]
          show _ = Ending.returned (.agg #[.int .i64 op, .int .i64 (shN k d op num), .slice av nv cv])
          rw [V.out]
        · rw [shE_eq]; exact O2.out

theorem implShifted (k d : Int) (e : ExprL) (h : nE e ≤ 1000000) : ShI k d e := implShifted_n k d _ e (Nat.lt_succ_self _) h
end Go.Proofs.Ytaeddcnakilnlaa
/- Shift of the program. -/
namespace Go.Proofs.Ytaeddcnakilnlaa
open Go.RowKit

theorem shOk_no {k d op num : Int} {es : List ExprL} (h : ¬ (nEs es + 1 ≤ 30) ∨ ¬ (0 ≤ k ∧ k ≤ 99) ∨ ¬ (0 ≤ d ∧ d ≤ 99) ∨ (vfN op num && vfEs es) = false) : shOk k d op num es = false := by
  rcases h with h | h | h | h
  · rw [shOk, decide_eq_false h]; rfl
  · rw [shOk, decide_eq_false h]; simp
  · rw [shOk, decide_eq_false h]; simp
  · rw [shOk, h]; simp

set_option maxRecDepth 100000 in
set_option maxHeartbeats 4000000 in
theorem implShift0 (k d op num : Int) (es : List ExprL) (a : Option Addr) (n c : Nat) (D : Nat → Prop) (w : World) (h : Rd w D (encExprs es) (.slice a n c)) :
    Calls Try.prog 35 #[.agg #[.int .i64 op, .int .i64 num, .slice a n c], .int .i64 k, .int .i64 d] w fun r w' =>
      ∃ a' n' c', r = .returned (.tuple #[.agg #[.int .i64 (shR k d op num es).op, .int .i64 (shR k d op num es).num, .slice a' n' c'], .bool (shOk k d op num es)]) ∧ Own w' (fun q => w.heap.size ≤ q) (encExprs (shR k d op num es).kids) (.slice a' n' c') ∧ Keep w w' := by
  refine calls_k fun Q hQ => ?_
  have K0 := (Keep.al w (.cells #[.int .i64 op, .int .i64 num, .slice a n c] 53)).trans (Keep.al _ (.cells #[.int .i64 0, .int .i64 0, .slice none 0 0] 53))
  have R0 := (rowOf w #[.int .i64 op, .int .i64 num, .slice a n c] 53).alloc (.cells #[.int .i64 0, .int .i64 0, .slice none 0 0] 53)
  have R1 := rowOf (w.alloc (.cells #[.int .i64 op, .int .i64 num, .slice a n c] 53)) #[.int .i64 0, .int .i64 0, .slice none 0 0] 53
  simp only [World.size_alloc] at R1
  have q0 := h.lt.k K0
  clear h
  by_cases hl : nEs es + 1 ≤ 30
  case neg =>
    have V := Lib.hid (shOk_no (k := k) (d := d) (op := op) (num := num) (.inl hl))
    have V1 := Lib.hid (nodesL_no hl)
    clear hl
    go_enter Try.func35, Try.ntmps35
    go_wp2_with fail
    refine (implNodesOf _ _ _ _ _ _ _ _ q0).mono ?_
    rw [V1.out]
    rintro e w1 ⟨rfl, p1⟩
    have u0 : w1.cell? ⟨w.heap.size + 1, 0, none⟩ = some (.int .i64 0) := (row_ext R1 (p1) (fun h => h)).cell (i := 0) (by simp)
    have f0 := (row_ext R1 (p1) (fun h => h)).frozen 0
    have u1 : w1.cell? ⟨w.heap.size + 1, 1, none⟩ = some (.int .i64 0) := (row_ext R1 (p1) (fun h => h)).cell (i := 1) (by simp)
    have f1 := (row_ext R1 (p1) (fun h => h)).frozen 1
    have u2 : w1.cell? ⟨w.heap.size + 1, 2, none⟩ = some (.slice none 0 0) := (row_ext R1 (p1) (fun h => h)).cell (i := 2) (by simp)
    have f2 := (row_ext R1 (p1) (fun h => h)).frozen 2
    have X := ((((Ext.refl (fun q => q = w.heap.size + 1) w1).setCell (p := ⟨w.heap.size + 1, 0, none⟩) (.inr rfl) (.int .i64 0)).setCell (p := ⟨w.heap.size + 1, 1, none⟩) (.inr rfl) (.int .i64 0)).setCell (p := ⟨w.heap.size + 1, 2, none⟩) (.inr rfl) (.slice none 0 0))
    have KF := Lib.hid ((K0.trans p1).then_ X (fun q hq e => by omega))
    clear X R0 R1 K0
    go_wp2_with fail
    refine bodyPost_ret (v := .tuple #[.agg #[.int .i64 0, .int .i64 0, .slice none 0 0], .bool false]) (by simp [results, Try.results35, go_sem, u0, u1, u2]) rfl (fin_ hQ ⟨none, 0, 0, ?_, ?_, KF.out⟩)
    · rw [shR, V.out]; rfl
    · rw [shR, V.out]; exact .nil _ 3 none 0
  have V1 := Lib.hid (nodesL_yes hl)
  have hnn : ¬ ((nEs es + 1 : Nat) : Int) < 0 := by omega
  have HLL := Lib.hid hl
  generalize hm : nEs es + 1 = m at V1 hnn
  clear hm hl
  by_cases c0 : k < 0
  case pos =>
    have V := Lib.hid (shOk_no (k := k) (d := d) (op := op) (num := num) (es := es) (.inr (.inl (fun h => by omega))))
    go_enter Try.func35, Try.ntmps35
    go_wp2_with fail
    refine (implNodesOf _ _ _ _ _ _ _ _ q0).mono ?_
    rw [V1.out]
    rintro e w1 ⟨rfl, p1⟩
    have u0 : w1.cell? ⟨w.heap.size + 1, 0, none⟩ = some (.int .i64 0) := (row_ext R1 (p1) (fun h => h)).cell (i := 0) (by simp)
    have f0 := (row_ext R1 (p1) (fun h => h)).frozen 0
    have u1 : w1.cell? ⟨w.heap.size + 1, 1, none⟩ = some (.int .i64 0) := (row_ext R1 (p1) (fun h => h)).cell (i := 1) (by simp)
    have f1 := (row_ext R1 (p1) (fun h => h)).frozen 1
    have u2 : w1.cell? ⟨w.heap.size + 1, 2, none⟩ = some (.slice none 0 0) := (row_ext R1 (p1) (fun h => h)).cell (i := 2) (by simp)
    have f2 := (row_ext R1 (p1) (fun h => h)).frozen 2
    have X := ((((Ext.refl (fun q => q = w.heap.size + 1) w1).setCell (p := ⟨w.heap.size + 1, 0, none⟩) (.inr rfl) (.int .i64 0)).setCell (p := ⟨w.heap.size + 1, 1, none⟩) (.inr rfl) (.int .i64 0)).setCell (p := ⟨w.heap.size + 1, 2, none⟩) (.inr rfl) (.slice none 0 0))
    have KF := Lib.hid ((K0.trans p1).then_ X (fun q hq e => by omega))
    clear X R0 R1 K0
    go_wp2_with fail
    refine bodyPost_ret (v := .tuple #[.agg #[.int .i64 0, .int .i64 0, .slice none 0 0], .bool false]) (by simp [results, Try.results35, go_sem, u0, u1, u2]) rfl (fin_ hQ ⟨none, 0, 0, ?_, ?_, KF.out⟩)
    · rw [shR, V.out]; rfl
    · rw [shR, V.out]; exact .nil _ 3 none 0
  by_cases c1 : 99 < k
  case pos =>
    have V := Lib.hid (shOk_no (k := k) (d := d) (op := op) (num := num) (es := es) (.inr (.inl (fun h => by omega))))
    go_enter Try.func35, Try.ntmps35
    go_wp2_with fail
    refine (implNodesOf _ _ _ _ _ _ _ _ q0).mono ?_
    rw [V1.out]
    rintro e w1 ⟨rfl, p1⟩
    have u0 : w1.cell? ⟨w.heap.size + 1, 0, none⟩ = some (.int .i64 0) := (row_ext R1 (p1) (fun h => h)).cell (i := 0) (by simp)
    have f0 := (row_ext R1 (p1) (fun h => h)).frozen 0
    have u1 : w1.cell? ⟨w.heap.size + 1, 1, none⟩ = some (.int .i64 0) := (row_ext R1 (p1) (fun h => h)).cell (i := 1) (by simp)
    have f1 := (row_ext R1 (p1) (fun h => h)).frozen 1
    have u2 : w1.cell? ⟨w.heap.size + 1, 2, none⟩ = some (.slice none 0 0) := (row_ext R1 (p1) (fun h => h)).cell (i := 2) (by simp)
    have f2 := (row_ext R1 (p1) (fun h => h)).frozen 2
    have X := ((((Ext.refl (fun q => q = w.heap.size + 1) w1).setCell (p := ⟨w.heap.size + 1, 0, none⟩) (.inr rfl) (.int .i64 0)).setCell (p := ⟨w.heap.size + 1, 1, none⟩) (.inr rfl) (.int .i64 0)).setCell (p := ⟨w.heap.size + 1, 2, none⟩) (.inr rfl) (.slice none 0 0))
    have KF := Lib.hid ((K0.trans p1).then_ X (fun q hq e => by omega))
    clear X R0 R1 K0
    go_wp2_with fail
    refine bodyPost_ret (v := .tuple #[.agg #[.int .i64 0, .int .i64 0, .slice none 0 0], .bool false]) (by simp [results, Try.results35, go_sem, u0, u1, u2]) rfl (fin_ hQ ⟨none, 0, 0, ?_, ?_, KF.out⟩)
    · rw [shR, V.out]; rfl
    · rw [shR, V.out]; exact .nil _ 3 none 0
  by_cases c2 : d < 0
  case pos =>
    have V := Lib.hid (shOk_no (k := k) (d := d) (op := op) (num := num) (es := es) (.inr (.inr (.inl (fun h => by omega)))))
    go_enter Try.func35, Try.ntmps35
    go_wp2_with fail
    refine (implNodesOf _ _ _ _ _ _ _ _ q0).mono ?_
    rw [V1.out]
    rintro e w1 ⟨rfl, p1⟩
    have u0 : w1.cell? ⟨w.heap.size + 1, 0, none⟩ = some (.int .i64 0) := (row_ext R1 (p1) (fun h => h)).cell (i := 0) (by simp)
    have f0 := (row_ext R1 (p1) (fun h => h)).frozen 0
    have u1 : w1.cell? ⟨w.heap.size + 1, 1, none⟩ = some (.int .i64 0) := (row_ext R1 (p1) (fun h => h)).cell (i := 1) (by simp)
    have f1 := (row_ext R1 (p1) (fun h => h)).frozen 1
    have u2 : w1.cell? ⟨w.heap.size + 1, 2, none⟩ = some (.slice none 0 0) := (row_ext R1 (p1) (fun h => h)).cell (i := 2) (by simp)
    have f2 := (row_ext R1 (p1) (fun h => h)).frozen 2
    have X := ((((Ext.refl (fun q => q = w.heap.size + 1) w1).setCell (p := ⟨w.heap.size + 1, 0, none⟩) (.inr rfl) (.int .i64 0)).setCell (p := ⟨w.heap.size + 1, 1, none⟩) (.inr rfl) (.int .i64 0)).setCell (p := ⟨w.heap.size + 1, 2, none⟩) (.inr rfl) (.slice none 0 0))
    have KF := Lib.hid ((K0.trans p1).then_ X (fun q hq e => by omega))
    clear X R0 R1 K0
    go_wp2_with fail
    refine bodyPost_ret (v := .tuple #[.agg #[.int .i64 0, .int .i64 0, .slice none 0 0], .bool false]) (by simp [results, Try.results35, go_sem, u0, u1, u2]) rfl (fin_ hQ ⟨none, 0, 0, ?_, ?_, KF.out⟩)
    · rw [shR, V.out]; rfl
    · rw [shR, V.out]; exact .nil _ 3 none 0
  by_cases c3 : 99 < d
  case pos =>
    have V := Lib.hid (shOk_no (k := k) (d := d) (op := op) (num := num) (es := es) (.inr (.inr (.inl (fun h => by omega)))))
    go_enter Try.func35, Try.ntmps35
    go_wp2_with fail
    refine (implNodesOf _ _ _ _ _ _ _ _ q0).mono ?_
    rw [V1.out]
    rintro e w1 ⟨rfl, p1⟩
    have u0 : w1.cell? ⟨w.heap.size + 1, 0, none⟩ = some (.int .i64 0) := (row_ext R1 (p1) (fun h => h)).cell (i := 0) (by simp)
    have f0 := (row_ext R1 (p1) (fun h => h)).frozen 0
    have u1 : w1.cell? ⟨w.heap.size + 1, 1, none⟩ = some (.int .i64 0) := (row_ext R1 (p1) (fun h => h)).cell (i := 1) (by simp)
    have f1 := (row_ext R1 (p1) (fun h => h)).frozen 1
    have u2 : w1.cell? ⟨w.heap.size + 1, 2, none⟩ = some (.slice none 0 0) := (row_ext R1 (p1) (fun h => h)).cell (i := 2) (by simp)
    have f2 := (row_ext R1 (p1) (fun h => h)).frozen 2
    have X := ((((Ext.refl (fun q => q = w.heap.size + 1) w1).setCell (p := ⟨w.heap.size + 1, 0, none⟩) (.inr rfl) (.int .i64 0)).setCell (p := ⟨w.heap.size + 1, 1, none⟩) (.inr rfl) (.int .i64 0)).setCell (p := ⟨w.heap.size + 1, 2, none⟩) (.inr rfl) (.slice none 0 0))
    have KF := Lib.hid ((K0.trans p1).then_ X (fun q hq e => by omega))
    clear X R0 R1 K0
    go_wp2_with fail
    refine bodyPost_ret (v := .tuple #[.agg #[.int .i64 0, .int .i64 0, .slice none 0 0], .bool false]) (by simp [results, Try.results35, go_sem, u0, u1, u2]) rfl (fin_ hQ ⟨none, 0, 0, ?_, ?_, KF.out⟩)
    · rw [shR, V.out]; rfl
    · rw [shR, V.out]; exact .nil _ 3 none 0
  cases vv : (vfN op num && vfEs es)
  · have V := Lib.hid (shOk_no (k := k) (d := d) (op := op) (num := num) (es := es) (.inr (.inr (.inr vv))))
    have VV := Lib.hid vv
    clear vv
    go_enter Try.func35, Try.ntmps35
    go_wp2_with fail
    refine (implNodesOf _ _ _ _ _ _ _ _ q0).mono ?_
    rw [V1.out]
    rintro e w1 ⟨rfl, p1⟩
    have RX := (row_ext R0 p1 (fun h => h)).alloc (.cells #[.bool true] 4)
    have x0 : (w1.alloc (.cells #[.bool true] 4)).cell? ⟨w.heap.size, 0, none⟩ = some (.int .i64 op) := RX.cell (i := 0) (by simp)
    have x1 : (w1.alloc (.cells #[.bool true] 4)).cell? ⟨w.heap.size, 1, none⟩ = some (.int .i64 num) := RX.cell (i := 1) (by simp)
    have x2 : (w1.alloc (.cells #[.bool true] 4)).cell? ⟨w.heap.size, 2, none⟩ = some (.slice a n c) := RX.cell (i := 2) (by simp)
    clear RX
    have sz := p1.size
    simp at sz
    have RV := (rowOf w1 #[.bool true] 4).congr (g := fun _ => .bool true) (fun i hi => by
      obtain rfl : i = 0 := by simpa using hi
      rfl)
    have I0 : VInv w1.heap.size 0 true (w1.alloc (.cells #[.bool true] 4)) := RV
    have q2 := (q0.k p1).k (Keep.al w1 (.cells #[.bool true] 4))
    have PP := Lib.hid (p1.trans (Keep.al w1 (.cells #[.bool true] 4)))
    clear RV q0
    go_wp2_with fail
    refine (walk_n vvis 84 #[.pointer (some ⟨w1.heap.size, 0, none⟩)] (· = w1.heap.size) (VInv w1.heap.size) (fun args w => by kernel_rfl) (fun k s w w' h hk => h.keep hk)
      (fun k s op num a n c w _ h => shClos _ k s op num a n c w h) _ op num es (Nat.lt_succ_self _) 0 true _ _ _ _ _ q2 (fun q hq e => by have := hq.2; omega) (fun q hq => by simp; omega) (by have := HLL.out; omega) I0).mono ?_
    rintro e w2 ⟨rfl, I2, X2⟩
    have v0 := World.rowIs.cell I2 (i := 0) (by omega)
    rw [show visEs vvis es (vvis op num true) = (vfN op num && vfEs es) from by rw [vvisEs, vvis, Bool.true_and], VV.out] at v0
    have PX : Ext (fun q => q = w1.heap.size) w1 w2 := (Keep.to (Keep.al w1 (.cells #[.bool true] 4))).trans X2
    have P2 := p1.then_ PX (fun q hq e => by simp at hq; omega)
    have q3 := q2.ext X2 (fun q hq e => by have := hq.2; omega)
    clear x0 x1 x2
    have u0 : w2.cell? ⟨w.heap.size + 1, 0, none⟩ = some (.int .i64 0) := (row_ext R1 (P2) (fun h => h)).cell (i := 0) (by simp)
    have f0 := (row_ext R1 (P2) (fun h => h)).frozen 0
    have u1 : w2.cell? ⟨w.heap.size + 1, 1, none⟩ = some (.int .i64 0) := (row_ext R1 (P2) (fun h => h)).cell (i := 1) (by simp)
    have f1 := (row_ext R1 (P2) (fun h => h)).frozen 1
    have u2 : w2.cell? ⟨w.heap.size + 1, 2, none⟩ = some (.slice none 0 0) := (row_ext R1 (P2) (fun h => h)).cell (i := 2) (by simp)
    have f2 := (row_ext R1 (P2) (fun h => h)).frozen 2
    have X := ((((Ext.refl (fun q => q = w.heap.size + 1) w2).setCell (p := ⟨w.heap.size + 1, 0, none⟩) (.inr rfl) (.int .i64 0)).setCell (p := ⟨w.heap.size + 1, 1, none⟩) (.inr rfl) (.int .i64 0)).setCell (p := ⟨w.heap.size + 1, 2, none⟩) (.inr rfl) (.slice none 0 0))
    have KF := Lib.hid ((K0.trans P2).then_ X (fun q hq e => by omega))
    clear X R0 R1 K0
    go_wp2_with fail
    refine bodyPost_ret (v := .tuple #[.agg #[.int .i64 0, .int .i64 0, .slice none 0 0], .bool false]) (by simp [results, Try.results35, go_sem, u0, u1, u2]) rfl (fin_ hQ ⟨none, 0, 0, ?_, ?_, KF.out⟩)
    · rw [shR, V.out]; rfl
    · rw [shR, V.out]; exact .nil _ 3 none 0
  have VV := Lib.hid vv
  have V : Hid (shOk k d op num es = true) := by show _ = _; rw [shOk, decide_eq_true HLL.out, decide_eq_true (show 0 ≤ k ∧ k ≤ 99 by omega), decide_eq_true (show 0 ≤ d ∧ d ≤ 99 by omega), vv]; rfl
  have hsz : nE (.mk op num es) ≤ 1000000 := by have := HLL.out; rw [nE]; omega
  clear vv
  go_enter Try.func35, Try.ntmps35
  go_wp2_with fail
  refine (implNodesOf _ _ _ _ _ _ _ _ q0).mono ?_
  rw [V1.out]
  rintro e w1 ⟨rfl, p1⟩
  have RX := (row_ext R0 p1 (fun h => h)).alloc (.cells #[.bool true] 4)
  have x0 : (w1.alloc (.cells #[.bool true] 4)).cell? ⟨w.heap.size, 0, none⟩ = some (.int .i64 op) := RX.cell (i := 0) (by simp)
  have x1 : (w1.alloc (.cells #[.bool true] 4)).cell? ⟨w.heap.size, 1, none⟩ = some (.int .i64 num) := RX.cell (i := 1) (by simp)
  have x2 : (w1.alloc (.cells #[.bool true] 4)).cell? ⟨w.heap.size, 2, none⟩ = some (.slice a n c) := RX.cell (i := 2) (by simp)
  clear RX
  have sz := p1.size
  simp at sz
  have RV := (rowOf w1 #[.bool true] 4).congr (g := fun _ => .bool true) (fun i hi => by
    obtain rfl : i = 0 := by simpa using hi
    rfl)
  have I0 : VInv w1.heap.size 0 true (w1.alloc (.cells #[.bool true] 4)) := RV
  have q2 := (q0.k p1).k (Keep.al w1 (.cells #[.bool true] 4))
  have PP := Lib.hid (p1.trans (Keep.al w1 (.cells #[.bool true] 4)))
  clear RV q0
  go_wp2_with fail
  refine (walk_n vvis 84 #[.pointer (some ⟨w1.heap.size, 0, none⟩)] (· = w1.heap.size) (VInv w1.heap.size) (fun args w => by kernel_rfl) (fun k s w w' h hk => h.keep hk)
    (fun k s op num a n c w _ h => shClos _ k s op num a n c w h) _ op num es (Nat.lt_succ_self _) 0 true _ _ _ _ _ q2 (fun q hq e => by have := hq.2; omega) (fun q hq => by simp; omega) (by have := HLL.out; omega) I0).mono ?_
  rintro e w2 ⟨rfl, I2, X2⟩
  have v0 := World.rowIs.cell I2 (i := 0) (by omega)
  rw [show visEs vvis es (vvis op num true) = (vfN op num && vfEs es) from by rw [vvisEs, vvis, Bool.true_and], VV.out] at v0
  have PX : Ext (fun q => q = w1.heap.size) w1 w2 := (Keep.to (Keep.al w1 (.cells #[.bool true] 4))).trans X2
  have P2 := p1.then_ PX (fun q hq e => by simp at hq; omega)
  have q3 := q2.ext X2 (fun q hq e => by have := hq.2; omega)
  clear x0 x1 x2
  have x0 : w2.cell? ⟨w.heap.size, 0, none⟩ = some (.int .i64 op) := (row_ext R0 P2 (fun h => h)).cell (i := 0) (by simp)
  have x1 : w2.cell? ⟨w.heap.size, 1, none⟩ = some (.int .i64 num) := (row_ext R0 P2 (fun h => h)).cell (i := 1) (by simp)
  have x2 : w2.cell? ⟨w.heap.size, 2, none⟩ = some (.slice a n c) := (row_ext R0 P2 (fun h => h)).cell (i := 2) (by simp)
  have Z2 := P2.size
  simp at Z2
  go_wp2_with fail
  refine (implShifted k d (.mk op num es) hsz _ _ _ _ _ q3).mono ?_
  rintro e w3 ⟨a', n', c', rfl, r3, p3⟩
  have u0 : w3.cell? ⟨w.heap.size + 1, 0, none⟩ = some (.int .i64 0) := (row_ext R1 (P2.trans p3) (fun h => h)).cell (i := 0) (by simp)
  have f0 := (row_ext R1 (P2.trans p3) (fun h => h)).frozen 0
  have u1 : w3.cell? ⟨w.heap.size + 1, 1, none⟩ = some (.int .i64 0) := (row_ext R1 (P2.trans p3) (fun h => h)).cell (i := 1) (by simp)
  have f1 := (row_ext R1 (P2.trans p3) (fun h => h)).frozen 1
  have u2 : w3.cell? ⟨w.heap.size + 1, 2, none⟩ = some (.slice none 0 0) := (row_ext R1 (P2.trans p3) (fun h => h)).cell (i := 2) (by simp)
  have f2 := (row_ext R1 (P2.trans p3) (fun h => h)).frozen 2
  have X := ((((Ext.refl (fun q => q = w.heap.size + 1) w3).setCell (p := ⟨w.heap.size + 1, 0, none⟩) (.inr rfl) (.int .i64 (shE k d (.mk op num es)).op)).setCell (p := ⟨w.heap.size + 1, 1, none⟩) (.inr rfl) (.int .i64 (shE k d (.mk op num es)).num)).setCell (p := ⟨w.heap.size + 1, 2, none⟩) (.inr rfl) (.slice a' n' c'))
  have KF := Lib.hid ((K0.trans (P2.trans p3)).then_ X (fun q hq e => by omega))
  have r4 := Lib.hid ((r3.ext X (fun q hq e => by omega)).mono (D' := fun q => w.heap.size ≤ q) (fun q hq => by omega))
  clear X R0 R1 K0 r3 x0 x1 x2
  go_wp2_with fail
  refine bodyPost_ret (v := .tuple #[.agg #[.int .i64 (shE k d (.mk op num es)).op, .int .i64 (shE k d (.mk op num es)).num, .slice a' n' c'], .bool true]) (by simp [results, Try.results35, go_sem, u0, u1, u2]) rfl (fin_ hQ ⟨a', n', c', ?_, ?_, KF.out⟩)
  · rw [shR, V.out]; rfl
  · rw [shR, V.out]; exact r4.out
end Go.Proofs.Ytaeddcnakilnlaa
