/- shift of the reference: a fresh copy with other variables. -/
import Derived.Test.YtpebcclabaennaaExprPlain
import Derived.Test.YtpebcclabaennaaLit
import Derived.Test.YtpebcclabaennaaAppR
import Derived.Deep.RegionHeld3
namespace Go.Proofs.Ytpebcclabaennaa
open Go.RowKit

/-- The number of a variable, or of another node. -/
def shN (k d op num : Int) : Int := if op = 12 ∧ k ≤ num then wrap64 (num + d) else num
mutual
/-- Variables from k on are greater by d. -/
def shE (k d : Int) : ExprL → ExprL
  | .mk op num ks => .mk op (shN k d op num) (shEs k d ks)
def shEs (k d : Int) : List ExprL → List ExprL
  | [] => []
  | e :: es => shE k d e :: shEs k d es
end
theorem shEs_map (k d : Int) (es : List ExprL) : shEs k d es = es.map (shE k d) := by induction es <;> simp_all [shEs]
theorem shE_eq (k d : Int) (e : ExprL) : shE k d e = .mk e.op (shN k d e.op e.num) (shEs k d e.kids) := by cases e; rw [shE]; rfl
theorem shEs_take (k d : Int) (es : List ExprL) {j : Nat} (h : j < es.length) : shEs k d (es.take (j + 1)) = shEs k d (es.take j) ++ [shE k d (eAt es j)] := by
  rw [take_succ_eAt es h, shEs_map, shEs_map, List.map_append]; rfl
theorem shEs_len (k d : Int) (es : List ExprL) : (shEs k d es).length = es.length := by rw [shEs_map, List.length_map]

/-- One expression, laid into a new block. -/
theorem lit_expr (w : World) (D : Nat → Prop) (T : TypeId) (op num : Int) (ks : List ExprL) (a : Option Addr) (n c : Nat) (hB : D w.heap.size) (h : Rd w D (encExprs ks) (.slice a n c)) :
    Rd (w.alloc (.cells #[.int .i64 op, .int .i64 num, .slice a n c] T)) D (.arr 3 ([ExprL.mk op num ks].map rowE)) (.slice (some ⟨w.heap.size, 0, none⟩) 1 1) := by
  refine Rd.litD w D T 3 _ ([ExprL.mk op num ks].map rowE) 1 hB (by simp) (by omega) (by omega) (by simp) (fun i hi => by
    have e : i = 0 := by simp at hi; exact hi
    subst e
    simp [rGet, rowE]) (fun i j hi hj => ?_)
  obtain rfl : i = 0 := by simpa using hi
  rcases (show j = 0 ∨ j = 1 ∨ j = 2 by omega) with rfl | rfl | rfl
  · exact ⟨_, rfl, .num op⟩
  · exact ⟨_, rfl, .num num⟩
  · exact ⟨_, rfl, h⟩

/-- What shift of the reference does for one expression. -/
def ShC (k d : Int) (e : ExprL) : Prop := ∀ (a : Option Addr) (n c : Nat) (D : Nat → Prop) (w : World), Rd w D (encExprs e.kids) (.slice a n c) →
  Calls Try.prog 76 #[.agg #[.int .i64 e.op, .int .i64 e.num, .slice a n c], .int .i64 k, .int .i64 d] w fun r w' =>
    ∃ a' n' c', r = .returned (.agg #[.int .i64 (shE k d e).op, .int .i64 (shE k d e).num, .slice a' n' c']) ∧ Rd w' (fun q => w.heap.size ≤ q) (encExprs (shE k d e).kids) (.slice a' n' c') ∧ Keep w w'

set_option maxHeartbeats 1000000 in
theorem specShiftAll_of (k d : Int) (es : List ExprL) (IH0 : ∀ j, j < es.length → ShC k d (eAt es j)) (a : Option Addr) (n c : Nat) (D : Nat → Prop) (w : World) (h : Rd w D (encExprs es) (.slice a n c)) (hn : n ≤ 1000000) :
    Calls Try.prog 119 #[.slice a n c, .int .i64 k, .int .i64 d] w fun r w' =>
      ∃ a' n' c', r = .returned (.slice a' n' c') ∧ Rd w' (fun q => w.heap.size ≤ q) (encExprs (shEs k d es)) (.slice a' n' c') ∧ Keep w w' := by
  refine calls_k fun Q hQ => ?_
  obtain ⟨e1, hnc, hm, hat⟩ := exprs_at h
  have HL := Lib.hid e1
  have HA := Lib.hid hat
  have IH := Lib.hid IH0
  clear e1 hat IH0 h
  go_enter Try.func119, Try.ntmps119
  go_wp2
  have A0 := AccR.made w (fun q => w.heap.size ≤ q) 29 3
  go_loopw [7, 8] (fun ov iv wr => ∃ j : Nat, j ≤ n ∧ iv = .int .i64 j ∧ AccR wr w.heap.size (fun q => w.heap.size ≤ q) 29 3 ov ((shEs k d (es.take j)).map rowE) ∧ Keep w wr) (fun _ i _ => n - (intOf i).toNat)
  case atStart => exact ⟨0, Nat.zero_le _, rfl, A0, Keep.al _ _⟩
  case round =>
    obtain ⟨j, hj, rfl, hB, hK⟩ := hrel
    have hs := hK.size
    by_cases hlt : j < n
    · obtain ⟨b, o, rfl, hd, a2, n2, c2, d0, d1, d2, r2⟩ := HA.out j hlt
      have g0 := (hK.cell (World.block_lt_of_cell? w _ d0) (fun h => h)).trans d0
      have g1 := (hK.cell (World.block_lt_of_cell? w _ d1) (fun h => h)).trans d1
      have g2 := (hK.cell (World.block_lt_of_cell? w _ d2) (fun h => h)).trans d2
      have q2 := r2.k hK
      have HS := Lib.hid (shEs_take k d es (j := j) (by have := HL.out; omega))
      have hlr : ((shEs k d (es.take j)).map rowE).length = j := by
        rw [List.length_map, shEs_len, List.length_take, HL.out]; omega
      have HLR := Lib.hid hlr
      clear d0 d1 d2 r2 hlr
      go_wp2_with fail
      refine (IH.out j (by have := HL.out; omega) _ _ _ _ _ q2).mono ?_
      rintro e w1 ⟨a', n', c', rfl, r1, p1⟩
      have hs1 := p1.size
      have hB1 := hB.keep p1
      have bnd := hB.bound
      have hX := lit_expr w1 (fun q => w.heap.size ≤ q ∧ u7.ownBlock ≠ some q) 29 (shE k d (eAt es j)).op (shE k d (eAt es j)).num (shE k d (eAt es j)).kids a' n' c' ⟨by omega, fun e => by have := bnd _ e; omega⟩ (r1.mono (fun q hq => ⟨by omega, fun e => by have := bnd q e; omega⟩))
      have hB2 := hB1.keep (Keep.al w1 (.cells #[.int .i64 (shE k d (eAt es j)).op, .int .i64 (shE k d (eAt es j)).num, .slice a' n' c'] 29))
      have hKl := Lib.hid ((hK.trans p1).trans (Keep.al w1 (.cells #[.int .i64 (shE k d (eAt es j)).op, .int .i64 (shE k d (eAt es j)).num, .slice a' n' c'] 29)))
      clear bnd r1 hB hB1 q2
      go_wp2_with (at_builtin; go_must (refine wpList_appR _ rfl (.tmp 16) (.tmp 24) 27 rfl w.heap.size 29 (.agg #[.int .i64 0, .int .i64 0, .slice none 0 0]) 3 40 Try.underlying27 (by kernel_rfl) rfl (by omega) (fun q => w.heap.size ≤ q) _ _ rfl hB2 _ 1 1 _ _ rfl hX (fun q _ hq => hq) (by rw [HLR.out]; omega) (by rw [HLR.out]; omega) (by simp; omega) ?_); intro v1 w10 hA2 xA sA)
      go_roundw
      case rel => exact ⟨j + 1, by omega, by go_num, by
        rw [HS.out, List.map_append]
        have : (.mk (shE k d (eAt es j)).op (shE k d (eAt es j)).num (shE k d (eAt es j)).kids : ExprL) = shE k d (eAt es j) := by cases shE k d (eAt es j); rfl
        rw [this] at hA2
        exact hA2, hKl.out.then_ xA (fun q hq h => by omega)⟩
      case measure => simp [intOf]; omega
    · have HJ : Hid (j = n) := by show _ = _; omega
      rw [List.take_of_length_le (by have := HL.out; have := HJ.out; omega)] at hB
      obtain ⟨a', c', e, _, _, rd⟩ := hB.read (by omega)
      subst e
      go_wp2
      exact fin_ hQ ⟨_, _, _, rfl, by
        show Rd _ _ (.arr 3 (rowsE _)) _
        rw [rowsE_map]
        exact rd.mono (D' := fun q => w.heap.size ≤ q) (fun q hq => hq.elim id id), hK⟩
end Go.Proofs.Ytpebcclabaennaa
