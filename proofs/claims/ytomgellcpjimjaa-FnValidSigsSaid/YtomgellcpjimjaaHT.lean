/- What the drawn laws on expressions share. -/
import Derived.Test.YtomgellcpjimjaaHD
import Derived.Test.YtomgellcpjimjaaZLawHelp
import Derived.StillTailTactics
namespace Go.Proofs.Ytomgellcpjimjaa
open Go.RowKit
set_option maxHeartbeats 400000 in
theorem lawNode (op : Int) (a : Option Addr) (n c : Nat) (w : World) :
    Calls Try.prog 23 #[.int .i64 op, .slice a n c] w fun e w' => e = .returned (.agg #[.int .i64 op, .int .i64 0, .slice a n c]) ∧ Keep w w' := by
  refine calls_k fun Q hQ => ?_
  go_enter Try.func23, Try.ntmps23
  go_wp2
  refine bodyPost_ret (v := .agg #[.int .i64 op, .int .i64 0, .slice a n c]) (by simp [results, Try.results23, go_sem]) rfl (fin_ hQ ⟨rfl, ?_⟩)
  first
    | exact (Ext.refl _ w).alloc _
    | exact (((Ext.refl _ w).alloc _).setCell (.inl (by simp)) _).setCell (.inl (by simp)) _
    | exact ((((Ext.refl _ w).alloc _).setCell (.inl (by simp)) _).setCell (.inl (by simp)) _).setCell (.inl (by simp)) _
set_option maxHeartbeats 400000 in
theorem lawInteger (n : Int) (w : World) :
    Calls Try.prog 47 #[.int .i64 n] w fun e w' => e = .returned (.agg #[.int .i64 0, .int .i64 n, .slice none 0 0]) ∧ Keep w w' := by
  refine calls_k fun Q hQ => ?_
  go_enter Try.func47, Try.ntmps47
  go_wp2
  refine bodyPost_ret (v := .agg #[.int .i64 0, .int .i64 n, .slice none 0 0]) (by simp [results, Try.results47, go_sem]) rfl (fin_ hQ ⟨rfl, ?_⟩)
  first
    | exact (Ext.refl _ w).alloc _
    | exact ((((Ext.refl _ w).alloc _).setCell (.inl (by simp)) _).setCell (.inl (by simp)) _).setCell (.inl (by simp)) _
theorem nEs_snoc_take {es : List ExprL} {j : Nat} (h : j < es.length) : nEs (es.take (j + 1)) = nEs (es.take j) + nE (eAt es j) := nEs_take es h
end Go.Proofs.Ytomgellcpjimjaa
/- The laws' own equalExpr, on two copies of one expression. -/
namespace Go.Proofs.Ytomgellcpjimjaa
open Go.RowKit
def EqE (e : ExprL) : Prop := ∀ (a : Option Addr) (n c : Nat) (a' : Option Addr) (n' c' : Nat) (D D' : Nat → Prop) (w : World), Rd w D (encExprs e.kids) (.slice a n c) → Rd w D' (encExprs e.kids) (.slice a' n' c') →
  Calls Try.prog 30 #[.agg #[.int .i64 e.op, .int .i64 e.num, .slice a n c], .agg #[.int .i64 e.op, .int .i64 e.num, .slice a' n' c']] w fun r w' => r = .returned (.bool true) ∧ Keep w w'
set_option maxRecDepth 100000 in
set_option maxHeartbeats 4000000 in
theorem equalExpr_n (N : Nat) : ∀ e : ExprL, nE e < N → EqE e := by
  induction N with
  | zero => intro e h; omega
  | succ N ihN =>
  intro e hN
  obtain ⟨op, num, es⟩ := e
  intro a n c a' n' c' D D' w h h'
  have he := nE_eq (.mk op num es)
  have ek : ExprL.kids (.mk op num es) = es := rfl
  rw [ek] at he h h'
  have IH : Hid (∀ j, j < es.length → EqE (eAt es j)) := fun j hj => ihN (eAt es j) (by have := nE_le es hj; omega)
  clear ihN hN he ek
  refine calls_k fun Q hQ => ?_
  simp only [ExprL.op, ExprL.num]
  obtain ⟨l1, hnc, hm, _⟩ := exprs_at h
  obtain ⟨l2, _, _, _⟩ := exprs_at h'
  obtain rfl : n = n' := by omega
  have HL := Lib.hid l1
  have K0 := (Keep.al w (.cells #[.int .i64 op, .int .i64 num, .slice a n c] 25)).trans (Keep.al _ (.cells #[.int .i64 op, .int .i64 num, .slice a' n c'] 25))
  have B2 := Ev.born (w.alloc (.cells #[.int .i64 op, .int .i64 num, .slice a n c] 25)) (fun _ => True) (.mk op num es) a' n c' ((h'.k (Keep.al _ _)).mono (fun _ _ => trivial))
  rw [World.size_alloc] at B2
  have EB : Hid (Ev (((w.alloc (.cells #[.int .i64 op, .int .i64 num, .slice a n c] 25)).alloc (.cells #[.int .i64 op, .int .i64 num, .slice a' n c'] 25))) (w.heap.size + 1) (fun _ => True) (.mk op num es) a' n c') := B2
  have EA : Hid (Ev (((w.alloc (.cells #[.int .i64 op, .int .i64 num, .slice a n c] 25)).alloc (.cells #[.int .i64 op, .int .i64 num, .slice a' n c'] 25))) w.heap.size (fun _ => True) (.mk op num es) a n c) := (Ev.born w (fun _ => True) (.mk op num es) a n c (h.mono (fun _ _ => trivial))).keep (Keep.al _ _)
  have K := Lib.hid K0
  clear h h' K0 B2 l1 l2
  go_enter Try.func30, Try.ntmps30
  go_upto_region 1 with fail
  generalize hW : ((w.alloc (.cells #[.int .i64 op, .int .i64 num, .slice a n c] 25)).alloc (.cells #[.int .i64 op, .int .i64 num, .slice a' n c'] 25)) = W at *
  clear hW
  have e0 : W.cell? ⟨w.heap.size, 0, none⟩ = some (.int .i64 op) := EA.out.v0
  have e1 : W.cell? ⟨w.heap.size, 1, none⟩ = some (.int .i64 num) := EA.out.v1
  have e2 := EA.out.v2
  have d0 : W.cell? ⟨w.heap.size + 1, 0, none⟩ = some (.int .i64 op) := EB.out.v0
  have d1 : W.cell? ⟨w.heap.size + 1, 1, none⟩ = some (.int .i64 num) := EB.out.v1
  have d2 := EB.out.v2
  have hb1 : (op != op) = false := by simp
  have hb2 : (num != num) = false := by simp
  have hb3 : ((n : Int) != (n : Int)) = false := by simp
  go_wp2_with fail
  go_loopw [5] (fun iv wr => ∃ j : Nat, j ≤ n ∧ iv = .int .i64 j ∧ Hid (Keep w wr) ∧ Hid (Ev wr w.heap.size (fun _ => True) (.mk op num es) a n c) ∧ Hid (Ev wr (w.heap.size + 1) (fun _ => True) (.mk op num es) a' n c')) (fun i _ => n - (intOf i).toNat)
  case atStart => exact ⟨0, Nat.zero_le _, rfl, K, EA, EB⟩
  case round =>
    clear K EA EB e0 e1 e2 d0 d1 d2
    obtain ⟨j, hj, rfl, K, EA, EB⟩ := hrel
    have e2 := EA.out.v2
    have d2 := EB.out.v2
    by_cases hlt : j < n
    · have hjl : j < es.length := by have := HL.out; omega
      obtain ⟨b, o, rfl, -, a2, n2, c2, x0, x1, x2, r2⟩ := (exprs_at EA.out.k).2.2.2 j hlt
      obtain ⟨b', o', rfl, -, a3, n3, c3, y0, y1, y2, r3⟩ := (exprs_at EB.out.k).2.2.2 j hlt
      have KD : Keep wr wr.drew := (Ext.refl (fun _ => False) wr).drew
      have R2 := Lib.hid (r2.k KD)
      have R3 := Lib.hid (r3.k KD)
      have EA2 := Lib.hid (EA.out.keep KD)
      have EB2 := Lib.hid (EB.out.keep KD)
      have K2 := Lib.hid (K.out.trans KD)
      have IHj := Lib.hid (IH.out j hjl)
      clear r2 r3 KD
      go_wp2_with fail
      go_still_tail 10, (by kernel_rfl)
      change wpList _ _ _ _ _ wr.drew
      clear e2 d2 x0 x1 x2 y0 y1 y2
      go_wp2_with fail
      refine (IHj.out a2 n2 c2 a3 n3 c3 _ _ _ R2.out R3.out).mono ?_
      rintro e w1 ⟨rfl, p1⟩
      have K3 := Lib.hid (K2.out.trans p1)
      have EA3 := Lib.hid (EA2.out.keep p1)
      have EB3 := Lib.hid (EB2.out.keep p1)
      clear p1
      go_wp2_with fail
      go_roundw
      case rel => exact ⟨j + 1, by omega, by go_num, K3, EA3, EB3⟩
      case measure => simp [intOf]; omega
    · go_wp2_with fail
      exact fin_ hQ ⟨rfl, K.out⟩
theorem equalExpr_same (e : ExprL) : EqE e := equalExpr_n _ e (Nat.lt_succ_self _)
end Go.Proofs.Ytomgellcpjimjaa
