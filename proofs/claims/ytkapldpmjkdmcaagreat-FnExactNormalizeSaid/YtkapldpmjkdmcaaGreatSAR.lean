/- build of the program for every expression; Normalize of the program. -/
import Derived.Test.YtkapldpmjkdmcaaGreatSAM
import Derived.Test.YtkapldpmjkdmcaaGreatSAQ
import Derived.Test.YtkapldpmjkdmcaaGreatSAB
import Derived.StillTailTactics
import Derived.IntWalk
namespace Go.Proofs.YtkapldpmjkdmcaaGreat
open Go.RowKit

section
variable (ds : List DeclL) (sg : List SigL) (hok : sigsOk ds sg = true)
include hok
theorem implLow_n (N : Nat) : ∀ e : ExprL, nE e < N → LwI ds sg e := by
  induction N with
  | zero => intro e h; omega
  | succ N ih =>
  intro e hN
  obtain ⟨op, num, ks⟩ := e
  rw [nE] at hN
  have IH : ∀ j, j < ks.length → LwI ds sg (eAt ks j) := fun j hj => ih _ (by have := nE_le ks hj; omega)
  by_cases h12 : op = 12
  · subst h12; exact implLow_var ds sg num ks
  by_cases h13 : op = 13
  · subst h13; exact implLow_let ds sg num ks IH
  by_cases h7 : op = 7
  · subst h7; exact implLow_7 ds sg hok num ks IH
  by_cases h8 : op = 8
  · subst h8; exact implLow_8 ds sg hok num ks IH
  exact implLow_other ds sg hok op num h12 h13 h7 h8 ks IH
theorem implLower (e : ExprL) : LwI ds sg e := implLow_n ds sg hok _ e (Nat.lt_succ_self _)
end

/-- append of one routine. -/
theorem step_addRt {ops : Array Oper} {o : Oper} {a : Act} {w : World} {K : Act → World → Prop} {Q : Exit → Act → World → Prop} {E : Prop} (hgd : o.guard = none) (s x : Operand)
    (ho : o.op = .call { callee := .builtin .append, args := #[s, x], argTypes := #[28, 28] })
    (base : Nat) (v : Value) (rows : List (List Dat)) (hs : a.eval s = v) {D0 : Nat → Prop} (hacc : Acc w base D0 71 5 v rows)
    (g c : Nat) (f : RoutL) (A B C : Value) (EA EB EC : Nat → Prop) (hx : a.eval x = .slice (some ⟨g, 0, none⟩) 1 c) (hcells : ∀ j u, [A, B, Value.int .i64 f.result, C, .int .i64 f.body.result][j]? = some u → w.cell? ⟨g, j, none⟩ = some u)
    (hA : Own w EA (encInts f.params) A) (hB : Own w EB (encInts f.lent) B) (hC : Own w EC (encSteps f.body.steps) C) (hE : ∀ k, EA k ∨ EB k ∨ EC k → ¬ D0 k ∧ v.ownBlock ≠ some k) (d1 : ∀ k, EA k → ¬ EB k) (d2 : ∀ k, EA k → ¬ EC k) (d3 : ∀ k, EB k → ¬ EC k) (hlen : rows.length ≤ 100000) (hbase : base ≤ w.heap.size)
    (h : ∀ a' n' c' w', Acc w' base (fun k => D0 k ∨ (EA k ∨ EB k ∨ EC k) ∧ k < w.heap.size) 71 5 (.slice a' n' c') (rows ++ [rowR f]) → Ext (fun k => v.ownBlock = some k) w w' → w.heap.size ≤ w'.heap.size → (∀ k, (Value.slice a' n' c').ownBlock = some k → v.ownBlock = some k ∨ w.heap.size ≤ k) → K (a.put o.dst (.slice a' n' c')) w') :
    if Region.wanted o (yielded ops a.tmps) = true then Oper.wp Tryz.prog o a w K Q else E := by
  obtain ⟨xs, E', h1, _⟩ := id hacc
  have o1 : A.oneCell' = true := hA.read.one
  have o2 : B.oneCell' = true := hB.read.one
  have o3 : C.oneCell' = true := hC.read.one
  refine step_app hgd s x 28 ho base 71 (.agg #[.slice none 0 0, .slice none 0 0, .int .i64 0, .slice none 0 0, .int .i64 0]) 5 88 Tryz.underlying28 (by kernel_rfl) rfl (by omega) v rows.length xs hs h1 (some ⟨g, 0, none⟩) 1 c [A, B, .int .i64 f.result, C, .int .i64 f.body.result] hx ⟨rfl, fun _ => ⟨g, 0, rfl, fun j u hj => by rw [Nat.zero_add]; exact hcells j u hj⟩⟩
    (by intro u hu; simp at hu; rcases hu with rfl | rfl | rfl | rfl | rfl <;> first | rfl | assumption) (by omega) (by omega) hbase (fun v' w' q1 q2 q3 => ?_)
  have hfin : Acc w' base (fun k => D0 k ∨ (EA k ∨ EB k ∨ EC k) ∧ k < w.heap.size) 71 5 v' (rows ++ [rowR f]) := ?_
  · obtain ⟨a', c', rfl, _, _⟩ := hfin.own (by omega) (by simp; omega)
    exact h _ _ _ w' hfin ⟨q2.os, q2.tape, q2.output, q2.size, fun k hk hn => q2.block k hk (fun e => hn e.symm)⟩ q2.size (fun k hk => by
      rcases q3 with e | e
      · rw [e] at hk; exact .inl hk
      · rw [e] at hk; injection hk with hk; exact .inr (by omega))
  refine hacc.push (r := rowR f) (news := [A, B, .int .i64 f.result, C, .int .i64 f.body.result]) (D2 := fun j k => (j = 0 ∧ EA k ∨ j = 1 ∧ EB k ∨ j = 3 ∧ EC k) ∧ k < w.heap.size) rfl rfl (fun j u hj => ?_) (fun j k hj hk => ?_) (fun j j' k _ _ h1 h2 => ?_) (fun k hk => .inl hk) (fun xs' hxs' => ?_) q2 q3
  · rcases (show j = 0 ∨ j = 1 ∨ j = 2 ∨ j = 3 ∨ j = 4 by have := (List.getElem?_eq_some_iff.1 hj).1; simp at this; omega) with rfl | rfl | rfl | rfl | rfl
    · simp at hj; subst hj; exact hA.lt.mono (fun k hk => ⟨.inl ⟨rfl, hk.1⟩, hk.2⟩)
    · simp at hj; subst hj; exact hB.lt.mono (fun k hk => ⟨.inr (.inl ⟨rfl, hk.1⟩), hk.2⟩)
    · simp at hj; subst hj; exact .num _ _
    · simp at hj; subst hj; exact hC.lt.mono (fun k hk => ⟨.inr (.inr ⟨rfl, hk.1⟩), hk.2⟩)
    · simp at hj; subst hj; exact .num _ _
  · have h5 : EA k ∨ EB k ∨ EC k := by
      rcases hk.1 with h | h | h
      · exact .inl h.2
      · exact .inr (.inl h.2)
      · exact .inr (.inr h.2)
    exact ⟨.inr ⟨h5, hk.2⟩, (hE k h5).1, (hE k h5).2, hk.2⟩
  · rcases h1.1 with h1 | h1 | h1 <;> rcases h2.1 with h2 | h2 | h2
    · omega
    · exact absurd h2.2 (d1 k h1.2)
    · exact absurd h2.2 (d2 k h1.2)
    · exact absurd h1.2 (d1 k h2.2)
    · omega
    · exact absurd h2.2 (d3 k h1.2)
    · exact absurd h1.2 (d2 k h2.2)
    · exact absurd h1.2 (d3 k h2.2)
    · omega
  · rw [ownsRow_same h1 hxs']
    exact q1

set_option maxRecDepth 100000 in
set_option maxHeartbeats 4000000 in
theorem implNormalize (ds : List DeclL) (fs : List FuncL) (hfit : fitP fs) (a0 : Option Addr) (n0 c0 : Nat) (a1 : Option Addr) (n1 c1 : Nat) (D0 D1 : Nat → Prop) (w : World) (r0 : Rd w D0 (encDecls ds) (.slice a0 n0 c0)) (r1 : Rd w D1 (encFuncs fs) (.slice a1 n1 c1)) :
    Calls Tryz.prog 17 #[.agg #[.slice a0 n0 c0, .slice a1 n1 c1]] w fun e w' => ∃ ad nd cd ar nr cr, e = .returned (.tuple #[.agg #[.slice ad nd cd, .slice ar nr cr], .bool (progOk ds fs)]) ∧ ToS w.heap.size w'.heap.size w' [encDecls (nrmD ds fs), encRouts (nrmR ds fs)] [.slice ad nd cd, .slice ar nr cr] ∧ Keep w w' := by
  refine calls_k fun Q hQ => ?_
  have HFT := Lib.hid hfit
  have K0 := (Keep.al w (.cells #[.slice a0 n0 c0, .slice a1 n1 c1] 44)).trans (Keep.al _ (.cells #[.slice none 0 0, .slice none 0 0] 30))
  have RZ0 := rowOf (w.alloc (.cells #[.slice a0 n0 c0, .slice a1 n1 c1] 44)) #[.slice none 0 0, .slice none 0 0] 30
  have R0 := (rowOf w #[.slice a0 n0 c0, .slice a1 n1 c1] 44).alloc (.cells #[.slice none 0 0, .slice none 0 0] 30)
  simp only [World.size_alloc] at RZ0
  have q0 := Lib.hid (r0.lt.k K0)
  have q1 := Lib.hid (r1.lt.k K0)
  clear hfit r0 r1
  cases hp : progOk ds fs
  · have HP := Lib.hid hp
    have E1 : Hid (nrmD ds fs = []) := by show _ = _; rw [nrmD, hp]; rfl
    have E2 : Hid (nrmR ds fs = []) := by show _ = _; rw [nrmR, hp]; rfl
    rw [hp, E1.out, E2.out] at hQ
    have KW := Lib.hid K0
    have RZ := Lib.hid RZ0
    clear hp K0 RZ0
    go_enter Tryz.func17, Tryz.ntmps17
    go_wp2_with fail
    refine (implValidProgram _ _ _ _ _ _ _ _ _ _ _ q0.out q1.out HFT.out).mono ?_
    rw [HP.out]
    rintro e w1 ⟨rfl, p1⟩
    have RT := row_ext RZ.out p1 (fun h => h)
    have t0 : w1.cell? ⟨w.heap.size + 1, 0, none⟩ = some (.slice none 0 0) := RT.cell (i := 0) (by simp)
    have t1 : w1.cell? ⟨w.heap.size + 1, 1, none⟩ = some (.slice none 0 0) := RT.cell (i := 1) (by simp)
    have t2 := RT.frozen 0
    have t3 := RT.frozen 1
    have KF := Lib.hid ((KW.out.trans p1).then_ (((Ext.refl (fun k => k = w.heap.size + 1) w1).setCell (p := ⟨w.heap.size + 1, 0, none⟩) (.inr rfl) (.slice none 0 0)).setCell (p := ⟨w.heap.size + 1, 1, none⟩) (.inr rfl) (.slice none 0 0)) (fun i hi e => by omega))
    clear RT q0 q1 R0 p1
    go_wp2_with fail
    exact bodyPost_ret (v := .tuple #[.agg #[.slice none 0 0, .slice none 0 0], .bool false]) (by simp [results, Tryz.results17, go_sem, t0, t1]) rfl (fin_ hQ ⟨none, 0, 0, none, 0, 0, rfl, ToS.mk2 (E0 := fun _ => False) (E1 := fun _ => False) (fun _ h => h.elim) (fun _ h => h.elim) (fun _ h => h.elim) (.nil _ _ _ _) (.nil _ _ _ _), KF.out⟩)
  · have HP := Lib.hid hp
    have E1 : Hid (nrmD ds fs = ds) := by show _ = _; rw [nrmD, if_pos hp]
    have E2 : Hid (nrmR ds fs = fs.map (nrmF ds)) := by show _ = _; rw [nrmR, if_pos hp]
    rw [hp, E1.out, E2.out] at hQ
    have hok := (progOk_parts hp).1
    have ht := (sigsOk_parts hok).1
    have HOK := Lib.hid hok
    have hnf : fs.length ≤ 4 := (progOk_len hp).2
    have HFW := Few.of_ok ht
    have HFL := Lib.hid (fun j k => decl_fields ht j k)
    have KW := Lib.hid K0
    have RZ := Lib.hid RZ0
    have RP := Lib.hid R0
    replace HFW := Lib.hid HFW
    clear hp K0 RZ0 R0 hok ht
    go_enter Tryz.func17, Tryz.ntmps17
    go_wp2_with fail
    refine (implValidProgram _ _ _ _ _ _ _ _ _ _ _ q0.out q1.out HFT.out).mono ?_
    rw [HP.out]
    rintro e w1 ⟨rfl, p1⟩
    replace q0 := Lib.hid (q0.out.k p1)
    replace q1 := Lib.hid (q1.out.k p1)
    have RP1 := Lib.hid (row_ext RP.out p1 (fun h => h))
    have x0 : w1.cell? ⟨w.heap.size, 0, none⟩ = some (.slice a0 n0 c0) := RP1.out.cell (i := 0) (by simp)
    have x1 : w1.cell? ⟨w.heap.size, 1, none⟩ = some (.slice a1 n1 c1) := RP1.out.cell (i := 1) (by simp)
    have K1 := Lib.hid (KW.out.trans p1)
    have RZ1 := Lib.hid (row_ext RZ.out p1 (fun h => h))
    have hs : w.heap.size + 2 ≤ w1.heap.size := by have := p1.size; simp only [World.size_alloc] at this; omega
    clear p1
    go_wp2_with fail
    refine (implCloneDecls ds HFW.out HFL.out a0 n0 c0 _ w1 q0.out).mono ?_
    rintro e w2 ⟨ad, cd, rfl, od, p2⟩
    have OD := Lib.hid (od.lt.mono (D' := fun k => w1.heap.size ≤ k ∧ k < w2.heap.size) (fun k hk => hk))
    have hw2 := p2.size
    have KA := p2.trans (Keep.al w2 (.cells #[.slice ad n0 cd, .slice none 0 0] 30))
    have RO0 := rowOf w2 #[.slice ad n0 cd, .slice none 0 0] 30
    replace q0 := Lib.hid (q0.out.k KA)
    replace q1 := Lib.hid (q1.out.k KA)
    have RP2 := Lib.hid (row_ext RP1.out KA (fun h => h))
    have RZ2 := Lib.hid (row_ext RZ1.out KA (fun h => h))
    have K2 := Lib.hid (K1.out.trans KA)
    have x1 := p2.cq x1 (fun h => h)
    replace OD := Lib.hid (OD.out.ext (Keep.al w2 (.cells #[.slice ad n0 cd, .slice none 0 0] 30)) (fun _ _ h => h))
    have sL : (w2.alloc (.cells #[.slice ad n0 cd, .slice none 0 0] 30)).heap.size = w2.heap.size + 1 := by simp
    have SL := Lib.hid sL
    replace RO0 := Lib.hid RO0
    have x1 := (Keep.al w2 (.cells #[.slice ad n0 cd, .slice none 0 0] 30)).cq x1 (fun h => h)
    clear od p2 KA x0 sL
    go_wp2_with fail
    obtain ⟨ob, hob0⟩ : ∃ g, g = w2.heap.size := ⟨_, rfl⟩
    have HOB := Lib.hid hob0
    rw [← hob0] at RO0
    rw [← hob0]
    obtain ⟨wl, hwl⟩ : ∃ yW : World, yW = w2.alloc (.cells #[.slice ad n0 cd, .slice none 0 0] 30) := ⟨_, rfl⟩
    rw [← hwl] at RO0 q0 q1 RP2 RZ2 K2 OD SL x1
    rw [← hwl]
    clear hwl hob0
    have A0 : Hid (Acc wl wl.heap.size (fun _ => False) 71 5 (.slice none 0 0) ((fs.take 0).map (fun f => rowR (nrmF ds f)))) := by show Acc _ _ _ _ _ _ _; rw [List.take_zero]; exact Acc.nil _ _ _ _ _
    have E0 : Hid (Ext (fun k => k = ob) wl wl) := Ext.refl _ _
    have hsw : ob < wl.heap.size := by have := SL.out; have := HOB.out; omega
    have hws : w.heap.size + 2 ≤ ob := by have := HOB.out; omega
    go_loopw [22] (fun iv wr => ∃ (j : Nat) (DK : Nat → Prop) (ok : Value), j ≤ n1 ∧ iv = .int .i64 j ∧ Hid (wr.rowIs ob 30 2 (fun i => (#[.slice ad n0 cd, ok] : Array Value).getD i undef)) ∧ Hid (Acc wr wl.heap.size DK 71 5 ok ((fs.take j).map (fun f => rowR (nrmF ds f)))) ∧ Hid (∀ k, DK k → wl.heap.size ≤ k ∧ k < wr.heap.size) ∧ Hid (Ext (fun k => k = ob) wl wr)) (fun iv _ => n1 - (intOf iv).toNat)
    case atStart => exact ⟨0, fun _ => False, _, Nat.zero_le _, rfl, RO0, A0, fun _ h => h.elim, E0⟩
    case round =>
      clear A0 E0
      obtain ⟨j, DK, ok, hj, rfl, RSJ, HA, HD, HK⟩ := hrel
      obtain ⟨wo, rfl⟩ : ∃ wo : World, wo = wr := ⟨_, rfl⟩
      have hwo := HK.out.size
      obtain ⟨e1, hnc, hnm, hat⟩ := funcs_at q1.out
      have HL := Lib.hid e1
      by_cases hlt : j < n1
      · have hjl : j < fs.length := by omega
        obtain ⟨bf, o, rfl, hbf, ap, np, cp, ak, nk, ck, d0, d1, d2, d3, d4, rp, rk⟩ := hat j hlt
        have hns : ∀ k, (D1 k ∧ k < w.heap.size) → ¬ (k = ob) := fun k hk h => by omega
        have hns0 : ∀ k, (D0 k ∧ k < w.heap.size) → ¬ (k = ob) := fun k hk h => by omega
        have d0 := HK.out.cq d0 (hns _ hbf)
        have d1 := HK.out.cq d1 (hns _ hbf)
        have d2 := HK.out.cq d2 (hns _ hbf)
        have d3 := HK.out.cq d3 (hns _ hbf)
        have d4 := HK.out.cq d4 (hns _ hbf)
        have qp := rp.ext HK.out hns
        have qk := rk.ext HK.out hns
        have qd := q0.out.ext HK.out hns0
        have hnp : (fAt fs j).params.length = np := (ints_at rp).1
        have hpl := (sigF_at HOK.out hjl).1
        have hbo := bodyOk_parts HOK.out hjl ((progOk_parts HP.out).2 j hjl)
        have hnb : nE (fAt fs j).body ≤ 30 := by rw [nE_eq]; exact hbo.1
        have TY : Hid (0 ≤ tyE ds (fs.map sigF) (fAt fs j).params (fAt fs j).body) := by show _ ≤ _; rw [hbo.2]; exact (sigF_at HOK.out hjl).2.2
        have hn3 : np ≤ 3 := by omega
        have HL9 : Hid ((fAt fs j).params.length = (numsL 0 np).length) := by show _ = _; rw [numsL_len, hnp]
        have HB9 : Hid ((numsL 0 np).length + 4 * nE (fAt fs j).body ≤ 4000) := by show _ ≤ _; rw [numsL_len]; omega
        have HC9 : Hid (np + 4 * nE (fAt fs j).body ≤ 4000) := by show _ ≤ _; omega
        have HD9 : Hid (nE (fAt fs j).body ≤ 30) := hnb
        have LB := Lib.hid (implLower ds (fs.map sigF) HOK.out (fAt fs j).body)
        obtain ⟨s9, hs9⟩ : ∃ s, (lowE ds (fAt fs j).body (numsL 0 np) np).1 = s := ⟨_, rfl⟩
        obtain ⟨y9, hy9⟩ : ∃ s, (lowE ds (fAt fs j).body (numsL 0 np) np).2 = s := ⟨_, rfl⟩
        have hsl : s9.length ≤ 30 := by rw [← hs9]; exact Nat.le_trans (lowE_len ds _ _ _) hnb
        have HS9 := Lib.hid hs9
        have HY9 := Lib.hid hy9
        have HNF : Hid (rowR (nrmF ds (fAt fs j)) = rowR ⟨(fAt fs j).params, [], (fAt fs j).result, .mk s9 y9⟩) := by show _ = _; rw [nrmF, hnp, hs9, hy9]
        have HTK : Hid ((fs.take (j + 1)).map (fun f => rowR (nrmF ds f)) = (fs.take j).map (fun f => rowR (nrmF ds f)) ++ [rowR (nrmF ds (fAt fs j))]) := by show _ = _; rw [List.take_succ_eq_append_getElem hjl, List.map_append, fAt_get hjl]; rfl
        have HLR : Hid (((fs.take j).map (fun f => rowR (nrmF ds f))).length = j) := by show _ = _; rw [List.length_map, List.length_take]; omega
        have KF := (Keep.al wo (.cells #[.slice ap np cp, .int .i64 (fAt fs j).result, .int .i64 (fAt fs j).body.op, .int .i64 (fAt fs j).body.num, .slice ak nk ck] 60)).trans (Keep.al _ (.cells #[.slice a0 n0 c0, .int .i64 (np : Int), .slice none 0 0] 91))
        have RF := (rowOf wo #[.slice ap np cp, .int .i64 (fAt fs j).result, .int .i64 (fAt fs j).body.op, .int .i64 (fAt fs j).body.num, .slice ak nk ck] 60).alloc (.cells #[.slice a0 n0 c0, .int .i64 (np : Int), .slice none 0 0] 91)
        have RB := rowOf (wo.alloc (.cells #[.slice ap np cp, .int .i64 (fAt fs j).result, .int .i64 (fAt fs j).body.op, .int .i64 (fAt fs j).body.num, .slice ak nk ck] 60)) #[.slice a0 n0 c0, .int .i64 (np : Int), .slice none 0 0] 91
        simp only [World.size_alloc] at RB
        have x0 : wo.cell? ⟨w.heap.size, 0, none⟩ = some (.slice a0 n0 c0) := HK.out.cq (RP2.out.cell (i := 0) (by simp)) (fun h => by change w.heap.size = ob at h; omega)
        have x0f := (Keep.al wo (.cells #[.slice ap np cp, .int .i64 (fAt fs j).result, .int .i64 (fAt fs j).body.op, .int .i64 (fAt fs j).body.num, .slice ak nk ck] 60)).cq x0 (fun h => h)
        have f0 := RF.cell (i := 0) (by simp)
        simp at f0
        have QK := Lib.hid (qk.k KF)
        have QD := Lib.hid (qd.k KF)
        have QP := Lib.hid (qp.k KF)
        have RF := Lib.hid RF
        have RB := Lib.hid RB
        have sF : ((wo.alloc (.cells #[.slice ap np cp, .int .i64 (fAt fs j).result, .int .i64 (fAt fs j).body.op, .int .i64 (fAt fs j).body.num, .slice ak nk ck] 60)).alloc (.cells #[.slice a0 n0 c0, .int .i64 (np : Int), .slice none 0 0] 91)).heap.size = wo.heap.size + 2 := by simp
        have SF := Lib.hid sF
        have KF' := Lib.hid KF
        have HNP := Lib.hid hnp
        have hob := Lib.hid (fun k hk => (HA.out.bound k hk).2)
        have HNO : Hid (∀ k, k < wl.heap.size → ¬ ok.ownBlock = some k) := fun k hk e => by have := (HA.out.bound k e).1; omega
        clear qp qk qd rp rk hnp hpl hbo hnb hs9 hy9 hat hns hns0 sF KF e1
        go_wp2_with (at_make; go_must (refine wpList_makeN _ rfl _ _ 52 rfl 3 (.int .i64 0) #[.int .i64 0] 1 8 Tryz.underlying52 (by kernel_rfl) rfl rfl np rfl rfl (by omega) (by omega) ?_); intro we hrow hke hsz)
        go_wp2_with fail
        obtain ⟨fb, hfb⟩ : ∃ g, g = wo.heap.size := ⟨_, rfl⟩
        obtain ⟨qb, hqb⟩ : ∃ g, g = wo.heap.size + 1 := ⟨_, rfl⟩
        obtain ⟨eb, heb⟩ : ∃ g, g = wo.heap.size + 1 + 1 := ⟨_, rfl⟩
        have HFB := Lib.hid hfb
        have HQB := Lib.hid hqb
        have HEB := Lib.hid heb
        have hse : we.heap.size = eb + 1 := by rw [hsz, heb, SF.out]
        rw [show ((wo.alloc (.cells #[.slice ap np cp, .int .i64 (fAt fs j).result, .int .i64 (fAt fs j).body.op, .int .i64 (fAt fs j).body.num, .slice ak nk ck] 60)).alloc (.cells #[.slice a0 n0 c0, .int .i64 (np : Int), .slice none 0 0] 91)).heap.size = eb by rw [heb, SF.out], Nat.mul_one] at hrow
        rw [← heb, ← hqb, ← hfb]
        have HSE := Lib.hid hse
        have RE0 : Hid (we.rowIs eb 3 np (fun i => if i < 0 then .int .i64 (i : Int) else .int .i64 0)) := hrow.congr (fun i hi => by simp [Nat.mod_one])
        have KE := Lib.hid hke
        have XE0 : Hid (Ext (fun k => k = eb) we we) := Ext.refl _ _
        have RF2 := Lib.hid (row_ext RF.out hke (fun h => h))
        have RB2 := Lib.hid (row_ext RB.out hke (fun h => h))
        rw [← hfb] at RF2
        rw [← hqb] at RB2
        have QK2 := Lib.hid (QK.out.k hke)
        have QD2 := Lib.hid (QD.out.k hke)
        have QP2 := Lib.hid (QP.out.k hke)
        clear hfb hqb heb hse hrow hke hsz RF RB x0 x0f f0 d0 d1 d2 d3 d4
        go_loopw [38] (fun iv wr => ∃ (k : Nat), k ≤ np ∧ iv = .int .i64 k ∧ Hid (wr.rowIs eb 3 np (fun i => if i < k then .int .i64 (i : Int) else .int .i64 0)) ∧ Hid (Ext (fun k => k = eb) we wr)) (fun iv _ => np - (intOf iv).toNat)
        case atStart => exact ⟨0, Nat.zero_le _, rfl, RE0, XE0⟩
        case round =>
          clear RE0 XE0
          obtain ⟨k, hk, rfl, HRE, HXE⟩ := hrel
          obtain ⟨wv, rfl⟩ : ∃ wv : World, wv = wr := ⟨_, rfl⟩
          by_cases hkl : k < np
          · have g1 := HRE.out.cell hkl
            rw [if_neg (Nat.lt_irrefl _)] at g1
            have g2 := HRE.out.frozen k
            go_wp2_with fail
            go_roundw
            case rel => exact ⟨k + 1, by omega, by go_num, (HRE.out.set k (.int .i64 (k : Int))).congr (fun i hi => by
              by_cases e : i = k
              · subst e; rw [if_pos rfl, if_pos (by omega)]
              · rw [if_neg e]
                by_cases e2 : i < k
                · rw [if_pos e2, if_pos (by omega)]
                · rw [if_neg e2, if_neg (by omega)]), HXE.out.setCell (p := ⟨eb, k, none⟩) (.inr rfl) _⟩
            case measure => simp [intOf]; omega
          · have hkn : k = np := by omega
            subst hkn
            have hwv := HXE.out.size
            have hfe : fb ≠ eb := by have h1 := HFB.out; have h2 := HEB.out; omega
            have hqe : qb ≠ eb := by have h1 := HQB.out; have h2 := HEB.out; omega
            have RF3 := row_ext RF2.out HXE.out hfe
            have RB3 := row_ext RB2.out HXE.out hqe
            have f2 : wv.cell? ⟨fb, 2, none⟩ = some (.int .i64 (fAt fs j).body.op) := RF3.cell (i := 2) (by simp)
            have f3 : wv.cell? ⟨fb, 3, none⟩ = some (.int .i64 (fAt fs j).body.num) := RF3.cell (i := 3) (by simp)
            have f4 : wv.cell? ⟨fb, 4, none⟩ = some (.slice ak nk ck) := RF3.cell (i := 4) (by simp)
            have hew : w.heap.size + 2 ≤ eb := by have := HEB.out; omega
            have hqw : w.heap.size + 2 ≤ qb := by have := HQB.out; omega
            have QE : Hid (Rd wv (fun k => k ≠ qb) (encInts (numsL 0 k)) (.slice (some ⟨eb, 0, none⟩) k k)) := by
              have hO : OwnInts wv (fun k => k ≠ qb) (some ⟨eb, 0, none⟩) k (numsL 0 k) := ⟨numsL_len 0 k, fun h => ⟨eb, k, _, rfl, fun e => hqe e.symm, Nat.le_refl _, HRE.out, fun i hi => by
                show (if i < k then Value.int .i64 (i : Int) else .int .i64 0) = _
                rw [if_pos hi, iAt_eq (by rw [numsL_len]; exact hi)]
                simp [numsL]⟩⟩
              exact hO.read.toRd (Nat.le_refl _) (by omega)
            have QDv := Lib.hid ((QD2.out.ext HXE.out (fun k hk e => by omega)).mono (D' := fun k => k ≠ qb) (fun k hk e => by omega))
            have QKv := Lib.hid ((QK2.out.ext HXE.out (fun k hk e => by omega)).mono (D' := fun k => k ≠ qb) (fun k hk e => by omega))
            have QPv := Lib.hid (QP2.out.ext HXE.out (fun k hk e => by omega))
            have LQ : Hid (LowSt wv we.heap.size qb 91 #[.slice a0 n0 c0, .int .i64 (k : Int), .slice none 0 0] (fun _ => False) (.slice none 0 0) []) := ⟨RB3, Acc.nil _ _ _ _ _, fun h => h, fun k hk => (by cases hk), fun _ h => h.elim, hwv⟩
            have hc := LB.out (fAt fs j).params (numsL 0 k) k (k : Int) qb we.heap.size (fun _ => False) (fun k => k ≠ qb) (.slice none 0 0) [] a0 n0 c0 (some ⟨eb, 0, none⟩) k k ak nk ck wv LQ.out rfl QDv.out QE.out QKv.out (fun k hk => ⟨hk, fun e => by cases e⟩) TY.out HL9.out HB9.out HC9.out (by have := HD9.out; simp; omega)
            rw [HS9.out, HY9.out] at hc
            replace hc := Lib.hid hc
            have RF3' := Lib.hid RF3
            clear RF3 RB3 hfe hqe
            go_wp2_with fail
            refine hc.out.mono ?_
            clear hc
            rintro e wx ⟨v5, D5, rfl, L5, T5⟩
            obtain ⟨az, cs, e9, hcs, hos⟩ := L5.acc.own (by omega) (by rw [List.nil_append, rowsS_map, List.length_map]; omega)
            have hl : (rowsS s9).length = s9.length := by rw [rowsS_map, List.length_map]
            rw [List.nil_append, hl] at e9
            rw [List.nil_append] at hos
            obtain ⟨ns, hns9⟩ : ∃ m, s9.length = m := ⟨_, rfl⟩
            rw [hns9] at e9
            subst e9
            have q2 : wx.cell? ⟨qb, 2, none⟩ = some (.slice az ns cs) := L5.row.cell (i := 2) (by simp)
            have hT : ∀ i, (i = qb ∨ (Value.slice none 0 0).ownBlock = some i) → i = qb := fun i hi => by
              rcases hi with hi | hi
              · exact hi
              · cases hi
            have hx5 := T5.ext.size
            have RF5 := row_ext RF3'.out T5.ext (fun h => by have h1 := hT _ h; have h2 := HFB.out; have h3 := HQB.out; omega)
            have f0 : wx.cell? ⟨fb, 0, none⟩ = some (.slice ap k cp) := RF5.cell (i := 0) (by simp)
            have f1 : wx.cell? ⟨fb, 1, none⟩ = some (.int .i64 (fAt fs j).result) := RF5.cell (i := 1) (by simp)
            have KXO : Hid (Keep wo wx) := by
              show Keep _ _
              exact ((KF'.out.trans KE.out).then_ HXE.out (fun i hi e => by have := HEB.out; omega)).then_ T5.ext (fun i hi e => by have h1 := hT _ e; have h2 := HQB.out; omega)
            have RX := Lib.hid (row_ext RSJ.out KXO.out (fun h => h))
            have z1 : wx.cell? ⟨ob, 1, none⟩ = some ok := RX.out.cell (i := 1) (by omega)
            have HAX := Lib.hid (HA.out.keep KXO.out)
            have hwx := KXO.out.size
            have OSX : Hid (Own wx (fun i => wo.heap.size ≤ i ∧ i < wx.heap.size) (encSteps s9) (.slice az ns cs)) := hos.lt.mono (fun i hi => ⟨by
              have h1 := HSE.out
              have h2 := HEB.out
              rcases hi.1 with h | h
              · rcases T5.sub i h with h | h
                · exact h.elim
                · omega
              · omega, hi.2⟩)
            have QPX := Lib.hid (QPv.out.ext T5.ext (fun i hi e => by have h1 := hT _ e; omega))
            clear L5 T5 hos hT hcs hns9 RF5 f2 f3 f4
            go_wp2_with fail
            refine wp_region_held_drew (S := fun w' => w'.cell? ⟨fb, 0, none⟩ = some (.slice ap k cp) ∧ w'.cell? ⟨fb, 1, none⟩ = some (.int .i64 (fAt fs j).result) ∧ w'.cell? ⟨qb, 2, none⟩ = some (.slice az ns cs)) (by kernel_rfl) ⟨f0, f1, q2⟩ (fun hHeld => ?_)
            refine wT 0 hHeld ?_
            try go_frame
            refine wT 2 hHeld ?_
            try go_frame
            refine wT 3 hHeld ?_
            try go_frame
            refine wT 5 hHeld ?_
            try go_frame
            refine wT 6 hHeld ?_
            try go_frame
            refine wT 7 hHeld ?_
            try go_frame
            refine wT 8 hHeld ?_
            try go_frame
            refine wT 9 hHeld ?_
            try go_frame
            refine wT 10 hHeld ?_
            try go_frame
            refine wpAnyH_ready (rs := [1, 4]) (by kernel_rfl) (by simp) ?_
            refine allReadyH_consL rfl (by rfl) (fun K hK => ?_) (allReadyH_consL rfl (by rfl) (fun K hK => ?_) (AllReadyH.nil))
            go_simp
            refine hK.out _ _ ⟨f0, f1, q2⟩ (fun hHeld => ?_)
            clear hK K
            try go_frame
            refine wO 4 (fun K hK => ?_)
            go_simp
            go_at_call 54
            refine (cloneInts ap k cp (fAt fs j).params _ wx.drew (QPX.out.kd).toInts (by omega)).mono ?_
            rintro e Y1 ⟨vp, rfl, hvp, kY1⟩
            have f0Y1 := Keep.at kY1 f0
            have f1Y1 := Keep.at kY1 f1
            have q2Y1 := Keep.at kY1 q2
            have z1Y1 := Keep.at kY1 z1
            obtain ⟨a9, c9, e9, hc9, _⟩ := hvp.slice
            obtain ⟨n9, hn9⟩ : ∃ m, (fAt fs j).params.length = m := ⟨_, rfl⟩
            rw [hn9] at e9
            subst e9
            have HVP : Hid (VR Y1 wx.heap.size (.slice a9 n9 c9) (fAt fs j).params) := hvp.lower (Nat.le_refl _)
            have OVP := Lib.hid (HVP.out.owns (by have := HNP.out; omega))
            have hvl := HVP.out.lt
            have HVL := Lib.hid hvl
            have KY := Lib.hid (Keep.dt kY1)
            clear hvp hc9 hn9 hvl
            refine hK.out _ _ ⟨f0Y1, f1Y1, q2Y1⟩ (fun hHeld => ?_)
            clear hK K
            try go_frame
            refine wT 11 hHeld ?_
            try go_frame
            refine wO 12 (fun K hK => ?_)
            go_simp
            obtain ⟨Y2, hWY2⟩ : ∃ yW : World, yW = (Y1.alloc (.cells #[.slice a9 n9 c9, .slice none 0 0, .int .i64 (fAt fs j).result, .slice az ns cs, .int .i64 y9] 71)) := ⟨_, rfl⟩
            rw [← hWY2]
            have kY2 : Keep Y1 Y2 := by rw [hWY2]; exact Keep.al Y1 (.cells #[.slice a9 n9 c9, .slice none 0 0, .int .i64 (fAt fs j).result, .slice az ns cs, .int .i64 y9] 71)
            have hzY2 : Hid (Y2.heap.size = Y1.heap.size + 1) := by show _ = _; rw [hWY2]; exact World.size_alloc _ _
            have f0Y2 := kY2.cq f0Y1 (fun h => h)
            have f1Y2 := kY2.cq f1Y1 (fun h => h)
            have q2Y2 := kY2.cq q2Y1 (fun h => h)
            have z1Y2 := kY2.cq z1Y1 (fun h => h)
            have HCL : Hid (∀ j' u, [(.slice a9 n9 c9 : Value), .slice none 0 0, .int .i64 (fAt fs j).result, .slice az ns cs, .int .i64 y9][j']? = some u → Y2.cell? ⟨Y1.heap.size, j', none⟩ = some u) := by show ∀ _ _, _; rw [hWY2]; exact cells_lit Y1 _ _
            have KY2 := Lib.hid (KY.out.trans kY2)
            have OA2 := Lib.hid (OVP.out.ext kY2 (fun _ _ h => h))
            have OS2 := Lib.hid (OSX.out.ext KY2.out (fun _ _ h => h))
            replace hWY2 := Lib.hid hWY2
            refine hK.out _ _ ⟨f0Y2, f1Y2, q2Y2⟩ (fun hHeld => ?_)
            clear hK K
            try go_frame
            refine wO 13 (fun K hK => ?_)
            refine wp_of_step (ops := #[]) (by rfl) (step_addRt (by rfl) (.tmp 51) (.tmp 62) (by rfl) wl.heap.size ok _ (by rfl) (HAX.out.keep KY2.out) _ 1 ⟨(fAt fs j).params, [], (fAt fs j).result, .mk s9 y9⟩ (.slice a9 n9 c9) (.slice none 0 0) (.slice az ns cs) _ (fun _ => False) _ (by rfl) HCL.out OA2.out (.nil _ _ _ _) OS2.out (fun k hk => ?_) (fun _ _ h => h) (fun k h1 h2 => ?_) (fun _ h => h.elim) (by have := HLR.out; omega) (by have h1 := KY2.out.size; omega) ?_)
            · have hge : wo.heap.size ≤ k := by
                rcases hk with hk | hk | hk
                · have := (HVL.out k hk).1; omega
                · exact hk.elim
                · exact hk.1
              exact ⟨fun h => by have := (HD.out k h).2; omega, fun h => by have := hob.out k h; omega⟩
            · have h3 := (HVL.out k h1).1; have h4 := h2.2; omega
            intro a7 n7 c7 wz hA7 x7 s7 b7
            have A7 := Lib.hid hA7
            have X7 := Lib.hid x7
            have B7 := Lib.hid b7
            clear hA7 x7 s7 b7
            have f0z := X7.out.cq f0Y2 (fun e => by have h1 := hob.out _ e; have h2 := HFB.out; change fb < _ at h1; omega)
            have f1z := X7.out.cq f1Y2 (fun e => by have h1 := hob.out _ e; have h2 := HFB.out; change fb < _ at h1; omega)
            have q2z := X7.out.cq q2Y2 (fun e => by have h1 := hob.out _ e; have h2 := HQB.out; change qb < _ at h1; omega)
            refine hK.out _ _ ⟨f0z, f1z, q2z⟩ (fun hHeld => ?_)
            clear hK K
            try go_frame
            refine wT 14 hHeld ?_
            try go_frame
            refine wO 15 (fun K hK => ?_)
            have RZ := Lib.hid (row_ext (row_ext RX.out KY2.out (fun h => h)) X7.out (HNO.out _ hsw))
            have g1 : wz.cell? ⟨ob, 1, none⟩ = some ok := RZ.out.cell (i := 1) (by omega)
            have g2 := RZ.out.frozen 1
            have hq1 : ob ≠ fb := by have := HFB.out; omega
            have hq2 : ob ≠ qb := by have := HQB.out; omega
            go_simp
            obtain ⟨wy, hWy⟩ : ∃ y : World, y = wz.setCell ⟨ob, 1, none⟩ (.slice a7 n7 c7) := ⟨_, rfl⟩
            rw [← hWy]
            have XY : Hid (Ext (fun k => k = ob) wz wy) := by show Ext _ _ _; rw [hWy]; exact (Ext.refl (fun k => k = ob) wz).setCell (p := ⟨ob, 1, none⟩) (.inr rfl) _
            have RY : Hid (wy.rowIs ob 30 2 (fun i => (#[.slice ad n0 cd, .slice a7 n7 c7] : Array Value).getD i undef)) := by
              show World.rowIs _ _ _ _ _
              rw [hWy]
              exact (RZ.out.set 1 _).congr (fun i hi => by rcases (show i = 0 ∨ i = 1 by omega) with rfl | rfl <;> rfl)
            replace hWy := Lib.hid hWy
            have f0y := XY.out.cq f0z (fun h => hq1 h.symm)
            have f1y := XY.out.cq f1z (fun h => hq1 h.symm)
            have q2y := XY.out.cq q2z (fun h => hq2 h.symm)
            refine hK.out _ _ ⟨f0y, f1y, q2y⟩ (fun hHeld => ?_)
            clear hK K
            try go_frame
            refine wpAnyH_done (by kernel_rfl) ?_ _
            rotate_left
            go_simp
            go_at_call 54
            refine (cloneInts ap k cp (fAt fs j).params _ wx.drew (QPX.out.kd).toInts (by omega)).mono ?_
            rintro e Y1 ⟨vp, rfl, hvp, kY1⟩
            have f0Y1 := Keep.at kY1 f0
            have f1Y1 := Keep.at kY1 f1
            have q2Y1 := Keep.at kY1 q2
            have z1Y1 := Keep.at kY1 z1
            obtain ⟨a9, c9, e9, hc9, _⟩ := hvp.slice
            obtain ⟨n9, hn9⟩ : ∃ m, (fAt fs j).params.length = m := ⟨_, rfl⟩
            rw [hn9] at e9
            subst e9
            have HVP : Hid (VR Y1 wx.heap.size (.slice a9 n9 c9) (fAt fs j).params) := hvp.lower (Nat.le_refl _)
            have OVP := Lib.hid (HVP.out.owns (by have := HNP.out; omega))
            have hvl := HVP.out.lt
            have HVL := Lib.hid hvl
            have KY := Lib.hid (Keep.dt kY1)
            clear hvp hc9 hn9 hvl
            refine hK.out _ _ ⟨f0Y1, f1Y1, q2Y1⟩ (fun hHeld => ?_)
            clear hK K
            try go_frame
            refine wT 11 hHeld ?_
            try go_frame
            refine wpAnyH_ready (rs := [1, 12]) (by kernel_rfl) (by simp) ?_
            refine allReadyH_consL rfl (by rfl) (fun K hK => ?_) (allReadyH_consL rfl (by rfl) (fun K hK => ?_) (AllReadyH.nil))
            go_simp
            refine hK.out _ _ ⟨f0Y1, f1Y1, q2Y1⟩ (fun hHeld => ?_)
            clear hK K
            try go_frame
            refine wO 12 (fun K hK => ?_)
            go_simp
            obtain ⟨Y2, hWY2⟩ : ∃ yW : World, yW = (Y1.alloc (.cells #[.slice a9 n9 c9, .slice none 0 0, .int .i64 (fAt fs j).result, .slice az ns cs, .int .i64 y9] 71)) := ⟨_, rfl⟩
            rw [← hWY2]
            have kY2 : Keep Y1 Y2 := by rw [hWY2]; exact Keep.al Y1 (.cells #[.slice a9 n9 c9, .slice none 0 0, .int .i64 (fAt fs j).result, .slice az ns cs, .int .i64 y9] 71)
            have hzY2 : Hid (Y2.heap.size = Y1.heap.size + 1) := by show _ = _; rw [hWY2]; exact World.size_alloc _ _
            have f0Y2 := kY2.cq f0Y1 (fun h => h)
            have f1Y2 := kY2.cq f1Y1 (fun h => h)
            have q2Y2 := kY2.cq q2Y1 (fun h => h)
            have z1Y2 := kY2.cq z1Y1 (fun h => h)
            have HCL : Hid (∀ j' u, [(.slice a9 n9 c9 : Value), .slice none 0 0, .int .i64 (fAt fs j).result, .slice az ns cs, .int .i64 y9][j']? = some u → Y2.cell? ⟨Y1.heap.size, j', none⟩ = some u) := by show ∀ _ _, _; rw [hWY2]; exact cells_lit Y1 _ _
            have KY2 := Lib.hid (KY.out.trans kY2)
            have OA2 := Lib.hid (OVP.out.ext kY2 (fun _ _ h => h))
            have OS2 := Lib.hid (OSX.out.ext KY2.out (fun _ _ h => h))
            replace hWY2 := Lib.hid hWY2
            refine hK.out _ _ ⟨f0Y2, f1Y2, q2Y2⟩ (fun hHeld => ?_)
            clear hK K
            try go_frame
            refine wO 13 (fun K hK => ?_)
            refine wp_of_step (ops := #[]) (by rfl) (step_addRt (by rfl) (.tmp 51) (.tmp 62) (by rfl) wl.heap.size ok _ (by rfl) (HAX.out.keep KY2.out) _ 1 ⟨(fAt fs j).params, [], (fAt fs j).result, .mk s9 y9⟩ (.slice a9 n9 c9) (.slice none 0 0) (.slice az ns cs) _ (fun _ => False) _ (by rfl) HCL.out OA2.out (.nil _ _ _ _) OS2.out (fun k hk => ?_) (fun _ _ h => h) (fun k h1 h2 => ?_) (fun _ h => h.elim) (by have := HLR.out; omega) (by have h1 := KY2.out.size; omega) ?_)
            · have hge : wo.heap.size ≤ k := by
                rcases hk with hk | hk | hk
                · have := (HVL.out k hk).1; omega
                · exact hk.elim
                · exact hk.1
              exact ⟨fun h => by have := (HD.out k h).2; omega, fun h => by have := hob.out k h; omega⟩
            · have h3 := (HVL.out k h1).1; have h4 := h2.2; omega
            intro a7 n7 c7 wz hA7 x7 s7 b7
            have A7 := Lib.hid hA7
            have X7 := Lib.hid x7
            have B7 := Lib.hid b7
            clear hA7 x7 s7 b7
            have f0z := X7.out.cq f0Y2 (fun e => by have h1 := hob.out _ e; have h2 := HFB.out; change fb < _ at h1; omega)
            have f1z := X7.out.cq f1Y2 (fun e => by have h1 := hob.out _ e; have h2 := HFB.out; change fb < _ at h1; omega)
            have q2z := X7.out.cq q2Y2 (fun e => by have h1 := hob.out _ e; have h2 := HQB.out; change qb < _ at h1; omega)
            refine hK.out _ _ ⟨f0z, f1z, q2z⟩ (fun hHeld => ?_)
            clear hK K
            try go_frame
            refine wT 14 hHeld ?_
            try go_frame
            refine wO 15 (fun K hK => ?_)
            have RZ := Lib.hid (row_ext (row_ext RX.out KY2.out (fun h => h)) X7.out (HNO.out _ hsw))
            have g1 : wz.cell? ⟨ob, 1, none⟩ = some ok := RZ.out.cell (i := 1) (by omega)
            have g2 := RZ.out.frozen 1
            have hq1 : ob ≠ fb := by have := HFB.out; omega
            have hq2 : ob ≠ qb := by have := HQB.out; omega
            go_simp
            obtain ⟨wy, hWy⟩ : ∃ y : World, y = wz.setCell ⟨ob, 1, none⟩ (.slice a7 n7 c7) := ⟨_, rfl⟩
            rw [← hWy]
            have XY : Hid (Ext (fun k => k = ob) wz wy) := by show Ext _ _ _; rw [hWy]; exact (Ext.refl (fun k => k = ob) wz).setCell (p := ⟨ob, 1, none⟩) (.inr rfl) _
            have RY : Hid (wy.rowIs ob 30 2 (fun i => (#[.slice ad n0 cd, .slice a7 n7 c7] : Array Value).getD i undef)) := by
              show World.rowIs _ _ _ _ _
              rw [hWy]
              exact (RZ.out.set 1 _).congr (fun i hi => by rcases (show i = 0 ∨ i = 1 by omega) with rfl | rfl <;> rfl)
            replace hWy := Lib.hid hWy
            have f0y := XY.out.cq f0z (fun h => hq1 h.symm)
            have f1y := XY.out.cq f1z (fun h => hq1 h.symm)
            have q2y := XY.out.cq q2z (fun h => hq2 h.symm)
            refine hK.out _ _ ⟨f0y, f1y, q2y⟩ (fun hHeld => ?_)
            clear hK K
            try go_frame
            refine wpAnyH_done (by kernel_rfl) ?_ _
            rotate_left
            go_simp
            obtain ⟨Y2, hWY2⟩ : ∃ yW : World, yW = (Y1.alloc (.cells #[.slice a9 n9 c9, .slice none 0 0, .int .i64 (fAt fs j).result, .slice az ns cs, .int .i64 y9] 71)) := ⟨_, rfl⟩
            rw [← hWY2]
            have kY2 : Keep Y1 Y2 := by rw [hWY2]; exact Keep.al Y1 (.cells #[.slice a9 n9 c9, .slice none 0 0, .int .i64 (fAt fs j).result, .slice az ns cs, .int .i64 y9] 71)
            have hzY2 : Hid (Y2.heap.size = Y1.heap.size + 1) := by show _ = _; rw [hWY2]; exact World.size_alloc _ _
            have f0Y2 := kY2.cq f0Y1 (fun h => h)
            have f1Y2 := kY2.cq f1Y1 (fun h => h)
            have q2Y2 := kY2.cq q2Y1 (fun h => h)
            have z1Y2 := kY2.cq z1Y1 (fun h => h)
            have HCL : Hid (∀ j' u, [(.slice a9 n9 c9 : Value), .slice none 0 0, .int .i64 (fAt fs j).result, .slice az ns cs, .int .i64 y9][j']? = some u → Y2.cell? ⟨Y1.heap.size, j', none⟩ = some u) := by show ∀ _ _, _; rw [hWY2]; exact cells_lit Y1 _ _
            have KY2 := Lib.hid (KY.out.trans kY2)
            have OA2 := Lib.hid (OVP.out.ext kY2 (fun _ _ h => h))
            have OS2 := Lib.hid (OSX.out.ext KY2.out (fun _ _ h => h))
            replace hWY2 := Lib.hid hWY2
            refine hK.out _ _ ⟨f0Y2, f1Y2, q2Y2⟩ (fun hHeld => ?_)
            clear hK K
            try go_frame
            refine wO 1 (fun K hK => ?_)
            go_simp
            refine hK.out _ _ ⟨f0Y2, f1Y2, q2Y2⟩ (fun hHeld => ?_)
            clear hK K
            try go_frame
            refine wO 13 (fun K hK => ?_)
            refine wp_of_step (ops := #[]) (by rfl) (step_addRt (by rfl) (.tmp 51) (.tmp 62) (by rfl) wl.heap.size ok _ (by rfl) (HAX.out.keep KY2.out) _ 1 ⟨(fAt fs j).params, [], (fAt fs j).result, .mk s9 y9⟩ (.slice a9 n9 c9) (.slice none 0 0) (.slice az ns cs) _ (fun _ => False) _ (by rfl) HCL.out OA2.out (.nil _ _ _ _) OS2.out (fun k hk => ?_) (fun _ _ h => h) (fun k h1 h2 => ?_) (fun _ h => h.elim) (by have := HLR.out; omega) (by have h1 := KY2.out.size; omega) ?_)
            · have hge : wo.heap.size ≤ k := by
                rcases hk with hk | hk | hk
                · have := (HVL.out k hk).1; omega
                · exact hk.elim
                · exact hk.1
              exact ⟨fun h => by have := (HD.out k h).2; omega, fun h => by have := hob.out k h; omega⟩
            · have h3 := (HVL.out k h1).1; have h4 := h2.2; omega
            intro a7 n7 c7 wz hA7 x7 s7 b7
            have A7 := Lib.hid hA7
            have X7 := Lib.hid x7
            have B7 := Lib.hid b7
            clear hA7 x7 s7 b7
            have f0z := X7.out.cq f0Y2 (fun e => by have h1 := hob.out _ e; have h2 := HFB.out; change fb < _ at h1; omega)
            have f1z := X7.out.cq f1Y2 (fun e => by have h1 := hob.out _ e; have h2 := HFB.out; change fb < _ at h1; omega)
            have q2z := X7.out.cq q2Y2 (fun e => by have h1 := hob.out _ e; have h2 := HQB.out; change qb < _ at h1; omega)
            refine hK.out _ _ ⟨f0z, f1z, q2z⟩ (fun hHeld => ?_)
            clear hK K
            try go_frame
            refine wT 14 hHeld ?_
            try go_frame
            refine wO 15 (fun K hK => ?_)
            have RZ := Lib.hid (row_ext (row_ext RX.out KY2.out (fun h => h)) X7.out (HNO.out _ hsw))
            have g1 : wz.cell? ⟨ob, 1, none⟩ = some ok := RZ.out.cell (i := 1) (by omega)
            have g2 := RZ.out.frozen 1
            have hq1 : ob ≠ fb := by have := HFB.out; omega
            have hq2 : ob ≠ qb := by have := HQB.out; omega
            go_simp
            obtain ⟨wy, hWy⟩ : ∃ y : World, y = wz.setCell ⟨ob, 1, none⟩ (.slice a7 n7 c7) := ⟨_, rfl⟩
            rw [← hWy]
            have XY : Hid (Ext (fun k => k = ob) wz wy) := by show Ext _ _ _; rw [hWy]; exact (Ext.refl (fun k => k = ob) wz).setCell (p := ⟨ob, 1, none⟩) (.inr rfl) _
            have RY : Hid (wy.rowIs ob 30 2 (fun i => (#[.slice ad n0 cd, .slice a7 n7 c7] : Array Value).getD i undef)) := by
              show World.rowIs _ _ _ _ _
              rw [hWy]
              exact (RZ.out.set 1 _).congr (fun i hi => by rcases (show i = 0 ∨ i = 1 by omega) with rfl | rfl <;> rfl)
            replace hWy := Lib.hid hWy
            have f0y := XY.out.cq f0z (fun h => hq1 h.symm)
            have f1y := XY.out.cq f1z (fun h => hq1 h.symm)
            have q2y := XY.out.cq q2z (fun h => hq2 h.symm)
            refine hK.out _ _ ⟨f0y, f1y, q2y⟩ (fun hHeld => ?_)
            clear hK K
            try go_frame
            refine wpAnyH_done (by kernel_rfl) ?_ _
            rotate_left
            all_goals
              have KR := Lib.hid ((((HK.out.trans (Keep.to KXO.out)).trans (Keep.to KY2.out)).then_ X7.out (fun i hi h => absurd h (HNO.out i hi))).trans XY.out)
              have hx7 := X7.out.size
              have hk2 := KY2.out.size
              have hxy := XY.out.size
              go_wp2
              go_roundw
              case rel => exact ⟨j + 1, _, .slice a7 n7 c7, by omega, by go_num, RY.out, (by
                show Acc _ _ _ _ _ _ _
                rw [HTK.out, HNF.out]
                refine A7.out.extO XY.out (fun k hk hd e => ?_) (fun k hk e => ?_)
                · rcases hd with hd | hd
                  · have := (HD.out k hd).1; omega
                  · rcases hd.1 with h | h | h
                    · have := (HVL.out k h).1; omega
                    · exact h.elim
                    · have := h.1; omega
                · rcases B7.out k hk with h | h
                  · exact HNO.out k (by omega) h
                  · omega), (fun k hk => by
                rcases hk with hk | hk
                · have := HD.out k hk; omega
                · have h2 := hk.2
                  rcases hk.1 with h | h | h
                  · have := (HVL.out k h).1; omega
                  · exact h.elim
                  · have := h.1; omega), KR.out⟩
              case measure => simp [intOf]; omega
      · have hjn : j = n1 := by omega
        subst hjn
        have HJ : Hid (fs.take j = fs) := by show _ = _; rw [List.take_of_length_le (by have := HL.out; omega)]
        rw [HJ.out] at HA
        obtain ⟨ar, cr, e9, hcr, hor⟩ := HA.out.own (by omega) (by rw [List.length_map]; omega)
        obtain ⟨nr9, hnr9⟩ : ∃ m, (fs.map (fun f => rowR (nrmF ds f))).length = m := ⟨_, rfl⟩
        rw [hnr9] at e9
        subst e9
        have RT := row_ext RZ2.out HK.out (fun h => by omega)
        have t0 : wo.cell? ⟨w.heap.size + 1, 0, none⟩ = some (.slice none 0 0) := RT.cell (i := 0) (by simp)
        have t1 : wo.cell? ⟨w.heap.size + 1, 1, none⟩ = some (.slice none 0 0) := RT.cell (i := 1) (by simp)
        have t2 := RT.frozen 0
        have t3 := RT.frozen 1
        have z0 : wo.cell? ⟨ob, 0, none⟩ = some (.slice ad n0 cd) := RSJ.out.cell (i := 0) (by omega)
        have z1 : wo.cell? ⟨ob, 1, none⟩ = some (.slice ar nr9 cr) := RSJ.out.cell (i := 1) (by omega)
        have X := (((Ext.refl (fun k => k = w.heap.size + 1) wo).setCell (p := ⟨w.heap.size + 1, 0, none⟩) (.inr rfl) (.slice ad n0 cd)).setCell (p := ⟨w.heap.size + 1, 1, none⟩) (.inr rfl) (.slice ar nr9 cr))
        have hol := HOB.out
        have KF := Lib.hid ((K2.out.then_ HK.out (fun i hi e => by omega)).then_ X (fun i hi e => by omega))
        have hxs := X.size
        have TF : Hid (ToS w.heap.size (((wo.setCell ⟨w.heap.size + 1, 0, none⟩ (.slice ad n0 cd)).setCell ⟨w.heap.size + 1, 1, none⟩ (.slice ar nr9 cr))).heap.size ((wo.setCell ⟨w.heap.size + 1, 0, none⟩ (.slice ad n0 cd)).setCell ⟨w.heap.size + 1, 1, none⟩ (.slice ar nr9 cr)) [encDecls ds, encRouts (fs.map (nrmF ds))] [.slice ad n0 cd, .slice ar nr9 cr]) := by
          have hsl := SL.out
          refine ToS.mk2 (E0 := fun k => w1.heap.size ≤ k ∧ k < w2.heap.size) (E1 := fun k => wl.heap.size ≤ k ∧ k < wo.heap.size) (fun k hk => by omega) (fun k hk => by omega) (fun k h1 h2 => by omega) ((OD.out.ext HK.out (fun k hk e => by omega)).ext X (fun k hk e => by omega)) ?_
          rw [encRouts, List.map_map]
          exact (hor.lt.mono (D' := fun k => wl.heap.size ≤ k ∧ k < wo.heap.size) (fun k hk => ⟨by rcases hk.1 with h | h; exact (HD.out k h).1; exact h, hk.2⟩)).ext X (fun k hk e => by omega)
        clear RT X hor hnr9 hol
        go_wp2_with fail
        exact bodyPost_ret (v := .tuple #[.agg #[.slice ad n0 cd, .slice ar nr9 cr], .bool true]) (by simp [results, Tryz.results17, go_sem, t0, t1]) rfl (fin_ hQ ⟨ad, n0, cd, ar, nr9, cr, rfl, TF.out, KF.out⟩)
end Go.Proofs.YtkapldpmjkdmcaaGreat
/- How many integers data have, against how many elements. -/
namespace Go.Proofs.YtkapldpmjkdmcaaGreat
open Go.RowKit

theorem cnt_map {α : Type} (f : α → List Dat) (l : List α) (h : ∀ x ∈ l, cntR (f x) ≤ 3 + 3 * szR (f x)) : cntRR (l.map f) ≤ 3 * (l.length + szRR (l.map f)) := by
  induction l with
  | nil => simp [cntRR]
  | cons x xs ih =>
    have h1 := h x (by simp)
    have h2 := ih (fun y hy => h y (by simp [hy]))
    simp only [List.map_cons, cntRR, szRR, List.length_cons]
    omega
theorem cnt_arr {α : Type} (s : Nat) (f : α → List Dat) (l : List α) (h : ∀ x ∈ l, cntR (f x) ≤ 3 + 3 * szR (f x)) : cntD (.arr s (l.map f)) ≤ 3 * szD (.arr s (l.map f)) := by
  have := cnt_map f l h
  simp only [cntD, szD, List.length_map]
  exact this
theorem cnt_ints (xs : List Int) : cntD (encInts xs) ≤ 3 * szD (encInts xs) := cnt_arr 1 rowI xs (fun x _ => by simp only [rowI, cntR, cntD]; omega)
theorem cnt_cons (xs : List (List Int)) : cntD (encCons xs) ≤ 3 * szD (encCons xs) := cnt_arr 1 rowC xs (fun x _ => by
  have := cnt_ints x
  simp only [rowC, cntR, szR]; omega)
theorem cnt_decls (xs : List DeclL) : cntD (encDecls xs) ≤ 3 * szD (encDecls xs) := cnt_arr 3 rowD xs (fun x _ => by
  have := cnt_cons x.cons
  simp only [rowD, cntR, szR, cntD, szD]; omega)
mutual
theorem cnt_rowE : ∀ e : ExprL, cntR (rowE e) ≤ 3 + 3 * szR (rowE e)
  | .mk op num ks => by
    have := cnt_rowsE ks
    have hl : (rowsE ks).length = ks.length := by rw [rowsE_map]; simp
    simp only [rowE, cntR, szR, cntD, szD, hl]; omega
theorem cnt_rowsE : ∀ es : List ExprL, cntRR (rowsE es) ≤ 3 * (es.length + szRR (rowsE es))
  | [] => by simp [rowsE, cntRR]
  | e :: es => by
    have h1 := cnt_rowE e
    have h2 := cnt_rowsE es
    simp only [rowsE, cntRR, szRR, List.length_cons]; omega
end
theorem cnt_exprs (xs : List ExprL) : cntD (encExprs xs) ≤ 3 * szD (encExprs xs) := by
  have := cnt_rowsE xs
  have hl : (rowsE xs).length = xs.length := by rw [rowsE_map]; simp
  simp only [encExprs, cntD, szD, hl]; exact this
theorem cnt_funcs (xs : List FuncL) : cntD (encFuncs xs) ≤ 3 * szD (encFuncs xs) := cnt_arr 5 rowF xs (fun x _ => by
  have := cnt_ints x.params
  have := cnt_exprs x.body.kids
  simp only [rowF, cntR, szR, cntD, szD]; omega)
mutual
theorem cnt_rowS : ∀ e : StepL, cntR (rowS e) ≤ 3 + 3 * szR (rowS e)
  | .mk op num into args ks => by
    have := cnt_rowsB ks
    have := cnt_ints args
    have hl : (rowsB ks).length = ks.length := by rw [rowsB_map]; simp
    simp only [rowS, cntR, szR, cntD, szD, hl]; omega
theorem cnt_rowB : ∀ e : BlockL, cntR (rowB e) ≤ 3 + 3 * szR (rowB e)
  | .mk ss r => by
    have := cnt_rowsS ss
    have hl : (rowsS ss).length = ss.length := by rw [rowsS_map]; simp
    simp only [rowB, cntR, szR, cntD, szD, hl]; omega
theorem cnt_rowsS : ∀ es : List StepL, cntRR (rowsS es) ≤ 3 * (es.length + szRR (rowsS es))
  | [] => by simp [rowsS, cntRR]
  | e :: es => by
    have h1 := cnt_rowS e
    have h2 := cnt_rowsS es
    simp only [rowsS, cntRR, szRR, List.length_cons]; omega
theorem cnt_rowsB : ∀ es : List BlockL, cntRR (rowsB es) ≤ 3 * (es.length + szRR (rowsB es))
  | [] => by simp [rowsB, cntRR]
  | e :: es => by
    have h1 := cnt_rowB e
    have h2 := cnt_rowsB es
    simp only [rowsB, cntRR, szRR, List.length_cons]; omega
end
end Go.Proofs.YtkapldpmjkdmcaaGreat
/- How many integers what Normalize returns holds. -/
namespace Go.Proofs.YtkapldpmjkdmcaaGreat
open Go.RowKit

theorem nrmD_cnt (ds : List DeclL) (fs : List FuncL) : cntD (encDecls (nrmD ds fs)) ≤ cntD (encDecls ds) := by
  unfold nrmD
  split
  · exact Nat.le_refl _
  · rw [encDecls, cntD]; exact Nat.zero_le _
theorem nrmR_cnt (ds : List DeclL) (fs : List FuncL) : cntD (encRouts (nrmR ds fs)) ≤ 3000000 := by
  unfold nrmR
  split
  · next h =>
    have hok := (progOk_parts h).1
    have h1 := cnt_nrm ds fs (fun i hi => ⟨(sigF_at hok hi).1, by rw [nE_eq]; exact (bodyOk_parts hok hi ((progOk_parts h).2 i hi)).1⟩)
    have h2 := (progOk_len h).2
    omega
  · rw [encRouts, cntD]; exact Nat.zero_le _
end Go.Proofs.YtkapldpmjkdmcaaGreat
/- The laws' own helpers: the sizes of data. -/
namespace Go.Proofs.YtkapldpmjkdmcaaGreat
open Go.RowKit


/-- What is left of left, behind s. -/
def szo (s : Nat) (left : Int) : Int := if (s : Int) ≤ left then left - (s : Int) else -1
theorem szo_yes {s : Nat} {left : Int} (h : (s : Int) ≤ left) : szo s left = left - (s : Int) := if_pos h
theorem szo_no {s : Nat} {left : Int} (h : left < (s : Int)) : szo s left = -1 := if_neg (by omega)
def SzC (f : FuncId) (d : Dat) : Prop := ∀ (a : Option Addr) (n c : Nat) (D : Nat → Prop) (w : World) (left : Int), Rd w D d (.slice a n c) → 0 ≤ left → left ≤ 1048576 →
  Calls Tryz.prog f #[.slice a n c, .int .i64 left] w fun e w' => e = .returned (.int .i64 (szo (szD d) left)) ∧ Keep w w'
theorem szRR_ints (xs : List Int) : szRR (xs.map rowI) = 0 := by induction xs <;> simp_all [szRR, szR, rowI, szD]


theorem szIntS (xs : List Int) : SzC 124 (encInts xs) := by
  intro a n c D w left h h0 h1
  refine calls_k fun Q hQ => ?_
  obtain ⟨e1, hnc, hm, _⟩ := ints_at h
  have e2 : szD (encInts xs) = n := by rw [encInts, szD, szRR_ints, List.length_map]; omega
  rw [e2] at hQ
  clear e1 e2
  by_cases hl : (n : Int) ≤ left
  · have V := Lib.hid (szo_yes hl)
    go_enter Tryz.func124, Tryz.ntmps124
    go_wp2_with fail
    exact fin_ hQ ⟨ret_i V.out.symm, Ext.refl _ _⟩
  · have V := Lib.hid (szo_no (s := n) (left := left) (by omega))
    have t : left - (n : Int) < 0 := by omega
    go_enter Tryz.func124, Tryz.ntmps124
    go_wp2_with fail
    exact fin_ hQ ⟨ret_i V.out.symm, Ext.refl _ _⟩

theorem szCon (D : Nat → Prop) (w : World) (left : Int) (a0 : Option Addr) (n0 c0 : Nat) (d0 : Dat) (r0 : Rd w D d0 (.slice a0 n0 c0)) (k0 : SzC 124 d0) (h0 : 0 ≤ left) (h1 : left ≤ 1048576) :
    Calls Tryz.prog 179 #[.agg #[.slice a0 n0 c0], .int .i64 left] w fun e w' => e = .returned (.int .i64 (szo (szD d0) left)) ∧ Keep w w' := by
  refine calls_k fun Q hQ => ?_
  by_cases y0 : ((szD d0 : Nat) : Int) ≤ left
  case neg =>
    go_enter Tryz.func179, Tryz.ntmps179
    have kb : Keep w (w.alloc (.cells #[.slice a0 n0 c0] 224)) := Keep.al _ _
    have q0 := r0.k kb
    have V0 : Hid (szo (szD d0) (left) = -1) := szo_no (by omega)
    go_wp2_with fail
    refine (k0 _ _ _ _ _ _ q0 (by omega) (by omega)).mono ?_
    rw [V0.out]
    rintro e w1 ⟨rfl, p0⟩
    replace kb := kb.trans p0
    replace q0 := q0.k p0
    go_wp2_with fail
    exact fin_ hQ ⟨ret_i (szo_no (by omega)).symm, kb⟩
  go_enter Tryz.func179, Tryz.ntmps179
  have kb : Keep w (w.alloc (.cells #[.slice a0 n0 c0] 224)) := Keep.al _ _
  have q0 := r0.k kb
  have V0 : Hid (szo (szD d0) (left) = left - ((szD d0 : Int))) := by show _ = _; rw [szo_yes (by omega)] <;> omega
  go_wp2_with fail
  refine (k0 _ _ _ _ _ _ q0 (by omega) (by omega)).mono ?_
  rw [V0.out]
  rintro e w1 ⟨rfl, p0⟩
  replace kb := kb.trans p0
  replace q0 := q0.k p0
  have t0 : 0 ≤ left - ((szD d0 : Int)) := by omega
  go_wp2_with fail
  exact fin_ hQ ⟨ret_i (szo_yes (by omega)).symm, kb⟩

set_option maxHeartbeats 1000000 in
theorem szConS (xs : List (List Int)) : SzC 123 (encCons xs) := by
  intro a n c D w left h h0 h1
  refine calls_k fun Q hQ => ?_
  obtain ⟨e1, hnc, hm, hat⟩ := cons_at h
  have HL := Lib.hid e1
  have hrl : (xs.map rowC).length = n := by rw [cons_len]; exact e1
  have e2 : szD (encCons xs) = n + szRR (xs.map rowC) := by rw [encCons, szD, hrl]
  rw [e2] at hQ
  have HA := Lib.hid hat
  clear hat e1 e2
  by_cases hl : (n : Int) ≤ left
  case neg =>
    have V := Lib.hid (szo_no (s := n + szRR (xs.map rowC)) (left := left) (by omega))
    have t : left - (n : Int) < 0 := by omega
    go_enter Tryz.func123, Tryz.ntmps123
    go_wp2_with fail
    exact fin_ hQ ⟨ret_i V.out.symm, Ext.refl _ _⟩
  have HRL := Lib.hid hrl
  clear hrl
  go_enter Tryz.func123, Tryz.ntmps123
  go_wp2_with fail
  go_loopw [1, 5] (fun lv iv wr => ∃ j : Nat, j ≤ n ∧ iv = .int .i64 j ∧ lv = .int .i64 (left - (n : Int) - (szRR ((xs.map rowC).take j) : Int)) ∧ (szRR ((xs.map rowC).take j) : Int) ≤ left - (n : Int) ∧ Keep w wr) (fun _ i _ => n - (intOf i).toNat)
  case atStart => exact ⟨0, Nat.zero_le _, rfl, by simp [szRR], by simp only [List.take_zero, szRR]; omega, Ext.refl _ _⟩
  case round =>
    obtain ⟨j, hj, rfl, rfl, hsz, hK⟩ := hrel
    by_cases hlt : j < n
    · have hst := szRR_take (xs.map rowC) j (by have := HRL.out; omega)
      rw [cons_row xs j (by have := HL.out; omega)] at hst
      simp only [szR, Nat.add_zero] at hst
      have htl := szRR_take_le (xs.map rowC) (j + 1)
      obtain ⟨b, o, rfl, hd, a0, n0, c0, d0, r0⟩ := HA.out j hlt
      have g0 := (hK.cell (World.block_lt_of_cell? w _ d0) (fun h => h)).trans d0
      have q0 := r0.k hK
      clear d0
      replace hst : szRR ((xs.map rowC).take (j + 1)) = szRR ((xs.map rowC).take j) + (szD (encInts (cAt xs j))) := by rw [hst]
      generalize hS : szD (encInts (cAt xs j)) = S at hst
      have HS := Lib.hid hS
      clear hS
      have t0 : 0 ≤ left - (n : Int) - (szRR ((xs.map rowC).take j) : Int) := by omega
      by_cases hf : (S : Int) ≤ left - (n : Int) - (szRR ((xs.map rowC).take j) : Int)
      · have V : Hid (szo S (left - (n : Int) - (szRR ((xs.map rowC).take j) : Int)) = left - (n : Int) - (szRR ((xs.map rowC).take (j + 1)) : Int)) := by show _ = _; rw [szo_yes hf]; omega
        have t1 : 0 ≤ left - (n : Int) - (szRR ((xs.map rowC).take (j + 1)) : Int) := by omega
        go_wp2_with fail
        refine (szCon _ _ _ _ _ _ _ q0 (szIntS _) (by omega) (by omega)).mono ?_
        rw [HS.out, V.out]
        rintro e w1 ⟨rfl, p1⟩
        go_wp2_with fail
        go_roundw
        case rel => exact ⟨j + 1, by omega, by go_num, by rw [hst, Int.natCast_add], by omega, hK.trans p1⟩
        case measure => simp [intOf]; omega
      · have V : Hid (szo S (left - (n : Int) - (szRR ((xs.map rowC).take j) : Int)) = -1) := szo_no (by omega)
        go_wp2_with fail
        refine (szCon _ _ _ _ _ _ _ q0 (szIntS _) (by omega) (by omega)).mono ?_
        rw [HS.out, V.out]
        rintro e w1 ⟨rfl, p1⟩
        go_wp2_with fail
        exact fin_ hQ ⟨ret_i (szo_no (by omega)).symm, hK.trans p1⟩
    · have HJ : Hid (j = n) := by show _ = _; omega
      go_wp2
      exact fin_ hQ ⟨ret_i (by rw [HJ.out, List.take_of_length_le (Nat.le_of_eq HRL.out)]; have e := HJ.out; subst e; rw [List.take_of_length_le (Nat.le_of_eq HRL.out)] at hsz; rw [szo_yes (by omega)]; omega), hK⟩

theorem szDecl (D : Nat → Prop) (w : World) (left : Int) (z0 : Int) (z1 : Int) (a2 : Option Addr) (n2 c2 : Nat) (d2 : Dat) (r2 : Rd w D d2 (.slice a2 n2 c2)) (k2 : SzC 123 d2) (h0 : 0 ≤ left) (h1 : left ≤ 1048576) :
    Calls Tryz.prog 74 #[.agg #[.int .i64 z0, .int .i64 z1, .slice a2 n2 c2], .int .i64 left] w fun e w' => e = .returned (.int .i64 (szo (szD d2) left)) ∧ Keep w w' := by
  refine calls_k fun Q hQ => ?_
  by_cases y0 : ((szD d2 : Nat) : Int) ≤ left
  case neg =>
    go_enter Tryz.func74, Tryz.ntmps74
    have kb : Keep w (w.alloc (.cells #[.int .i64 z0, .int .i64 z1, .slice a2 n2 c2] 114)) := Keep.al _ _
    have q2 := r2.k kb
    have V0 : Hid (szo (szD d2) (left) = -1) := szo_no (by omega)
    go_wp2_with fail
    refine (k2 _ _ _ _ _ _ q2 (by omega) (by omega)).mono ?_
    rw [V0.out]
    rintro e w1 ⟨rfl, p0⟩
    replace kb := kb.trans p0
    replace q2 := q2.k p0
    go_wp2_with fail
    exact fin_ hQ ⟨ret_i (szo_no (by omega)).symm, kb⟩
  go_enter Tryz.func74, Tryz.ntmps74
  have kb : Keep w (w.alloc (.cells #[.int .i64 z0, .int .i64 z1, .slice a2 n2 c2] 114)) := Keep.al _ _
  have q2 := r2.k kb
  have V0 : Hid (szo (szD d2) (left) = left - ((szD d2 : Int))) := by show _ = _; rw [szo_yes (by omega)] <;> omega
  go_wp2_with fail
  refine (k2 _ _ _ _ _ _ q2 (by omega) (by omega)).mono ?_
  rw [V0.out]
  rintro e w1 ⟨rfl, p0⟩
  replace kb := kb.trans p0
  replace q2 := q2.k p0
  have t0 : 0 ≤ left - ((szD d2 : Int)) := by omega
  go_wp2_with fail
  exact fin_ hQ ⟨ret_i (szo_yes (by omega)).symm, kb⟩

set_option maxHeartbeats 1000000 in
theorem szDeclS (xs : List DeclL) : SzC 32 (encDecls xs) := by
  intro a n c D w left h h0 h1
  refine calls_k fun Q hQ => ?_
  obtain ⟨e1, hnc, hm, hat⟩ := decls_at h
  have HL := Lib.hid e1
  have hrl : (xs.map rowD).length = n := by rw [decls_len]; exact e1
  have e2 : szD (encDecls xs) = n + szRR (xs.map rowD) := by rw [encDecls, szD, hrl]
  rw [e2] at hQ
  have HA := Lib.hid hat
  clear hat e1 e2
  by_cases hl : (n : Int) ≤ left
  case neg =>
    have V := Lib.hid (szo_no (s := n + szRR (xs.map rowD)) (left := left) (by omega))
    have t : left - (n : Int) < 0 := by omega
    go_enter Tryz.func32, Tryz.ntmps32
    go_wp2_with fail
    exact fin_ hQ ⟨ret_i V.out.symm, Ext.refl _ _⟩
  have HRL := Lib.hid hrl
  clear hrl
  go_enter Tryz.func32, Tryz.ntmps32
  go_wp2_with fail
  go_loopw [1, 5] (fun lv iv wr => ∃ j : Nat, j ≤ n ∧ iv = .int .i64 j ∧ lv = .int .i64 (left - (n : Int) - (szRR ((xs.map rowD).take j) : Int)) ∧ (szRR ((xs.map rowD).take j) : Int) ≤ left - (n : Int) ∧ Keep w wr) (fun _ i _ => n - (intOf i).toNat)
  case atStart => exact ⟨0, Nat.zero_le _, rfl, by simp [szRR], by simp only [List.take_zero, szRR]; omega, Ext.refl _ _⟩
  case round =>
    obtain ⟨j, hj, rfl, rfl, hsz, hK⟩ := hrel
    by_cases hlt : j < n
    · have hst := szRR_take (xs.map rowD) j (by have := HRL.out; omega)
      rw [decls_row xs j (by have := HL.out; omega)] at hst
      simp only [szR, szD, Nat.zero_add, Nat.add_zero] at hst
      have htl := szRR_take_le (xs.map rowD) (j + 1)
      obtain ⟨b, o, rfl, hd, a2, n2, c2, d0, d1, d2, r2⟩ := HA.out j hlt
      have g0 := (hK.cell (World.block_lt_of_cell? w _ d0) (fun h => h)).trans d0
      have g1 := (hK.cell (World.block_lt_of_cell? w _ d1) (fun h => h)).trans d1
      have g2 := (hK.cell (World.block_lt_of_cell? w _ d2) (fun h => h)).trans d2
      have q2 := r2.k hK
      clear d0 d1 d2
      replace hst : szRR ((xs.map rowD).take (j + 1)) = szRR ((xs.map rowD).take j) + (szD (encCons ((dAt xs j).cons))) := by rw [hst]
      generalize hS : szD (encCons ((dAt xs j).cons)) = S at hst
      have HS := Lib.hid hS
      clear hS
      have t0 : 0 ≤ left - (n : Int) - (szRR ((xs.map rowD).take j) : Int) := by omega
      by_cases hf : (S : Int) ≤ left - (n : Int) - (szRR ((xs.map rowD).take j) : Int)
      · have V : Hid (szo S (left - (n : Int) - (szRR ((xs.map rowD).take j) : Int)) = left - (n : Int) - (szRR ((xs.map rowD).take (j + 1)) : Int)) := by show _ = _; rw [szo_yes hf]; omega
        have t1 : 0 ≤ left - (n : Int) - (szRR ((xs.map rowD).take (j + 1)) : Int) := by omega
        go_wp2_with fail
        refine (szDecl _ _ _ _ _ _ _ _ _ q2 (szConS _) (by omega) (by omega)).mono ?_
        rw [HS.out, V.out]
        rintro e w1 ⟨rfl, p1⟩
        go_wp2_with fail
        go_roundw
        case rel => exact ⟨j + 1, by omega, by go_num, by rw [hst, Int.natCast_add], by omega, hK.trans p1⟩
        case measure => simp [intOf]; omega
      · have V : Hid (szo S (left - (n : Int) - (szRR ((xs.map rowD).take j) : Int)) = -1) := szo_no (by omega)
        go_wp2_with fail
        refine (szDecl _ _ _ _ _ _ _ _ _ q2 (szConS _) (by omega) (by omega)).mono ?_
        rw [HS.out, V.out]
        rintro e w1 ⟨rfl, p1⟩
        go_wp2_with fail
        exact fin_ hQ ⟨ret_i (szo_no (by omega)).symm, hK.trans p1⟩
    · have HJ : Hid (j = n) := by show _ = _; omega
      go_wp2
      exact fin_ hQ ⟨ret_i (by rw [HJ.out, List.take_of_length_le (Nat.le_of_eq HRL.out)]; have e := HJ.out; subst e; rw [List.take_of_length_le (Nat.le_of_eq HRL.out)] at hsz; rw [szo_yes (by omega)]; omega), hK⟩

theorem szExpr (D : Nat → Prop) (w : World) (left : Int) (z0 : Int) (z1 : Int) (a2 : Option Addr) (n2 c2 : Nat) (d2 : Dat) (r2 : Rd w D d2 (.slice a2 n2 c2)) (k2 : SzC 194 d2) (h0 : 0 ≤ left) (h1 : left ≤ 1048576) :
    Calls Tryz.prog 141 #[.agg #[.int .i64 z0, .int .i64 z1, .slice a2 n2 c2], .int .i64 left] w fun e w' => e = .returned (.int .i64 (szo (szD d2) left)) ∧ Keep w w' := by
  refine calls_k fun Q hQ => ?_
  by_cases y0 : ((szD d2 : Nat) : Int) ≤ left
  case neg =>
    go_enter Tryz.func141, Tryz.ntmps141
    have kb : Keep w (w.alloc (.cells #[.int .i64 z0, .int .i64 z1, .slice a2 n2 c2] 147)) := Keep.al _ _
    have q2 := r2.k kb
    have V0 : Hid (szo (szD d2) (left) = -1) := szo_no (by omega)
    go_wp2_with fail
    refine (k2 _ _ _ _ _ _ q2 (by omega) (by omega)).mono ?_
    rw [V0.out]
    rintro e w1 ⟨rfl, p0⟩
    replace kb := kb.trans p0
    replace q2 := q2.k p0
    go_wp2_with fail
    exact fin_ hQ ⟨ret_i (szo_no (by omega)).symm, kb⟩
  go_enter Tryz.func141, Tryz.ntmps141
  have kb : Keep w (w.alloc (.cells #[.int .i64 z0, .int .i64 z1, .slice a2 n2 c2] 147)) := Keep.al _ _
  have q2 := r2.k kb
  have V0 : Hid (szo (szD d2) (left) = left - ((szD d2 : Int))) := by show _ = _; rw [szo_yes (by omega)] <;> omega
  go_wp2_with fail
  refine (k2 _ _ _ _ _ _ q2 (by omega) (by omega)).mono ?_
  rw [V0.out]
  rintro e w1 ⟨rfl, p0⟩
  replace kb := kb.trans p0
  replace q2 := q2.k p0
  have t0 : 0 ≤ left - ((szD d2 : Int)) := by omega
  go_wp2_with fail
  exact fin_ hQ ⟨ret_i (szo_yes (by omega)).symm, kb⟩

set_option maxHeartbeats 1000000 in
theorem szExprS_n (N : Nat) : ∀ xs : List ExprL, volD (encExprs xs) < N → SzC 194 (encExprs xs) := by
  induction N with
  | zero => intro xs h; omega
  | succ N ihN =>
  intro xs hvol a n c D w left h h0 h1
  have IH : ∀ ys : List ExprL, volD (encExprs ys) < volD (encExprs xs) → SzC 194 (encExprs ys) := fun ys hy => ihN ys (by omega)
  clear ihN hvol
  refine calls_k fun Q hQ => ?_
  obtain ⟨e1, hnc, hm, hat⟩ := exprs_at h
  have HL := Lib.hid e1
  have hrl : (rowsE xs).length = n := by rw [exprs_len]; exact e1
  have e2 : szD (encExprs xs) = n + szRR (rowsE xs) := by rw [encExprs, szD, hrl]
  rw [e2] at hQ
  have HA := Lib.hid hat
  clear hat e1 e2
  by_cases hl : (n : Int) ≤ left
  case neg =>
    have V := Lib.hid (szo_no (s := n + szRR (rowsE xs)) (left := left) (by omega))
    have t : left - (n : Int) < 0 := by omega
    go_enter Tryz.func194, Tryz.ntmps194
    go_wp2_with fail
    exact fin_ hQ ⟨ret_i V.out.symm, Ext.refl _ _⟩
  have HRL := Lib.hid hrl
  clear hrl
  go_enter Tryz.func194, Tryz.ntmps194
  go_wp2_with fail
  go_loopw [1, 5] (fun lv iv wr => ∃ j : Nat, j ≤ n ∧ iv = .int .i64 j ∧ lv = .int .i64 (left - (n : Int) - (szRR ((rowsE xs).take j) : Int)) ∧ (szRR ((rowsE xs).take j) : Int) ≤ left - (n : Int) ∧ Keep w wr) (fun _ i _ => n - (intOf i).toNat)
  case atStart => exact ⟨0, Nat.zero_le _, rfl, by simp [szRR], by simp only [List.take_zero, szRR]; omega, Ext.refl _ _⟩
  case round =>
    obtain ⟨j, hj, rfl, rfl, hsz, hK⟩ := hrel
    by_cases hlt : j < n
    · have hst := szRR_take (rowsE xs) j (by have := HRL.out; omega)
      rw [exprs_row xs j (by have := HL.out; omega)] at hst
      simp only [szR, szD, Nat.zero_add, Nat.add_zero] at hst
      have htl := szRR_take_le (rowsE xs) (j + 1)
      obtain ⟨b, o, rfl, hd, a2, n2, c2, d0, d1, d2, r2⟩ := HA.out j hlt
      have g0 := (hK.cell (World.block_lt_of_cell? w _ d0) (fun h => h)).trans d0
      have g1 := (hK.cell (World.block_lt_of_cell? w _ d1) (fun h => h)).trans d1
      have g2 := (hK.cell (World.block_lt_of_cell? w _ d2) (fun h => h)).trans d2
      have q2 := r2.k hK
      clear d0 d1 d2
      replace hst : szRR ((rowsE xs).take (j + 1)) = szRR ((rowsE xs).take j) + (szD (encExprs ((eAt xs j).kids))) := by rw [hst]
      generalize hS : szD (encExprs ((eAt xs j).kids)) = S at hst
      have HS := Lib.hid hS
      clear hS
      have t0 : 0 ≤ left - (n : Int) - (szRR ((rowsE xs).take j) : Int) := by omega
      by_cases hf : (S : Int) ≤ left - (n : Int) - (szRR ((rowsE xs).take j) : Int)
      · have V : Hid (szo S (left - (n : Int) - (szRR ((rowsE xs).take j) : Int)) = left - (n : Int) - (szRR ((rowsE xs).take (j + 1)) : Int)) := by show _ = _; rw [szo_yes hf]; omega
        have t1 : 0 ≤ left - (n : Int) - (szRR ((rowsE xs).take (j + 1)) : Int) := by omega
        go_wp2_with fail
        refine (szExpr _ _ _ _ _ _ _ _ _ q2 (IH _ (by have := vol_lt (s := 3) (rows := (rowsE xs)) (i := j) (j := 2) (by have := HRL.out; omega) (by rw [exprs_row xs j (by have := HL.out; omega)]; simp); rw [rAt, exprs_row xs j (by have := HL.out; omega)] at this; simp only [dGet, List.getD, List.getElem?_cons_succ, List.getElem?_cons_zero, Option.getD_some] at this; exact this)) (by omega) (by omega)).mono ?_
        rw [HS.out, V.out]
        rintro e w1 ⟨rfl, p1⟩
        go_wp2_with fail
        go_roundw
        case rel => exact ⟨j + 1, by omega, by go_num, by rw [hst, Int.natCast_add], by omega, hK.trans p1⟩
        case measure => simp [intOf]; omega
      · have V : Hid (szo S (left - (n : Int) - (szRR ((rowsE xs).take j) : Int)) = -1) := szo_no (by omega)
        go_wp2_with fail
        refine (szExpr _ _ _ _ _ _ _ _ _ q2 (IH _ (by have := vol_lt (s := 3) (rows := (rowsE xs)) (i := j) (j := 2) (by have := HRL.out; omega) (by rw [exprs_row xs j (by have := HL.out; omega)]; simp); rw [rAt, exprs_row xs j (by have := HL.out; omega)] at this; simp only [dGet, List.getD, List.getElem?_cons_succ, List.getElem?_cons_zero, Option.getD_some] at this; exact this)) (by omega) (by omega)).mono ?_
        rw [HS.out, V.out]
        rintro e w1 ⟨rfl, p1⟩
        go_wp2_with fail
        exact fin_ hQ ⟨ret_i (szo_no (by omega)).symm, hK.trans p1⟩
    · have HJ : Hid (j = n) := by show _ = _; omega
      go_wp2
      exact fin_ hQ ⟨ret_i (by rw [HJ.out, List.take_of_length_le (Nat.le_of_eq HRL.out)]; have e := HJ.out; subst e; rw [List.take_of_length_le (Nat.le_of_eq HRL.out)] at hsz; rw [szo_yes (by omega)]; omega), hK⟩
theorem szExprS (xs : List ExprL) : SzC 194 (encExprs xs) := szExprS_n _ xs (Nat.lt_succ_self _)

theorem szFunc (D : Nat → Prop) (w : World) (left : Int) (a0 : Option Addr) (n0 c0 : Nat) (d0 : Dat) (z1 : Int) (z2 : Int) (z3 : Int) (a4 : Option Addr) (n4 c4 : Nat) (d4 : Dat) (r0 : Rd w D d0 (.slice a0 n0 c0)) (r4 : Rd w D d4 (.slice a4 n4 c4)) (k0 : SzC 124 d0) (k4 : SzC 194 d4) (h0 : 0 ≤ left) (h1 : left ≤ 1048576) :
    Calls Tryz.prog 96 #[.agg #[.slice a0 n0 c0, .int .i64 z1, .int .i64 z2, .int .i64 z3, .slice a4 n4 c4], .int .i64 left] w fun e w' => e = .returned (.int .i64 (szo (szD d0 + szD d4) left)) ∧ Keep w w' := by
  refine calls_k fun Q hQ => ?_
  by_cases y0 : ((szD d0 : Nat) : Int) ≤ left
  case neg =>
    go_enter Tryz.func96, Tryz.ntmps96
    have kb : Keep w (w.alloc (.cells #[.slice a0 n0 c0, .int .i64 z1, .int .i64 z2, .int .i64 z3, .slice a4 n4 c4] 149)) := Keep.al _ _
    have q0 := r0.k kb
    have q4 := r4.k kb
    have V0 : Hid (szo (szD d0) (left) = -1) := szo_no (by omega)
    go_wp2_with fail
    refine (k0 _ _ _ _ _ _ q0 (by omega) (by omega)).mono ?_
    rw [V0.out]
    rintro e w1 ⟨rfl, p0⟩
    replace kb := kb.trans p0
    replace q0 := q0.k p0
    replace q4 := q4.k p0
    go_wp2_with fail
    exact fin_ hQ ⟨ret_i (szo_no (by omega)).symm, kb⟩
  by_cases y1 : ((szD d0 + szD d4 : Nat) : Int) ≤ left
  case neg =>
    go_enter Tryz.func96, Tryz.ntmps96
    have kb : Keep w (w.alloc (.cells #[.slice a0 n0 c0, .int .i64 z1, .int .i64 z2, .int .i64 z3, .slice a4 n4 c4] 149)) := Keep.al _ _
    have bk : Keep (w.alloc (.cells #[.slice a0 n0 c0, .int .i64 z1, .int .i64 z2, .int .i64 z3, .slice a4 n4 c4] 149)) (w.alloc (.cells #[.slice a0 n0 c0, .int .i64 z1, .int .i64 z2, .int .i64 z3, .slice a4 n4 c4] 149)) := Ext.refl _ _
    have q0 := r0.k kb
    have q4 := r4.k kb
    have V0 : Hid (szo (szD d0) (left) = left - ((szD d0 : Int))) := by show _ = _; rw [szo_yes (by omega)] <;> omega
    go_wp2_with fail
    refine (k0 _ _ _ _ _ _ q0 (by omega) (by omega)).mono ?_
    rw [V0.out]
    rintro e w1 ⟨rfl, p0⟩
    replace kb := kb.trans p0
    replace bk := bk.trans p0
    replace q0 := q0.k p0
    replace q4 := q4.k p0
    have t0 : 0 ≤ left - ((szD d0 : Int)) := by omega
    have V1 : Hid (szo (szD d4) (left - ((szD d0 : Int))) = -1) := szo_no (by omega)
    have x0 := boxk bk 0
    have x1 := boxk bk 1
    have x2 := boxk bk 2
    have x3 := boxk bk 3
    have x4 := boxk bk 4
    simp at x0 x1 x2 x3 x4
    go_wp2_with fail
    clear x0 x1 x2 x3 x4
    refine (szExpr _ _ _ _ _ _ _ _ _ q4 k4 (by omega) (by omega)).mono ?_
    rw [V1.out]
    rintro e w2 ⟨rfl, p1⟩
    replace kb := kb.trans p1
    replace bk := bk.trans p1
    replace q0 := q0.k p1
    replace q4 := q4.k p1
    go_wp2_with fail
    exact fin_ hQ ⟨ret_i (szo_no (by omega)).symm, kb⟩
  go_enter Tryz.func96, Tryz.ntmps96
  have kb : Keep w (w.alloc (.cells #[.slice a0 n0 c0, .int .i64 z1, .int .i64 z2, .int .i64 z3, .slice a4 n4 c4] 149)) := Keep.al _ _
  have bk : Keep (w.alloc (.cells #[.slice a0 n0 c0, .int .i64 z1, .int .i64 z2, .int .i64 z3, .slice a4 n4 c4] 149)) (w.alloc (.cells #[.slice a0 n0 c0, .int .i64 z1, .int .i64 z2, .int .i64 z3, .slice a4 n4 c4] 149)) := Ext.refl _ _
  have q0 := r0.k kb
  have q4 := r4.k kb
  have V0 : Hid (szo (szD d0) (left) = left - ((szD d0 : Int))) := by show _ = _; rw [szo_yes (by omega)] <;> omega
  go_wp2_with fail
  refine (k0 _ _ _ _ _ _ q0 (by omega) (by omega)).mono ?_
  rw [V0.out]
  rintro e w1 ⟨rfl, p0⟩
  replace kb := kb.trans p0
  replace bk := bk.trans p0
  replace q0 := q0.k p0
  replace q4 := q4.k p0
  have t0 : 0 ≤ left - ((szD d0 : Int)) := by omega
  have V1 : Hid (szo (szD d4) (left - ((szD d0 : Int))) = left - ((szD d0 : Int) + (szD d4 : Int))) := by show _ = _; rw [szo_yes (by omega)] <;> omega
  have x0 := boxk bk 0
  have x1 := boxk bk 1
  have x2 := boxk bk 2
  have x3 := boxk bk 3
  have x4 := boxk bk 4
  simp at x0 x1 x2 x3 x4
  go_wp2_with fail
  clear x0 x1 x2 x3 x4
  refine (szExpr _ _ _ _ _ _ _ _ _ q4 k4 (by omega) (by omega)).mono ?_
  rw [V1.out]
  rintro e w2 ⟨rfl, p1⟩
  replace kb := kb.trans p1
  replace bk := bk.trans p1
  replace q0 := q0.k p1
  replace q4 := q4.k p1
  have t1 : 0 ≤ left - ((szD d0 : Int) + (szD d4 : Int)) := by omega
  go_wp2_with fail
  exact fin_ hQ ⟨ret_i (szo_yes (by omega)).symm, kb⟩

set_option maxHeartbeats 1000000 in
theorem szFuncS (xs : List FuncL) : SzC 48 (encFuncs xs) := by
  intro a n c D w left h h0 h1
  refine calls_k fun Q hQ => ?_
  obtain ⟨e1, hnc, hm, hat⟩ := funcs_at h
  have HL := Lib.hid e1
  have hrl : (xs.map rowF).length = n := by rw [funcs_len]; exact e1
  have e2 : szD (encFuncs xs) = n + szRR (xs.map rowF) := by rw [encFuncs, szD, hrl]
  rw [e2] at hQ
  have HA := Lib.hid hat
  clear hat e1 e2
  by_cases hl : (n : Int) ≤ left
  case neg =>
    have V := Lib.hid (szo_no (s := n + szRR (xs.map rowF)) (left := left) (by omega))
    have t : left - (n : Int) < 0 := by omega
    go_enter Tryz.func48, Tryz.ntmps48
    go_wp2_with fail
    exact fin_ hQ ⟨ret_i V.out.symm, Ext.refl _ _⟩
  have HRL := Lib.hid hrl
  clear hrl
  go_enter Tryz.func48, Tryz.ntmps48
  go_wp2_with fail
  go_loopw [1, 5] (fun lv iv wr => ∃ j : Nat, j ≤ n ∧ iv = .int .i64 j ∧ lv = .int .i64 (left - (n : Int) - (szRR ((xs.map rowF).take j) : Int)) ∧ (szRR ((xs.map rowF).take j) : Int) ≤ left - (n : Int) ∧ Keep w wr) (fun _ i _ => n - (intOf i).toNat)
  case atStart => exact ⟨0, Nat.zero_le _, rfl, by simp [szRR], by simp only [List.take_zero, szRR]; omega, Ext.refl _ _⟩
  case round =>
    obtain ⟨j, hj, rfl, rfl, hsz, hK⟩ := hrel
    by_cases hlt : j < n
    · have hst := szRR_take (xs.map rowF) j (by have := HRL.out; omega)
      rw [funcs_row xs j (by have := HL.out; omega)] at hst
      simp only [szR, szD, Nat.zero_add, Nat.add_zero] at hst
      have htl := szRR_take_le (xs.map rowF) (j + 1)
      obtain ⟨b, o, rfl, hd, a0, n0, c0, a4, n4, c4, d0, d1, d2, d3, d4, r0, r4⟩ := HA.out j hlt
      have g0 := (hK.cell (World.block_lt_of_cell? w _ d0) (fun h => h)).trans d0
      have g1 := (hK.cell (World.block_lt_of_cell? w _ d1) (fun h => h)).trans d1
      have g2 := (hK.cell (World.block_lt_of_cell? w _ d2) (fun h => h)).trans d2
      have g3 := (hK.cell (World.block_lt_of_cell? w _ d3) (fun h => h)).trans d3
      have g4 := (hK.cell (World.block_lt_of_cell? w _ d4) (fun h => h)).trans d4
      have q0 := r0.k hK
      have q4 := r4.k hK
      clear d0 d1 d2 d3 d4
      replace hst : szRR ((xs.map rowF).take (j + 1)) = szRR ((xs.map rowF).take j) + (szD (encInts ((fAt xs j).params)) + szD (encExprs ((fAt xs j).body.kids))) := by rw [hst]
      generalize hS : szD (encInts ((fAt xs j).params)) + szD (encExprs ((fAt xs j).body.kids)) = S at hst
      have HS := Lib.hid hS
      clear hS
      have t0 : 0 ≤ left - (n : Int) - (szRR ((xs.map rowF).take j) : Int) := by omega
      by_cases hf : (S : Int) ≤ left - (n : Int) - (szRR ((xs.map rowF).take j) : Int)
      · have V : Hid (szo S (left - (n : Int) - (szRR ((xs.map rowF).take j) : Int)) = left - (n : Int) - (szRR ((xs.map rowF).take (j + 1)) : Int)) := by show _ = _; rw [szo_yes hf]; omega
        have t1 : 0 ≤ left - (n : Int) - (szRR ((xs.map rowF).take (j + 1)) : Int) := by omega
        go_wp2_with fail
        refine (szFunc _ _ _ _ _ _ _ _ _ _ _ _ _ _ q0 q4 (szIntS _) (szExprS _) (by omega) (by omega)).mono ?_
        rw [HS.out, V.out]
        rintro e w1 ⟨rfl, p1⟩
        go_wp2_with fail
        go_roundw
        case rel => exact ⟨j + 1, by omega, by go_num, by rw [hst, Int.natCast_add], by omega, hK.trans p1⟩
        case measure => simp [intOf]; omega
      · have V : Hid (szo S (left - (n : Int) - (szRR ((xs.map rowF).take j) : Int)) = -1) := szo_no (by omega)
        go_wp2_with fail
        refine (szFunc _ _ _ _ _ _ _ _ _ _ _ _ _ _ q0 q4 (szIntS _) (szExprS _) (by omega) (by omega)).mono ?_
        rw [HS.out, V.out]
        rintro e w1 ⟨rfl, p1⟩
        go_wp2_with fail
        exact fin_ hQ ⟨ret_i (szo_no (by omega)).symm, hK.trans p1⟩
    · have HJ : Hid (j = n) := by show _ = _; omega
      go_wp2
      exact fin_ hQ ⟨ret_i (by rw [HJ.out, List.take_of_length_le (Nat.le_of_eq HRL.out)]; have e := HJ.out; subst e; rw [List.take_of_length_le (Nat.le_of_eq HRL.out)] at hsz; rw [szo_yes (by omega)]; omega), hK⟩

theorem szProgram (D : Nat → Prop) (w : World) (left : Int) (a0 : Option Addr) (n0 c0 : Nat) (d0 : Dat) (a1 : Option Addr) (n1 c1 : Nat) (d1 : Dat) (r0 : Rd w D d0 (.slice a0 n0 c0)) (r1 : Rd w D d1 (.slice a1 n1 c1)) (k0 : SzC 32 d0) (k1 : SzC 48 d1) (h0 : 0 ≤ left) (h1 : left ≤ 1048576) :
    Calls Tryz.prog 14 #[.agg #[.slice a0 n0 c0, .slice a1 n1 c1], .int .i64 left] w fun e w' => e = .returned (.int .i64 (szo (szD d0 + szD d1) left)) ∧ Keep w w' := by
  refine calls_k fun Q hQ => ?_
  by_cases y0 : ((szD d0 : Nat) : Int) ≤ left
  case neg =>
    go_enter Tryz.func14, Tryz.ntmps14
    have kb : Keep w (w.alloc (.cells #[.slice a0 n0 c0, .slice a1 n1 c1] 39)) := Keep.al _ _
    have q0 := r0.k kb
    have q1 := r1.k kb
    have V0 : Hid (szo (szD d0) (left) = -1) := szo_no (by omega)
    go_wp2_with fail
    refine (k0 _ _ _ _ _ _ q0 (by omega) (by omega)).mono ?_
    rw [V0.out]
    rintro e w1 ⟨rfl, p0⟩
    replace kb := kb.trans p0
    replace q0 := q0.k p0
    replace q1 := q1.k p0
    go_wp2_with fail
    exact fin_ hQ ⟨ret_i (szo_no (by omega)).symm, kb⟩
  by_cases y1 : ((szD d0 + szD d1 : Nat) : Int) ≤ left
  case neg =>
    go_enter Tryz.func14, Tryz.ntmps14
    have kb : Keep w (w.alloc (.cells #[.slice a0 n0 c0, .slice a1 n1 c1] 39)) := Keep.al _ _
    have bk : Keep (w.alloc (.cells #[.slice a0 n0 c0, .slice a1 n1 c1] 39)) (w.alloc (.cells #[.slice a0 n0 c0, .slice a1 n1 c1] 39)) := Ext.refl _ _
    have q0 := r0.k kb
    have q1 := r1.k kb
    have V0 : Hid (szo (szD d0) (left) = left - ((szD d0 : Int))) := by show _ = _; rw [szo_yes (by omega)] <;> omega
    go_wp2_with fail
    refine (k0 _ _ _ _ _ _ q0 (by omega) (by omega)).mono ?_
    rw [V0.out]
    rintro e w1 ⟨rfl, p0⟩
    replace kb := kb.trans p0
    replace bk := bk.trans p0
    replace q0 := q0.k p0
    replace q1 := q1.k p0
    have t0 : 0 ≤ left - ((szD d0 : Int)) := by omega
    have V1 : Hid (szo (szD d1) (left - ((szD d0 : Int))) = -1) := szo_no (by omega)
    have x0 := boxk bk 0
    have x1 := boxk bk 1
    simp at x0 x1
    go_wp2_with fail
    clear x0 x1
    refine (k1 _ _ _ _ _ _ q1 (by omega) (by omega)).mono ?_
    rw [V1.out]
    rintro e w2 ⟨rfl, p1⟩
    replace kb := kb.trans p1
    replace bk := bk.trans p1
    replace q0 := q0.k p1
    replace q1 := q1.k p1
    go_wp2_with fail
    exact fin_ hQ ⟨ret_i (szo_no (by omega)).symm, kb⟩
  go_enter Tryz.func14, Tryz.ntmps14
  have kb : Keep w (w.alloc (.cells #[.slice a0 n0 c0, .slice a1 n1 c1] 39)) := Keep.al _ _
  have bk : Keep (w.alloc (.cells #[.slice a0 n0 c0, .slice a1 n1 c1] 39)) (w.alloc (.cells #[.slice a0 n0 c0, .slice a1 n1 c1] 39)) := Ext.refl _ _
  have q0 := r0.k kb
  have q1 := r1.k kb
  have V0 : Hid (szo (szD d0) (left) = left - ((szD d0 : Int))) := by show _ = _; rw [szo_yes (by omega)] <;> omega
  go_wp2_with fail
  refine (k0 _ _ _ _ _ _ q0 (by omega) (by omega)).mono ?_
  rw [V0.out]
  rintro e w1 ⟨rfl, p0⟩
  replace kb := kb.trans p0
  replace bk := bk.trans p0
  replace q0 := q0.k p0
  replace q1 := q1.k p0
  have t0 : 0 ≤ left - ((szD d0 : Int)) := by omega
  have V1 : Hid (szo (szD d1) (left - ((szD d0 : Int))) = left - ((szD d0 : Int) + (szD d1 : Int))) := by show _ = _; rw [szo_yes (by omega)] <;> omega
  have x0 := boxk bk 0
  have x1 := boxk bk 1
  simp at x0 x1
  go_wp2_with fail
  clear x0 x1
  refine (k1 _ _ _ _ _ _ q1 (by omega) (by omega)).mono ?_
  rw [V1.out]
  rintro e w2 ⟨rfl, p1⟩
  replace kb := kb.trans p1
  replace bk := bk.trans p1
  replace q0 := q0.k p1
  replace q1 := q1.k p1
  have t1 : 0 ≤ left - ((szD d0 : Int) + (szD d1 : Int)) := by omega
  go_wp2_with fail
  exact fin_ hQ ⟨ret_i (szo_yes (by omega)).symm, kb⟩

end Go.Proofs.YtkapldpmjkdmcaaGreat
