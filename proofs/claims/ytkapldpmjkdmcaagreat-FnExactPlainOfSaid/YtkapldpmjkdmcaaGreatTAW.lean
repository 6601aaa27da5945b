/- build of the program for every expression; Normalize of the program. -/
import Derived.Test.YtkapldpmjkdmcaaGreatTAS
import Derived.Test.YtkapldpmjkdmcaaGreatTAV
import Derived.Test.YtkapldpmjkdmcaaGreatTAQ
import Derived.Test.YtkapldpmjkdmcaaGreatTAR
import Derived.Test.YtkapldpmjkdmcaaGreatTAU
import Derived.Test.YtkapldpmjkdmcaaGreatTAF
namespace Go.Proofs.YtkapldpmjkdmcaaGreat
open Go.RowKit

section
variable (ds : List DeclL) (sg : List SigL) (hok : sigsOk ds sg = true)
include hok
end

/-- append of one routine. -/
theorem step_addRt {ops : Array Oper} {o : Oper} {a : Act} {w : World} {K : Act → World → Prop} {Q : Exit → Act → World → Prop} {E : Prop} (hgd : o.guard = none) (s x : Operand)
    (ho : o.op = .call { callee := .builtin .append, args := #[s, x], argTypes := #[28, 28] })
    (base : Nat) (v : Value) (rows : List (List Dat)) (hs : a.eval s = v) {D0 : Nat → Prop} (hacc : Acc w base D0 71 5 v rows)
    (g c : Nat) (f : RoutL) (A B C : Value) (EA EB EC : Nat → Prop) (hx : a.eval x = .slice (some ⟨g, 0, none⟩) 1 c) (hcells : ∀ j u, [A, B, Value.int .i64 f.result, C, .int .i64 f.body.result][j]? = some u → w.cell? ⟨g, j, none⟩ = some u)
    (hA : Own w EA (encInts f.params) A) (hB : Own w EB (encInts f.lent) B) (hC : Own w EC (encSteps f.body.steps) C) (hE : ∀ k, EA k ∨ EB k ∨ EC k → ¬ D0 k ∧ v.ownBlock ≠ some k) (d1 : ∀ k, EA k → ¬ EB k) (d2 : ∀ k, EA k → ¬ EC k) (d3 : ∀ k, EB k → ¬ EC k) (hlen : rows.length ≤ 100000) (hbase : base ≤ w.heap.size)
    (h : ∀ a' n' c' w', Acc w' base (fun k => D0 k ∨ (EA k ∨ EB k ∨ EC k) ∧ k < w.heap.size) 71 5 (.slice a' n' c') (rows ++ [rowR f]) → Ext (fun k => v.ownBlock = some k) w w' → w.heap.size ≤ w'.heap.size → (∀ k, (Value.slice a' n' c').ownBlock = some k → v.ownBlock = some k ∨ w.heap.size ≤ k) → K (a.put o.dst (.slice a' n' c')) w') :
    if Region.wanted o (yielded ops a.tmps) = true then Oper.wp Tryz.prog o a w K Q else E := by
  obtain ⟨xs, E', h1, _⟩ := id hacc
  have o1 : A.oneCell' = true := hA.read.one
  have o2 : B.oneCell' = true := hB.read.one
  have o3 : C.oneCell' = true := hC.read.one
  refine step_app hgd s x 28 ho base 71 (.agg #[.slice none 0 0, .slice none 0 0, .int .i64 0, .slice none 0 0, .int .i64 0]) 5 88 Tryz.underlying28 (by kernel_rfl) rfl (by omega) v rows.length xs hs h1 (some ⟨g, 0, none⟩) 1 c [A, B, .int .i64 f.result, C, .int .i64 f.body.result] hx ⟨rfl, fun _ => ⟨g, 0, rfl, fun j u hj => by rw [Nat.zero_add]; exact hcells j u hj⟩⟩
    (by intro u hu; simp at hu; rcases hu with rfl | rfl | rfl | rfl | rfl <;> first | rfl | assumption) (by omega) (by omega) hbase (fun v' w' q1 q2 q3 => ?_)
  have hfin : Acc w' base (fun k => D0 k ∨ (EA k ∨ EB k ∨ EC k) ∧ k < w.heap.size) 71 5 v' (rows ++ [rowR f]) := ?_
  · obtain ⟨a', c', rfl, _, _⟩ := hfin.own (by omega) (by simp; omega)
    exact h _ _ _ w' hfin ⟨q2.os, q2.tape, q2.output, q2.size, fun k hk hn => q2.block k hk (fun e => hn e.symm)⟩ q2.size (fun k hk => by
      rcases q3 with e | e
      · rw [e] at hk; exact .inl hk
      · rw [e] at hk; injection hk with hk; exact .inr (by omega))
  refine hacc.push (r := rowR f) (news := [A, B, .int .i64 f.result, C, .int .i64 f.body.result]) (D2 := fun j k => (j = 0 ∧ EA k ∨ j = 1 ∧ EB k ∨ j = 3 ∧ EC k) ∧ k < w.heap.size) rfl rfl (fun j u hj => ?_) (fun j k hj hk => ?_) (fun j j' k _ _ h1 h2 => ?_) (fun k hk => .inl hk) (fun xs' hxs' => ?_) q2 q3
  · rcases (show j = 0 ∨ j = 1 ∨ j = 2 ∨ j = 3 ∨ j = 4 by have := (List.getElem?_eq_some_iff.1 hj).1; simp at this; omega) with rfl | rfl | rfl | rfl | rfl
    · simp at hj; subst hj; exact hA.lt.mono (fun k hk => ⟨.inl ⟨rfl, hk.1⟩, hk.2⟩)
    · simp at hj; subst hj; exact hB.lt.mono (fun k hk => ⟨.inr (.inl ⟨rfl, hk.1⟩), hk.2⟩)
    · simp at hj; subst hj; exact .num _ _
    · simp at hj; subst hj; exact hC.lt.mono (fun k hk => ⟨.inr (.inr ⟨rfl, hk.1⟩), hk.2⟩)
    · simp at hj; subst hj; exact .num _ _
  · have h5 : EA k ∨ EB k ∨ EC k := by
      rcases hk.1 with h | h | h
      · exact .inl h.2
      · exact .inr (.inl h.2)
      · exact .inr (.inr h.2)
    exact ⟨.inr ⟨h5, hk.2⟩, (hE k h5).1, (hE k h5).2, hk.2⟩
  · rcases h1.1 with h1 | h1 | h1 <;> rcases h2.1 with h2 | h2 | h2
    · omega
    · exact absurd h2.2 (d1 k h1.2)
    · exact absurd h2.2 (d2 k h1.2)
    · exact absurd h1.2 (d1 k h2.2)
    · omega
    · exact absurd h2.2 (d3 k h1.2)
    · exact absurd h1.2 (d2 k h2.2)
    · exact absurd h1.2 (d3 k h2.2)
    · omega
  · rw [ownsRow_same h1 hxs']
    exact q1

end Go.Proofs.YtkapldpmjkdmcaaGreat
/- withKids, mapKids, plainBlock of the program. -/
namespace Go.Proofs.YtkapldpmjkdmcaaGreat
open Go.RowKit

/-- An operation of a region in order, told as a step. -/
theorem wpList_of_step {P : Program} {ops : Array Oper} {o : Oper} {rest : List Oper} {a : Act} {w : World} {Q : Exit → Act → World → Prop} (hgd : o.guard = none) (h : ∀ K : Act → World → Prop, (∀ a' w', wpList P ops Q rest a' w' → K a' w') → if Region.wanted o (yielded #[] a.tmps) = true then Oper.wp P o a w K Q else True) : wpList P ops Q (o :: rest) a w := by
  refine wpList_plain hgd fun K hK => ?_
  have hw : Region.wanted o (yielded #[] a.tmps) = true := by simp [Region.wanted, hgd]
  have h1 := h K (fun a' w' hx => hK a' w' hx)
  rwa [if_pos hw] at h1

set_option maxRecDepth 100000 in
set_option maxHeartbeats 2000000 in
theorem implWithKids (args : List Int) (op num into : Int) (a0 : Option Addr) (n0 c0 : Nat) (a1 : Option Addr) (n1 c1 : Nat) (ak : Option Addr) (nk ck : Nat) (D : Nat → Prop) (w : World) (h : Rd w D (encInts args) (.slice a0 n0 c0)) (hn : n0 ≤ 1048576) :
    Calls Tryz.prog 135 #[.agg #[.int .i64 op, .int .i64 num, .int .i64 into, .slice a0 n0 c0, .slice a1 n1 c1], .slice ak nk ck] w fun e w' => ∃ a' c', e = .returned (.agg #[.int .i64 op, .int .i64 num, .int .i64 into, .slice a' n0 c', .slice ak nk ck]) ∧ Own w' (fun k => w.heap.size + 2 ≤ k) (encInts args) (.slice a' n0 c') ∧ Keep w w' := by
  refine calls_k fun Q hQ => ?_
  have KA := (Keep.al w (.cells #[.int .i64 op, .int .i64 num, .int .i64 into, .slice a0 n0 c0, .slice a1 n1 c1] 136)).trans (Keep.al _ (.cells #[.int .i64 0, .int .i64 0, .int .i64 0, .slice none 0 0, .slice none 0 0] 136))
  have RS := (rowOf w #[.int .i64 op, .int .i64 num, .int .i64 into, .slice a0 n0 c0, .slice a1 n1 c1] 136).alloc (.cells #[.int .i64 0, .int .i64 0, .int .i64 0, .slice none 0 0, .slice none 0 0] 136)
  have RZ := rowOf (w.alloc (.cells #[.int .i64 op, .int .i64 num, .int .i64 into, .slice a0 n0 c0, .slice a1 n1 c1] 136)) #[.int .i64 0, .int .i64 0, .int .i64 0, .slice none 0 0, .slice none 0 0] 136
  simp only [World.size_alloc] at RZ
  have RS := Lib.hid RS
  have RZ := Lib.hid RZ
  have hnl : args.length = n0 := (ints_at h).1
  have HNL := Lib.hid hnl
  have H := Lib.hid (h.k KA)
  have KW := Lib.hid KA
  have sA : ((w.alloc (.cells #[.int .i64 op, .int .i64 num, .int .i64 into, .slice a0 n0 c0, .slice a1 n1 c1] 136)).alloc (.cells #[.int .i64 0, .int .i64 0, .int .i64 0, .slice none 0 0, .slice none 0 0] 136)).heap.size = w.heap.size + 2 := by simp
  have SA := Lib.hid sA
  clear KA h hnl sA
  go_enter Tryz.func135, Tryz.ntmps135
  go_wp2_with fail
  refine (cloneInts a0 n0 c0 args _ _ H.out.toInts (by omega)).mono ?_
  rintro e w1 ⟨v, rfl, hv, p1⟩
  obtain ⟨a9, c9, e9, hc9, _⟩ := hv.slice
  rw [HNL.out] at e9
  subst e9
  have OV := Lib.hid (hv.owns (by have := HNL.out; omega))
  have hvl := hv.lt
  have HVL : Hid (∀ k, (Value.slice a9 n0 c9).ownBlock = some k → w.heap.size + 2 ≤ k) := fun k hk => by have := (hvl k hk).1; have := SA.out; omega
  have RS1 := row_ext RS.out p1 (fun h => h)
  have RZ1 := row_ext RZ.out p1 (fun h => h)
  have s0 : w1.cell? ⟨w.heap.size, 0, none⟩ = some (.int .i64 op) := RS1.cell (i := 0) (by simp)
  have s1 : w1.cell? ⟨w.heap.size, 1, none⟩ = some (.int .i64 num) := RS1.cell (i := 1) (by simp)
  have s2 : w1.cell? ⟨w.heap.size, 2, none⟩ = some (.int .i64 into) := RS1.cell (i := 2) (by simp)
  have s3 : w1.cell? ⟨w.heap.size, 3, none⟩ = some (.slice a0 n0 c0) := RS1.cell (i := 3) (by simp)
  have s4 : w1.cell? ⟨w.heap.size, 4, none⟩ = some (.slice a1 n1 c1) := RS1.cell (i := 4) (by simp)
  have t3 := RS1.frozen 3
  have t4 := RS1.frozen 4
  have RS2 : Hid (((w1.setCell ⟨w.heap.size, 3, none⟩ (.slice a9 n0 c9)).setCell ⟨w.heap.size, 4, none⟩ (.slice ak nk ck)).rowIs w.heap.size 136 5 (fun i => (#[.int .i64 op, .int .i64 num, .int .i64 into, .slice a9 n0 c9, .slice ak nk ck] : Array Value).getD i undef)) := ((RS1.set 3 _).set 4 _).congr (fun i hi => by rcases (show i = 0 ∨ i = 1 ∨ i = 2 ∨ i = 3 ∨ i = 4 by simp at hi; omega) with rfl | rfl | rfl | rfl | rfl <;> rfl)
  have X2 : Hid (Ext (fun k => k = w.heap.size) w1 ((w1.setCell ⟨w.heap.size, 3, none⟩ (.slice a9 n0 c9)).setCell ⟨w.heap.size, 4, none⟩ (.slice ak nk ck))) := ((Ext.refl (fun k => k = w.heap.size) w1).setCell (p := ⟨w.heap.size, 3, none⟩) (.inr rfl) _).setCell (p := ⟨w.heap.size, 4, none⟩) (.inr rfl) _
  have RZ1 := Lib.hid RZ1
  have K1 := Lib.hid (KW.out.trans p1)
  clear hv hvl hc9 RS1 p1
  go_upto_region 2 with fail
  obtain ⟨w2, hw2⟩ : ∃ yW : World, yW = (w1.setCell ⟨w.heap.size, 3, none⟩ (.slice a9 n0 c9)).setCell ⟨w.heap.size, 4, none⟩ (.slice ak nk ck) := ⟨_, rfl⟩
  rw [← hw2] at RS2 X2 ⊢
  clear hw2 s0 s1 s2 s3 s4 t3 t4
  have RZ2 := row_ext RZ1.out X2.out (fun h => by omega)
  have s0 : w2.cell? ⟨w.heap.size, 0, none⟩ = some (.int .i64 op) := RS2.out.cell (i := 0) (by omega)
  have s1 : w2.cell? ⟨w.heap.size, 1, none⟩ = some (.int .i64 num) := RS2.out.cell (i := 1) (by omega)
  have s2 : w2.cell? ⟨w.heap.size, 2, none⟩ = some (.int .i64 into) := RS2.out.cell (i := 2) (by omega)
  have s3 : w2.cell? ⟨w.heap.size, 3, none⟩ = some (.slice a9 n0 c9) := RS2.out.cell (i := 3) (by omega)
  have s4 : w2.cell? ⟨w.heap.size, 4, none⟩ = some (.slice ak nk ck) := RS2.out.cell (i := 4) (by omega)
  have z0 : w2.cell? ⟨w.heap.size + 1, 0, none⟩ = some (.int .i64 0) := RZ2.cell (i := 0) (by simp)
  have z1 : w2.cell? ⟨w.heap.size + 1, 1, none⟩ = some (.int .i64 0) := RZ2.cell (i := 1) (by simp)
  have z2 : w2.cell? ⟨w.heap.size + 1, 2, none⟩ = some (.int .i64 0) := RZ2.cell (i := 2) (by simp)
  have z3 : w2.cell? ⟨w.heap.size + 1, 3, none⟩ = some (.slice none 0 0) := RZ2.cell (i := 3) (by simp)
  have z4 : w2.cell? ⟨w.heap.size + 1, 4, none⟩ = some (.slice none 0 0) := RZ2.cell (i := 4) (by simp)
  have f0 := RZ2.frozen 0
  have f1 := RZ2.frozen 1
  have f2 := RZ2.frozen 2
  have f3 := RZ2.frozen 3
  have f4 := RZ2.frozen 4
  have X := (((((Ext.refl (fun k => k = w.heap.size + 1) w2).setCell (p := ⟨w.heap.size + 1, 0, none⟩) (.inr rfl) (.int .i64 op)).setCell (p := ⟨w.heap.size + 1, 1, none⟩) (.inr rfl) (.int .i64 num)).setCell (p := ⟨w.heap.size + 1, 2, none⟩) (.inr rfl) (.int .i64 into)).setCell (p := ⟨w.heap.size + 1, 3, none⟩) (.inr rfl) (.slice a9 n0 c9)).setCell (p := ⟨w.heap.size + 1, 4, none⟩) (.inr rfl) (.slice ak nk ck)
  have KF := Lib.hid ((K1.out.then_ X2.out (fun i hi e => by omega)).then_ X (fun i hi e => by omega))
  have OF := Lib.hid (((OV.out.ext X2.out (fun k hk e => by have := HVL.out k hk; omega)).ext X (fun k hk e => by have := HVL.out k hk; omega)).mono (D' := fun k => w.heap.size + 2 ≤ k) (fun k hk => HVL.out k hk))
  clear RZ2 X
  go_wp2_with fail
  exact bodyPost_ret (v := .agg #[.int .i64 op, .int .i64 num, .int .i64 into, .slice a9 n0 c9, .slice ak nk ck]) (by simp [results, Tryz.results135, go_sem, z0, z1, z2, z3, z4]) rfl (fin_ hQ ⟨a9, c9, rfl, OF.out, KF.out⟩)

/-- What plainBlock of the program does for one block. -/
def PlIp (ss : List StepL) (res : Int) : Prop := ∀ (a : Option Addr) (n c : Nat) (D : Nat → Prop) (w : World), Rd w D (encSteps ss) (.slice a n c) →
  Calls Tryz.prog 41 #[.agg #[.slice a n c, .int .i64 res]] w fun e w' => ∃ a' n' c', e = .returned (.agg #[.slice a' n' c', .int .i64 res]) ∧ Own w' (fun k => w.heap.size ≤ k) (encSteps (plSs ss)) (.slice a' n' c') ∧ Keep w w'

set_option maxRecDepth 100000 in
set_option maxHeartbeats 2000000 in
theorem implMapKids (op num into : Int) (args : List Int) (ks : List BlockL) (hk3 : ks.length ≤ 3) (IH0 : ∀ i, i < ks.length → PlIp (bAt ks i).steps (bAt ks i).result) (a0 : Option Addr) (n0 c0 : Nat) (a1 : Option Addr) (n1 c1 : Nat) (D : Nat → Prop) (w : World) (h : Rd w D (encInts args) (.slice a0 n0 c0)) (hb : Rd w D (encBlocks ks) (.slice a1 n1 c1)) (hn : n0 ≤ 1048576) :
    Calls Tryz.prog 87 #[.agg #[.int .i64 op, .int .i64 num, .int .i64 into, .slice a0 n0 c0, .slice a1 n1 c1], .func (.func 41) #[] #[]] w fun e w' => ∃ a' c' ak nk ck, ∃ m : Nat, e = .returned (.agg #[.int .i64 op, .int .i64 num, .int .i64 into, .slice a' n0 c', .slice ak nk ck]) ∧ w.heap.size + 2 ≤ m ∧ Own w' (fun k => m ≤ k ∧ k < w'.heap.size) (encInts args) (.slice a' n0 c') ∧ Own w' (fun k => w.heap.size + 2 ≤ k ∧ k < m) (encBlocks (plBs ks)) (.slice ak nk ck) ∧ Keep w w' := by
  refine calls_k fun Q hQ => ?_
  have IH := Lib.hid IH0
  have KA := (Keep.al w (.cells #[.int .i64 op, .int .i64 num, .int .i64 into, .slice a0 n0 c0, .slice a1 n1 c1] 136)).trans (Keep.al _ (.cells #[.int .i64 0, .int .i64 0, .int .i64 0, .slice none 0 0, .slice none 0 0] 136))
  have RS := (rowOf w #[.int .i64 op, .int .i64 num, .int .i64 into, .slice a0 n0 c0, .slice a1 n1 c1] 136).alloc (.cells #[.int .i64 0, .int .i64 0, .int .i64 0, .slice none 0 0, .slice none 0 0] 136)
  have RZ := rowOf (w.alloc (.cells #[.int .i64 op, .int .i64 num, .int .i64 into, .slice a0 n0 c0, .slice a1 n1 c1] 136)) #[.int .i64 0, .int .i64 0, .int .i64 0, .slice none 0 0, .slice none 0 0] 136
  simp only [World.size_alloc] at RZ
  have RS := Lib.hid RS
  have RZ := Lib.hid RZ
  have H := Lib.hid ((h.lt).k KA)
  have HB := Lib.hid ((hb.lt).k KA)
  have KW := Lib.hid KA
  have SA : Hid (((w.alloc (.cells #[.int .i64 op, .int .i64 num, .int .i64 into, .slice a0 n0 c0, .slice a1 n1 c1] 136)).alloc (.cells #[.int .i64 0, .int .i64 0, .int .i64 0, .slice none 0 0, .slice none 0 0] 136)).heap.size = w.heap.size + 2) := by show _ = _; simp
  have A0 : Hid (Acc ((w.alloc (.cells #[.int .i64 op, .int .i64 num, .int .i64 into, .slice a0 n0 c0, .slice a1 n1 c1] 136)).alloc (.cells #[.int .i64 0, .int .i64 0, .int .i64 0, .slice none 0 0, .slice none 0 0] 136)) (w.heap.size + 2) (fun _ => False) 69 2 (.slice none 0 0) (rowsB (plBs (ks.take 0)))) := by show Acc _ _ _ _ _ _ _; rw [List.take_zero, plBs]; exact Acc.nil _ _ _ _ _
  clear KA h hb IH0
  go_enter Tryz.func87, Tryz.ntmps87
  go_wp2_with fail
  generalize hW : (w.alloc (.cells #[.int .i64 op, .int .i64 num, .int .i64 into, .slice a0 n0 c0, .slice a1 n1 c1] 136)).alloc (.cells #[.int .i64 0, .int .i64 0, .int .i64 0, .slice none 0 0, .slice none 0 0] 136) = W at *
  clear hW
  have E0 : Hid (Keep W W) := Ext.refl _ _
  go_loopw [5, 11] (fun ov iv wr => ∃ (i : Nat) (ok : Value) (DK : Nat → Prop), ok = ov ∧ i ≤ n1 ∧ iv = .int .i64 i ∧ Hid (Acc wr (w.heap.size + 2) DK 69 2 ov (rowsB (plBs (ks.take i)))) ∧ Hid (∀ k, DK k → w.heap.size + 2 ≤ k ∧ k < wr.heap.size) ∧ Hid (Keep W wr)) (fun _ iv _ => n1 - (intOf iv).toNat)
  case atStart => exact ⟨0, _, fun _ => False, rfl, Nat.zero_le _, rfl, A0, fun _ h => h.elim, E0⟩
  case round =>
    clear A0 E0
    obtain ⟨i, ok, DK, rfl, hi, rfl, HA, HD, HK⟩ := hrel
    obtain ⟨wo, rfl⟩ : ∃ wo : World, wo = wr := ⟨_, rfl⟩
    have hwo := HK.out.size
    have hmw : w.heap.size + 2 ≤ wo.heap.size := by have := SA.out; omega
    obtain ⟨ek, hkc, hkm, hkat⟩ := blocks_at HB.out
    by_cases hil : i < n1
    · have hikl : i < ks.length := by omega
      obtain ⟨bk, o, rfl, hbk, az, nz, cz, k0, k1, rkk⟩ := hkat i hil
      have k0 := HK.out.cq k0 (fun h => h)
      have k1 := HK.out.cq k1 (fun h => h)
      have KB := Keep.al wo (.cells #[.slice az nz cz, .int .i64 (bAt ks i).result] 69)
      have RB := rowOf wo #[.slice az nz cz, .int .i64 (bAt ks i).result] 69
      have q0 : (wo.alloc (.cells #[.slice az nz cz, .int .i64 (bAt ks i).result] 69)).cell? ⟨wo.heap.size, 0, none⟩ = some (.slice az nz cz) := RB.cell (i := 0) (by simp)
      have q1 : (wo.alloc (.cells #[.slice az nz cz, .int .i64 (bAt ks i).result] 69)).cell? ⟨wo.heap.size, 1, none⟩ = some (.int .i64 (bAt ks i).result) := RB.cell (i := 1) (by simp)
      have QK := Lib.hid ((rkk.k HK.out).k KB)
      have HTB := Lib.hid (plBs_take hikl)
      have HLB : Hid ((rowsB (plBs (ks.take i))).length ≤ 3) := by show _ ≤ _; rw [blocks_len, plBs_map, List.length_map, List.length_take]; omega
      have KB' := Lib.hid KB
      have sB : (wo.alloc (.cells #[.slice az nz cz, .int .i64 (bAt ks i).result] 69)).heap.size = wo.heap.size + 1 := by simp
      have SB := Lib.hid sB
      have hob := Lib.hid (fun k hk => (HA.out.bound k hk))
      clear KB RB sB rkk hkat
      go_wp2_with fail
      refine (IH.out i hikl az nz cz _ _ QK.out).mono ?_
      rintro e w5 ⟨ab, nb, cb, rfl, ob, p5⟩
      have OB := Lib.hid (ob.lt)
      have hw5 := p5.size
      have HW5 : Hid (wo.heap.size + 1 ≤ w5.heap.size) := by show _ ≤ _; have := SB.out; omega
      have KAB := Keep.al w5 (.cells #[.slice ab nb cb, .int .i64 (bAt ks i).result] 69)
      have HAX := Lib.hid (((HA.out.keep KB'.out).keep p5).keep KAB)
      have K5 := Lib.hid (((HK.out.trans KB'.out).trans p5).trans KAB)
      have OB2 := Lib.hid (OB.out.ext KAB (fun _ _ h => h))
      have HSB := SB.out
      clear ob p5 q0 q1 k0 k1
      go_wp2_with (at_builtin; go_must (refine wpList_of_step rfl (fun K hK => step_addB (by rfl) (.tmp 15) (.tmp 19) (by rfl) (w.heap.size + 2) ok _ (by rfl) HAX.out w5.heap.size 1 (plSs (bAt ks i).steps) (bAt ks i).result (.slice ab nb cb) _ (by rfl) (cells_lit w5 _ _) OB2.out (fun k hk => ⟨fun h => by have h1 := (HD.out k h).2; have h2 := hk.1; omega, fun h => by have h1 := (hob.out k h).2; have h2 := hk.1; omega⟩) (by have := HLB.out; omega) (by have := HW5.out; simp; omega) (fun a7 n7 c7 wz hA7 x7 s7 b7 => hK _ _ ?_))))
      have X7 := Lib.hid x7
      go_roundw
      case rel => exact ⟨i + 1, _, _, rfl, by omega, by go_num, (by
        show Acc _ _ _ _ _ _ _
        rw [HTB.out, rowsB_map, List.map_append, ← rowsB_map, List.map_singleton, plB_eq]
        exact hA7), (fun k hk => by
        have h1 := X7.out.size
        simp only [World.size_alloc] at h1
        rcases hk with hk | hk
        · have := HD.out k hk; have := HW5.out; omega
        · have h2 := hk.1.1; have h3 := hk.2; simp only [World.size_alloc] at h3; omega), K5.out.then_ X7.out (fun i hi h => by have := (hob.out i h).1; have := SA.out; omega)⟩
      case measure => simp [intOf]; omega
    · have hin : i = n1 := by omega
      subst hin
      have HTK : Hid (ks.take i = ks) := by show _ = _; rw [List.take_of_length_le (by omega)]
      rw [HTK.out] at HA
      obtain ⟨ak, ck, e9, hck, hok⟩ := HA.out.own (by omega) (by rw [blocks_len, plBs_map, List.length_map]; omega)
      obtain ⟨nk, hnk⟩ : ∃ m, (rowsB (plBs ks)).length = m := ⟨_, rfl⟩
      rw [hnk] at e9
      subst e9
      have OK := Lib.hid (hok.lt.mono (D' := fun k => w.heap.size + 2 ≤ k ∧ k < wo.heap.size) (fun k hk => ⟨by rcases hk.1 with h | h; exact (HD.out k h).1; exact h, hk.2⟩))
      have RS1 := row_ext RS.out HK.out (fun h => h)
      have RZ1 := Lib.hid (row_ext RZ.out HK.out (fun h => h))
      have s0 : wo.cell? ⟨w.heap.size, 0, none⟩ = some (.int .i64 op) := RS1.cell (i := 0) (by simp)
      have s1 : wo.cell? ⟨w.heap.size, 1, none⟩ = some (.int .i64 num) := RS1.cell (i := 1) (by simp)
      have s2 : wo.cell? ⟨w.heap.size, 2, none⟩ = some (.int .i64 into) := RS1.cell (i := 2) (by simp)
      have s3 : wo.cell? ⟨w.heap.size, 3, none⟩ = some (.slice a0 n0 c0) := RS1.cell (i := 3) (by simp)
      have s4 : wo.cell? ⟨w.heap.size, 4, none⟩ = some (.slice a1 i c1) := RS1.cell (i := 4) (by simp)
      have H1 := Lib.hid (H.out.k HK.out)
      clear hok hnk hck RS1 hkat
      go_wp2_with fail
      refine (implWithKids args op num into a0 n0 c0 a1 i c1 ak nk ck _ wo H1.out hn).mono ?_
      rintro e w2 ⟨a9, c9, rfl, oa, p2⟩
      have OA := Lib.hid (oa.lt.mono (D' := fun k => wo.heap.size + 2 ≤ k ∧ k < w2.heap.size) (fun k hk => hk))
      have RZ2 := row_ext RZ1.out p2 (fun h => h)
      have z0 : w2.cell? ⟨w.heap.size + 1, 0, none⟩ = some (.int .i64 0) := RZ2.cell (i := 0) (by simp)
      have z1 : w2.cell? ⟨w.heap.size + 1, 1, none⟩ = some (.int .i64 0) := RZ2.cell (i := 1) (by simp)
      have z2 : w2.cell? ⟨w.heap.size + 1, 2, none⟩ = some (.int .i64 0) := RZ2.cell (i := 2) (by simp)
      have z3 : w2.cell? ⟨w.heap.size + 1, 3, none⟩ = some (.slice none 0 0) := RZ2.cell (i := 3) (by simp)
      have z4 : w2.cell? ⟨w.heap.size + 1, 4, none⟩ = some (.slice none 0 0) := RZ2.cell (i := 4) (by simp)
      have f0 := RZ2.frozen 0
      have f1 := RZ2.frozen 1
      have f2 := RZ2.frozen 2
      have f3 := RZ2.frozen 3
      have f4 := RZ2.frozen 4
      have X := (((((Ext.refl (fun k => k = w.heap.size + 1) w2).setCell (p := ⟨w.heap.size + 1, 0, none⟩) (.inr rfl) (.int .i64 op)).setCell (p := ⟨w.heap.size + 1, 1, none⟩) (.inr rfl) (.int .i64 num)).setCell (p := ⟨w.heap.size + 1, 2, none⟩) (.inr rfl) (.int .i64 into)).setCell (p := ⟨w.heap.size + 1, 3, none⟩) (.inr rfl) (.slice a9 n0 c9)).setCell (p := ⟨w.heap.size + 1, 4, none⟩) (.inr rfl) (.slice ak nk ck)
      have KF := Lib.hid (((KW.out.trans HK.out).trans p2).then_ X (fun i hi e => by omega))
      have hxs := X.size
      have OF := Lib.hid ((OA.out.ext X (fun k hk e => by omega)).mono (D' := fun k => wo.heap.size ≤ k ∧ k < (((((w2.setCell ⟨w.heap.size + 1, 0, none⟩ (.int .i64 op)).setCell ⟨w.heap.size + 1, 1, none⟩ (.int .i64 num)).setCell ⟨w.heap.size + 1, 2, none⟩ (.int .i64 into)).setCell ⟨w.heap.size + 1, 3, none⟩ (.slice a9 n0 c9)).setCell ⟨w.heap.size + 1, 4, none⟩ (.slice ak nk ck)).heap.size) (fun k hk => ⟨by omega, by omega⟩))
      have OG := Lib.hid ((OK.out.ext p2 (fun _ _ h => h)).ext X (fun k hk e => by omega))
      clear RZ2 X oa p2 s0 s1 s2 s3 s4 hxs
      go_wp2_with fail
      exact bodyPost_ret (v := .agg #[.int .i64 op, .int .i64 num, .int .i64 into, .slice a9 n0 c9, .slice ak nk ck]) (by simp [results, Tryz.results87, go_sem, z0, z1, z2, z3, z4]) rfl (fin_ hQ ⟨a9, c9, ak, nk, ck, wo.heap.size, rfl, hmw, OF.out, OG.out, KF.out⟩)
end Go.Proofs.YtkapldpmjkdmcaaGreat
/- plainBlock of the program. -/
namespace Go.Proofs.YtkapldpmjkdmcaaGreat
open Go.RowKit

set_option maxRecDepth 100000 in
set_option maxHeartbeats 4000000 in
theorem implPlain_of (ss : List StepL) (res : Int) (hok : plOkSs ss) (hns : nSs ss ≤ 600) (IH0 : ∀ j i, j < ss.length → i < (sAt ss j).kids.length → PlIp (bAt (sAt ss j).kids i).steps (bAt (sAt ss j).kids i).result) : PlIp ss res := by
  intro a n c D w h
  refine calls_k fun Q hQ => ?_
  have IH := Lib.hid IH0
  have HOK := Lib.hid (fun (j : Nat) (hj : j < ss.length) => plOkSs_at hok hj)
  have hsn := nSs_lenN ss
  have KA := ((Keep.al w (.cells #[.slice a n c, .int .i64 res] 69)).trans (Keep.al _ (.cells #[.slice none 0 0, .int .i64 0] 69))).trans (Keep.al _ (.cells #[.slice none 0 0, .int .i64 res] 69))
  have RB0 := ((rowOf w #[.slice a n c, .int .i64 res] 69).alloc (.cells #[.slice none 0 0, .int .i64 0] 69)).alloc (.cells #[.slice none 0 0, .int .i64 res] 69)
  have RZ0 := (rowOf (w.alloc (.cells #[.slice a n c, .int .i64 res] 69)) #[.slice none 0 0, .int .i64 0] 69).alloc (.cells #[.slice none 0 0, .int .i64 res] 69)
  have RQ0 := rowOf ((w.alloc (.cells #[.slice a n c, .int .i64 res] 69)).alloc (.cells #[.slice none 0 0, .int .i64 0] 69)) #[.slice none 0 0, .int .i64 res] 69
  simp only [World.size_alloc] at RZ0 RQ0
  have RB0 := Lib.hid RB0
  have RZ0 := Lib.hid RZ0
  have RQ0 := Lib.hid RQ0
  have H1 := Lib.hid ((h.lt).k KA)
  have KA' := Lib.hid KA
  have SWL : Hid ((((w.alloc (.cells #[.slice a n c, .int .i64 res] 69)).alloc (.cells #[.slice none 0 0, .int .i64 0] 69)).alloc (.cells #[.slice none 0 0, .int .i64 res] 69)).heap.size = w.heap.size + 3) := by show _ = _; simp
  have b0 : (((w.alloc (.cells #[.slice a n c, .int .i64 res] 69)).alloc (.cells #[.slice none 0 0, .int .i64 0] 69)).alloc (.cells #[.slice none 0 0, .int .i64 res] 69)).cell? ⟨w.heap.size, 0, none⟩ = some (.slice a n c) := RB0.out.cell (i := 0) (by simp)
  have b1 : (((w.alloc (.cells #[.slice a n c, .int .i64 res] 69)).alloc (.cells #[.slice none 0 0, .int .i64 0] 69)).alloc (.cells #[.slice none 0 0, .int .i64 res] 69)).cell? ⟨w.heap.size, 1, none⟩ = some (.int .i64 res) := RB0.out.cell (i := 1) (by simp)
  clear KA h IH0 hok
  go_enter Tryz.func41, Tryz.ntmps41
  go_wp2_with fail
  generalize hWL : (((w.alloc (.cells #[.slice a n c, .int .i64 res] 69)).alloc (.cells #[.slice none 0 0, .int .i64 0] 69)).alloc (.cells #[.slice none 0 0, .int .i64 res] 69)) = wl at *
  clear hWL b0 b1
  have A0 : Hid (Acc wl wl.heap.size (fun _ => False) 136 5 (.slice none 0 0) (rowsS (plSs (ss.take 0)))) := by show Acc _ _ _ _ _ _ _; rw [List.take_zero, plSs]; exact Acc.nil _ _ _ _ _
  have E0 : Hid (Ext (fun k => k = w.heap.size + 2) wl wl) := Ext.refl _ _
  have swl := SWL.out
  go_loopw [12] (fun iv wr => ∃ (j : Nat) (DK : Nat → Prop) (vk : Value), j ≤ n ∧ iv = .int .i64 j ∧ Hid (wr.rowIs (w.heap.size + 2) 69 2 (fun i => (#[vk, .int .i64 res] : Array Value).getD i undef)) ∧ Hid (Acc wr wl.heap.size DK 136 5 vk (rowsS (plSs (ss.take j)))) ∧ Hid (∀ k, DK k → wl.heap.size ≤ k ∧ k < wr.heap.size) ∧ Hid (Ext (fun k => k = w.heap.size + 2) wl wr)) (fun iv _ => n - (intOf iv).toNat)
  case atStart => exact ⟨0, fun _ => False, _, Nat.zero_le _, rfl, RQ0, A0, fun _ h => h.elim, E0⟩
  case round =>
    clear RQ0 A0 E0
    obtain ⟨j, DK, vk, hj, rfl, RQ, HA, HD, HE⟩ := hrel
    obtain ⟨wo, rfl⟩ : ∃ wo : World, wo = wr := ⟨_, rfl⟩
    have hwo := HE.out.size
    obtain ⟨e1, hnc, hnm, hat⟩ := steps_at H1.out
    have HL := Lib.hid e1
    have hns0 : ∀ k, (D k ∧ k < w.heap.size) → ¬ (k = w.heap.size + 2) := fun k hk h => by omega
    by_cases hlt : j < n
    · have hjl : j < ss.length := by omega
      have hpo := HOK.out j hjl
      obtain ⟨bf, o, rfl, hbf, a3, n3, c3, a4, n4, c4, d0, d1, d2, d3, d4, ra, rk⟩ := hat j hlt
      have d0 := HE.out.cq d0 (hns0 _ hbf)
      have d1 := HE.out.cq d1 (hns0 _ hbf)
      have d2 := HE.out.cq d2 (hns0 _ hbf)
      have d3 := HE.out.cq d3 (hns0 _ hbf)
      have d4 := HE.out.cq d4 (hns0 _ hbf)
      have KS := Keep.al wo (.cells #[.int .i64 (sAt ss j).op, .int .i64 (sAt ss j).num, .int .i64 (sAt ss j).into, .slice a3 n3 c3, .slice a4 n4 c4] 136)
      have RS := rowOf wo #[.int .i64 (sAt ss j).op, .int .i64 (sAt ss j).num, .int .i64 (sAt ss j).into, .slice a3 n3 c3, .slice a4 n4 c4] 136
      have qa := Lib.hid ((ra.ext HE.out hns0).k KS)
      have qk := Lib.hid ((rk.ext HE.out hns0).k KS)
      have HTK := Lib.hid (plSs_take hjl)
      have hpl := plSs_len (ss.take j)
      rw [List.length_take] at hpl
      have HLR : Hid ((rowsS (plSs (ss.take j))).length ≤ 600) := by show _ ≤ _; rw [steps_len]; omega
      rw [show sAt ss j = .mk (sAt ss j).op (sAt ss j).num (sAt ss j).into (sAt ss j).args (sAt ss j).kids by cases sAt ss j; rfl, plOk] at hpo
      have HPO := Lib.hid hpo
      have HA1 := Lib.hid (HA.out.keep KS)
      have RQ1 := Lib.hid (row_ext RQ.out KS (fun h => h))
      have u0 : (wo.alloc (.cells #[.int .i64 (sAt ss j).op, .int .i64 (sAt ss j).num, .int .i64 (sAt ss j).into, .slice a3 n3 c3, .slice a4 n4 c4] 136)).cell? ⟨wo.heap.size, 0, none⟩ = some (.int .i64 (sAt ss j).op) := RS.cell (i := 0) (by simp)
      have sS : (wo.alloc (.cells #[.int .i64 (sAt ss j).op, .int .i64 (sAt ss j).num, .int .i64 (sAt ss j).into, .slice a3 n3 c3, .slice a4 n4 c4] 136)).heap.size = wo.heap.size + 1 := by simp
      have SS := Lib.hid sS
      have RS := Lib.hid RS
      have KS' := Lib.hid KS
      have hbd := Lib.hid (fun k hk => HA.out.bound k hk)
      clear hat hpo hpl ra rk e1 sS KS
      by_cases hop : 14 ≤ (sAt ss j).op ∧ (sAt ss j).op ≤ 17
      · have HDF : Hid (decide (14 ≤ (sAt ss j).op ∧ (sAt ss j).op ≤ 17) = true) := decide_eq_true hop
        have HTQ : Hid (plSs (ss.take (j + 1)) = plSs (ss.take j)) := by show _ = _; rw [HTK.out, if_pos hop, List.append_nil]
        go_wp2_with fail
        refine (implIsCounting _ _).mono ?_
        rw [HDF.out]
        rintro e w1 ⟨rfl, rfl⟩
        go_wp2_with fail
        go_roundw
        case rel => exact ⟨j + 1, DK, vk, by omega, by go_num, RQ1.out, (by show Acc _ _ _ _ _ _ _; rw [HTQ.out]; exact HA1.out), (fun k hk => by have h1 := HD.out k hk; have h2 := SS.out; omega), HE.out.trans (Keep.to KS'.out)⟩
        case measure => simp [intOf]; omega
      · have HDF : Hid (decide (14 ≤ (sAt ss j).op ∧ (sAt ss j).op ≤ 17) = false) := decide_eq_false hop
        have HTQ : Hid (rowsS (plSs (ss.take (j + 1))) = rowsS (plSs (ss.take j)) ++ [rowS (.mk (sAt ss j).op (sAt ss j).num 0 (sAt ss j).args (plBs (sAt ss j).kids))]) := by show _ = _; rw [HTK.out, if_neg hop, rowsS_map, rowsS_map, List.map_append, plS_eq]; rfl
        have HMK := Lib.hid (implMapKids (sAt ss j).op (sAt ss j).num (sAt ss j).into (sAt ss j).args (sAt ss j).kids HPO.out.2.2.1 (fun i hi => IH.out j i hjl hi))
        have hn3 : n3 ≤ 1048576 := by have h1 := HPO.out.2.1; have h2 := (ints_at qa.out).1; omega
        have u1 : (wo.alloc (.cells #[.int .i64 (sAt ss j).op, .int .i64 (sAt ss j).num, .int .i64 (sAt ss j).into, .slice a3 n3 c3, .slice a4 n4 c4] 136)).cell? ⟨wo.heap.size, 1, none⟩ = some (.int .i64 (sAt ss j).num) := RS.out.cell (i := 1) (by simp)
        have u2 : (wo.alloc (.cells #[.int .i64 (sAt ss j).op, .int .i64 (sAt ss j).num, .int .i64 (sAt ss j).into, .slice a3 n3 c3, .slice a4 n4 c4] 136)).cell? ⟨wo.heap.size, 2, none⟩ = some (.int .i64 (sAt ss j).into) := RS.out.cell (i := 2) (by simp)
        have u3 : (wo.alloc (.cells #[.int .i64 (sAt ss j).op, .int .i64 (sAt ss j).num, .int .i64 (sAt ss j).into, .slice a3 n3 c3, .slice a4 n4 c4] 136)).cell? ⟨wo.heap.size, 3, none⟩ = some (.slice a3 n3 c3) := RS.out.cell (i := 3) (by simp)
        have u4 : (wo.alloc (.cells #[.int .i64 (sAt ss j).op, .int .i64 (sAt ss j).num, .int .i64 (sAt ss j).into, .slice a3 n3 c3, .slice a4 n4 c4] 136)).cell? ⟨wo.heap.size, 4, none⟩ = some (.slice a4 n4 c4) := RS.out.cell (i := 4) (by simp)
        go_wp2_with fail
        refine (implIsCounting _ _).mono ?_
        rw [HDF.out]
        rintro e w1 ⟨rfl, rfl⟩
        go_wp2_with fail
        refine (HMK.out a3 n3 c3 a4 n4 c4 _ _ qa.out qk.out hn3).mono ?_
        rintro e w2 ⟨a9, c9, ak, nk, ck, m, rfl, hm, oa, ok, p2⟩
        obtain ⟨sb, hsb⟩ : ∃ g, g = wo.heap.size := ⟨_, rfl⟩
        have HSB := Lib.hid hsb
        rw [← hsb] at RS
        rw [← hsb]
        have RS2 := Lib.hid (row_ext RS.out p2 (fun h => h))
        have OA := Lib.hid oa
        have OK := Lib.hid ok
        have HM : Hid (sb + 3 ≤ m) := by show _ ≤ _; have := SS.out; omega
        have K2 := Lib.hid (KS'.out.trans p2)
        have v0 : w2.cell? ⟨sb, 0, none⟩ = some (.int .i64 (sAt ss j).op) := RS2.out.cell (i := 0) (by simp)
        have v1 : w2.cell? ⟨sb, 1, none⟩ = some (.int .i64 (sAt ss j).num) := RS2.out.cell (i := 1) (by simp)
        have v2 : w2.cell? ⟨sb, 2, none⟩ = some (.int .i64 (sAt ss j).into) := RS2.out.cell (i := 2) (by simp)
        have v3 : w2.cell? ⟨sb, 3, none⟩ = some (.slice a3 n3 c3) := RS2.out.cell (i := 3) (by simp)
        have v4 : w2.cell? ⟨sb, 4, none⟩ = some (.slice a4 n4 c4) := RS2.out.cell (i := 4) (by simp)
        have f0 := RS2.out.frozen 0
        have f1 := RS2.out.frozen 1
        have f2 := RS2.out.frozen 2
        have f3 := RS2.out.frozen 3
        have f4 := RS2.out.frozen 4
        clear hsb oa ok hm p2 u0 u1 u2 u3 u4 d0 d1 d2 d3 d4
        go_upto_region 8 with fail
        obtain ⟨wi, hWi⟩ : ∃ yW : World, yW = ((((((w2.setCell ⟨sb, 0, none⟩ (.int .i64 (sAt ss j).op)).setCell ⟨sb, 1, none⟩ (.int .i64 (sAt ss j).num)).setCell ⟨sb, 2, none⟩ (.int .i64 (sAt ss j).into)).setCell ⟨sb, 3, none⟩ (.slice a9 n3 c9)).setCell ⟨sb, 4, none⟩ (.slice ak nk ck)).setCell ⟨sb, 2, none⟩ (.int .i64 0)) := ⟨_, rfl⟩
        rw [← hWi]
        have XI : Hid (Ext (fun k => k = sb) w2 wi) := by show Ext _ _ _; rw [hWi]; exact ((((((Ext.refl (fun k => k = sb) w2).setCell (p := ⟨sb, 0, none⟩) (.inr rfl) _).setCell (p := ⟨sb, 1, none⟩) (.inr rfl) _).setCell (p := ⟨sb, 2, none⟩) (.inr rfl) _).setCell (p := ⟨sb, 3, none⟩) (.inr rfl) _).setCell (p := ⟨sb, 4, none⟩) (.inr rfl) _).setCell (p := ⟨sb, 2, none⟩) (.inr rfl) _
        have RI : Hid (wi.rowIs sb 136 5 (fun i => (#[.int .i64 (sAt ss j).op, .int .i64 (sAt ss j).num, .int .i64 0, .slice a9 n3 c9, .slice ak nk ck] : Array Value).getD i undef)) := by
          show World.rowIs _ _ _ _ _
          rw [hWi]
          exact ((((((RS2.out.set 0 _).set 1 _).set 2 _).set 3 _).set 4 _).set 2 _).congr (fun i hi => by rcases (show i = 0 ∨ i = 1 ∨ i = 2 ∨ i = 3 ∨ i = 4 by simp at hi; omega) with rfl | rfl | rfl | rfl | rfl <;> rfl)
        clear hWi v0 v1 v2 v3 v4 f0 f1 f2 f3 f4
        have hm3 := HM.out
        have hsb := HSB.out
        have hk2 := K2.out.size
        have hxi := XI.out.size
        have OA2 := Lib.hid (OA.out.ext XI.out (fun k hk e => by omega))
        have OK2 := Lib.hid (OK.out.ext XI.out (fun k hk e => by have := SS.out; omega))
        have HAI := Lib.hid ((HA.out.keep K2.out).extO XI.out (fun k hk hd e => by have := (HD.out k hd).2; omega) (fun k hk e => by have := (hbd.out k hk).2; omega))
        have RQI := Lib.hid (row_ext (row_ext RQ.out K2.out (fun h => h)) XI.out (fun h => by omega))
        have z0 : wi.cell? ⟨w.heap.size + 2, 0, none⟩ = some vk := RQI.out.cell (i := 0) (by omega)
        have v0 : wi.cell? ⟨sb, 0, none⟩ = some (.int .i64 (sAt ss j).op) := RI.out.cell (i := 0) (by omega)
        have v1 : wi.cell? ⟨sb, 1, none⟩ = some (.int .i64 (sAt ss j).num) := RI.out.cell (i := 1) (by omega)
        have v2 : wi.cell? ⟨sb, 2, none⟩ = some (.int .i64 0) := RI.out.cell (i := 2) (by omega)
        have v3 : wi.cell? ⟨sb, 3, none⟩ = some (.slice a9 n3 c9) := RI.out.cell (i := 3) (by omega)
        have v4 : wi.cell? ⟨sb, 4, none⟩ = some (.slice ak nk ck) := RI.out.cell (i := 4) (by omega)
        have KL := Keep.al wi (.cells #[.int .i64 (sAt ss j).op, .int .i64 (sAt ss j).num, .int .i64 0, .slice a9 n3 c9, .slice ak nk ck] 136)
        have HAL := Lib.hid (HAI.out.keep KL)
        have OA3 := Lib.hid (OA2.out.ext KL (fun _ _ h => h))
        have OK3 := Lib.hid (OK2.out.ext KL (fun _ _ h => h))
        have RQL := Lib.hid (row_ext RQI.out KL (fun h => h))
        have KL' := Lib.hid KL
        have HSS := SS.out
        have hbw : wl.heap.size ≤ (wi.alloc (.cells #[.int .i64 (sAt ss j).op, .int .i64 (sAt ss j).num, .int .i64 0, .slice a9 n3 c9, .slice ak nk ck] 136)).heap.size := by simp; omega
        have hma : wo.heap.size + 3 ≤ m := by omega
        clear KL hsb
        have HEX : Hid (∀ k, (m ≤ k ∧ k < w2.heap.size) ∨ ((wo.alloc (.cells #[.int .i64 (sAt ss j).op, .int .i64 (sAt ss j).num, .int .i64 (sAt ss j).into, .slice a3 n3 c3, .slice a4 n4 c4] 136)).heap.size + 2 ≤ k ∧ k < m) → ¬ DK k ∧ vk.ownBlock ≠ some k) := fun k hk => by
          have hge : wo.heap.size ≤ k := by have h9 := HSB.out; rcases hk with hk | hk <;> (have := hk.1; omega)
          exact ⟨fun h => by have h1 := (HD.out k h).2; omega, fun h => by have h1 := (hbd.out k h).2; omega⟩
        go_wp2_with (at_builtin; go_must (refine wpList_of_step rfl (fun K hK => step_addS (by rfl) (.tmp 24) (.tmp 26) (by rfl) wl.heap.size vk _ (by rfl) HAL.out wi.heap.size 1 (sAt ss j).op (sAt ss j).num 0 (sAt ss j).args (plBs (sAt ss j).kids) (.slice a9 n3 c9) (.slice ak nk ck) _ _ (by rfl) (cells_lit wi _ _) OA3.out OK3.out HEX.out (fun k h1 h2 => by have h3 := h1.1; have h4 := h2.2; omega) (by have := HLR.out; omega) hbw (fun a7 n7 c7 wz hA7 x7 s7 b7 => hK _ _ ?_))); have X7 := Lib.hid x7; have A7 := Lib.hid hA7; have B7 := Lib.hid b7; have RZ7 := row_ext RQL.out X7.out (fun e => by have := (hbd.out _ e).1; omega); have g1 : wz.cell? ⟨w.heap.size + 2, 0, none⟩ = some vk := RZ7.cell (i := 0) (by omega); have g2 := RZ7.frozen 0; have RY := Lib.hid (RZ7.set 0 (.slice a7 n7 c7)); clear hA7 x7 b7 RZ7)
        have XY : Hid (Ext (fun k => k = w.heap.size + 2) wz (wz.setCell ⟨w.heap.size + 2, 0, none⟩ (.slice a7 n7 c7))) := (Ext.refl (fun k => k = w.heap.size + 2) wz).setCell (p := ⟨w.heap.size + 2, 0, none⟩) (.inr rfl) _
        have hx7 := X7.out.size
        have hl7 := KL'.out.size
        have hxy : (wz.setCell ⟨w.heap.size + 1 + 1, 0, none⟩ (.slice a7 n7 c7)).heap.size = wz.heap.size := by simp
        go_roundw
        case rel => exact ⟨j + 1, _, .slice a7 n7 c7, by omega, by go_num, RY.out.congr (fun i hi => by rcases (show i = 0 ∨ i = 1 by omega) with rfl | rfl <;> rfl), (by
          show Acc _ _ _ _ _ _ _
          rw [HTQ.out]
          refine A7.out.extO XY.out (fun k hk hd e => ?_) (fun k hk e => ?_)
          · rcases hd with hd | hd
            · have := (HD.out k hd).1; omega
            · rcases hd.1 with h | h
              · have := h.1; omega
              · have := h.1; omega
          · rcases B7.out k hk with h | h
            · have := (hbd.out k h).1; omega
            · omega), (fun k hk => by
          rcases hk with hk | hk
          · have := HD.out k hk; omega
          · have h2 := hk.2
            rcases hk.1 with h | h
            · have := h.1; omega
            · have := h.1; omega), ((((HE.out.trans (Keep.to K2.out)).then_ XI.out (fun i hi e => by have := HSB.out; omega)).trans (Keep.to KL'.out)).then_ X7.out (fun i hi h => by have := (hbd.out i h).1; omega)).trans XY.out⟩
        case measure => simp [intOf]; omega
    · have hjn : j = n := by omega
      subst hjn
      have HJ : Hid (ss.take j = ss) := by show _ = _; rw [List.take_of_length_le (by have := HL.out; omega)]
      rw [HJ.out] at HA
      have hpl := plSs_len ss
      obtain ⟨ar, cr, e9, hcr, hor⟩ := HA.out.own (by omega) (by rw [steps_len]; omega)
      obtain ⟨nr9, hnr9⟩ : ∃ m, (rowsS (plSs ss)).length = m := ⟨_, rfl⟩
      rw [hnr9] at e9
      subst e9
      have RT := row_ext RZ0.out HE.out (fun h => by omega)
      have t0 : wo.cell? ⟨w.heap.size + 1, 0, none⟩ = some (.slice none 0 0) := RT.cell (i := 0) (by simp)
      have t1 : wo.cell? ⟨w.heap.size + 1, 1, none⟩ = some (.int .i64 0) := RT.cell (i := 1) (by simp)
      have t2 := RT.frozen 0
      have t3 := RT.frozen 1
      have z0 : wo.cell? ⟨w.heap.size + 2, 0, none⟩ = some (.slice ar nr9 cr) := RQ.out.cell (i := 0) (by omega)
      have z1 : wo.cell? ⟨w.heap.size + 2, 1, none⟩ = some (.int .i64 res) := RQ.out.cell (i := 1) (by omega)
      have X := (((Ext.refl (fun k => k = w.heap.size + 1) wo).setCell (p := ⟨w.heap.size + 1, 0, none⟩) (.inr rfl) (.slice ar nr9 cr)).setCell (p := ⟨w.heap.size + 1, 1, none⟩) (.inr rfl) (.int .i64 res))
      have RCF := Lib.hid ((hor.ext X (fun k hk e => by rcases hk with h | h; have := (HD.out k h).1; omega; omega)).mono (D' := fun k => w.heap.size ≤ k) (fun k hk => by rcases hk with h | h; have := (HD.out k h).1; omega; omega))
      have KF := Lib.hid ((KA'.out.then_ HE.out (fun i hi e => by omega)).then_ X (fun i hi e => by omega))
      clear RT X hor hnr9 hpl
      go_wp2_with fail
      exact bodyPost_ret (v := .agg #[.slice ar nr9 cr, .int .i64 res]) (by simp [results, Tryz.results41, go_sem, t0, t1]) rfl (fin_ hQ ⟨ar, nr9, cr, rfl, RCF.out, KF.out⟩)

theorem implPlain_n (N : Nat) : ∀ (ss : List StepL) (res : Int), nSs ss < N → nSs ss ≤ 600 → plOkSs ss → PlIp ss res := by
  induction N with
  | zero => intro ss _ h; omega
  | succ N ih =>
    intro ss res hN h6 hok
    refine implPlain_of ss res hok h6 (fun j i hj hi => ?_)
    have h1 := nkid_lt ss hj hi
    have h2 := plOkSs_at hok hj
    rw [show sAt ss j = .mk (sAt ss j).op (sAt ss j).num (sAt ss j).into (sAt ss j).args (sAt ss j).kids by cases sAt ss j; rfl, plOk] at h2
    exact ih _ _ (by omega) (by omega) (plOkBs_at h2.2.2.2 hi)
theorem implPlain (ss : List StepL) (res : Int) (h6 : nSs ss ≤ 600) (hok : plOkSs ss) : PlIp ss res := implPlain_n _ ss res (Nat.lt_succ_self _) h6 hok
end Go.Proofs.YtkapldpmjkdmcaaGreat
/- plainBlock of the reference. -/
namespace Go.Proofs.YtkapldpmjkdmcaaGreat
open Go.RowKit

theorem lit_step1 (w : World) (D : Nat → Prop) (T : TypeId) (s : StepL) (op num into : Int) (a0 : Option Addr) (n0 c0 : Nat) {a1 : Option Addr} {n1 c1 : Nat} (hB : D w.heap.size) (ho : s.op = op) (hn : s.num = num) (hi : s.into = into) (h0 : Rd w D (encInts s.args) (.slice a0 n0 c0)) (h1 : Rd w D (encBlocks s.kids) (.slice a1 n1 c1)) :
    Rd (w.alloc (.cells #[.int .i64 op, .int .i64 num, .int .i64 into, .slice a0 n0 c0, .slice a1 n1 c1] T)) D (.arr 5 [rowS s]) (.slice (some ⟨w.heap.size, 0, none⟩) 1 1) := by
  subst ho hn hi
  refine Rd.litD w D T 5 _ [rowS s] 1 hB (by simp) (by omega) (by omega) (by simp) (fun i hi => ?_) (fun i j hi hj => ?_)
  · obtain rfl : i = 0 := by simp at hi; exact hi
    rw [rowS_eq]; rfl
  · obtain rfl : i = 0 := by simp at hi; exact hi
    rw [rowS_eq]
    rcases (show j = 0 ∨ j = 1 ∨ j = 2 ∨ j = 3 ∨ j = 4 by omega) with rfl | rfl | rfl | rfl | rfl
    · exact ⟨_, rfl, .num _⟩
    · exact ⟨_, rfl, .num _⟩
    · exact ⟨_, rfl, .num _⟩
    · exact ⟨_, rfl, h0⟩
    · exact ⟨_, rfl, h1⟩
theorem lit_block1 (w : World) (D : Nat → Prop) (T : TypeId) (s : BlockL) (r : Int) {a1 : Option Addr} {n1 c1 : Nat} (hB : D w.heap.size) (hr : s.result = r) (h1 : Rd w D (encSteps s.steps) (.slice a1 n1 c1)) :
    Rd (w.alloc (.cells #[.slice a1 n1 c1, .int .i64 r] T)) D (.arr 2 [rowB s]) (.slice (some ⟨w.heap.size, 0, none⟩) 1 1) := by
  subst hr
  refine Rd.litD w D T 2 _ [rowB s] 1 hB (by simp) (by omega) (by omega) (by simp) (fun i hi => ?_) (fun i j hi hj => ?_)
  · obtain rfl : i = 0 := by simp at hi; exact hi
    rw [rowB_eq]; rfl
  · obtain rfl : i = 0 := by simp at hi; exact hi
    rw [rowB_eq]
    rcases (show j = 0 ∨ j = 1 by omega) with rfl | rfl
    · exact ⟨_, rfl, h1⟩
    · exact ⟨_, rfl, .num _⟩

/-- What plainBlock of the reference does for one block. -/
def PlSp (ss : List StepL) (res : Int) : Prop := ∀ (a : Option Addr) (n c : Nat) (D : Nat → Prop) (w : World), Rd w D (encSteps ss) (.slice a n c) →
  Calls Tryz.prog 81 #[.agg #[.slice a n c, .int .i64 res]] w fun e w' => ∃ a' n' c', e = .returned (.agg #[.slice a' n' c', .int .i64 res]) ∧ Rd w' (fun k => w.heap.size ≤ k) (encSteps (plSs ss)) (.slice a' n' c') ∧ Keep w w'

set_option maxRecDepth 100000 in
set_option maxHeartbeats 4000000 in
theorem specPlain_of (ss : List StepL) (res : Int) (hok : plOkSs ss) (hns : nSs ss ≤ 600) (IH0 : ∀ j i, j < ss.length → i < (sAt ss j).kids.length → PlSp (bAt (sAt ss j).kids i).steps (bAt (sAt ss j).kids i).result) : PlSp ss res := by
  intro a n c D w h
  refine calls_k fun Q hQ => ?_
  have IH := Lib.hid IH0
  have HOK := Lib.hid (fun (j : Nat) (hj : j < ss.length) => plOkSs_at hok hj)
  have hsn := nSs_lenN ss
  have KA := (((Keep.al w (.cells #[.slice a n c, .int .i64 res] 69)).trans (Keep.al _ (.cells #[.slice none 0 0, .int .i64 0] 69))).trans (Keep.al _ (.cells #[] 136))).trans (Keep.al _ (.cells #[.slice (some ⟨w.heap.size + 2, 0, none⟩) 0 0, .int .i64 res] 69))
  have RB0 := (((rowOf w #[.slice a n c, .int .i64 res] 69).alloc (.cells #[.slice none 0 0, .int .i64 0] 69)).alloc (.cells #[] 136)).alloc (.cells #[.slice (some ⟨w.heap.size + 2, 0, none⟩) 0 0, .int .i64 res] 69)
  have RZ0 := ((rowOf (w.alloc (.cells #[.slice a n c, .int .i64 res] 69)) #[.slice none 0 0, .int .i64 0] 69).alloc (.cells #[] 136)).alloc (.cells #[.slice (some ⟨w.heap.size + 2, 0, none⟩) 0 0, .int .i64 res] 69)
  have RQ0 := rowOf (((w.alloc (.cells #[.slice a n c, .int .i64 res] 69)).alloc (.cells #[.slice none 0 0, .int .i64 0] 69)).alloc (.cells #[] 136)) #[.slice (some ⟨w.heap.size + 2, 0, none⟩) 0 0, .int .i64 res] 69
  have A0 := (AccR.made ((w.alloc (.cells #[.slice a n c, .int .i64 res] 69)).alloc (.cells #[.slice none 0 0, .int .i64 0] 69)) (fun k => w.heap.size + 4 ≤ k) 136 5).keep (Keep.al _ (.cells #[.slice (some ⟨w.heap.size + 2, 0, none⟩) 0 0, .int .i64 res] 69))
  simp only [World.size_alloc] at RZ0 RQ0 A0
  have RB0 := Lib.hid RB0
  have RZ0 := Lib.hid RZ0
  have RQ0 := Lib.hid RQ0
  have A0 : Hid (AccR ((((w.alloc (.cells #[.slice a n c, .int .i64 res] 69)).alloc (.cells #[.slice none 0 0, .int .i64 0] 69)).alloc (.cells #[] 136)).alloc (.cells #[.slice (some ⟨w.heap.size + 2, 0, none⟩) 0 0, .int .i64 res] 69)) (w.heap.size + 2) (fun k => w.heap.size + 4 ≤ k) 136 5 (.slice (some ⟨w.heap.size + 2, 0, none⟩) 0 0) (rowsS (plSs (ss.take 0)))) := A0
  have E0' : Hid (Ext (fun k => k = w.heap.size + 2 ∨ k = w.heap.size + 3) ((((w.alloc (.cells #[.slice a n c, .int .i64 res] 69)).alloc (.cells #[.slice none 0 0, .int .i64 0] 69)).alloc (.cells #[] 136)).alloc (.cells #[.slice (some ⟨w.heap.size + 2, 0, none⟩) 0 0, .int .i64 res] 69)) ((((w.alloc (.cells #[.slice a n c, .int .i64 res] 69)).alloc (.cells #[.slice none 0 0, .int .i64 0] 69)).alloc (.cells #[] 136)).alloc (.cells #[.slice (some ⟨w.heap.size + 2, 0, none⟩) 0 0, .int .i64 res] 69))) := Ext.refl _ _
  have Z0' : Hid (w.heap.size + 4 ≤ ((((w.alloc (.cells #[.slice a n c, .int .i64 res] 69)).alloc (.cells #[.slice none 0 0, .int .i64 0] 69)).alloc (.cells #[] 136)).alloc (.cells #[.slice (some ⟨w.heap.size + 2, 0, none⟩) 0 0, .int .i64 res] 69)).heap.size) := by show _ ≤ _; simp
  have B0' : Hid (∀ k, (Value.slice (some ⟨w.heap.size + 2, 0, none⟩) 0 0).ownBlock = some k → k = w.heap.size + 2 ∨ w.heap.size + 4 ≤ k) := fun k hk => .inl (by have : w.heap.size + 2 = k := (by simpa [Value.ownBlock] using hk); omega)
  have H1 := Lib.hid ((h.lt).k KA)
  have KA' := Lib.hid KA
  have SWL : Hid (((((w.alloc (.cells #[.slice a n c, .int .i64 res] 69)).alloc (.cells #[.slice none 0 0, .int .i64 0] 69)).alloc (.cells #[] 136)).alloc (.cells #[.slice (some ⟨w.heap.size + 2, 0, none⟩) 0 0, .int .i64 res] 69)).heap.size = w.heap.size + 4) := by show _ = _; simp
  clear KA h IH0 hok
  go_enter Tryz.func81, Tryz.ntmps81
  go_wp2_with fail
  generalize hWL : ((((w.alloc (.cells #[.slice a n c, .int .i64 res] 69)).alloc (.cells #[.slice none 0 0, .int .i64 0] 69)).alloc (.cells #[] 136)).alloc (.cells #[.slice (some ⟨w.heap.size + 2, 0, none⟩) 0 0, .int .i64 res] 69)) = wl at *
  clear hWL
  go_loopw [4] (fun iv wr => ∃ (j : Nat) (vk : Value), j ≤ n ∧ iv = .int .i64 j ∧ Hid (wr.rowIs (w.heap.size + 3) 69 2 (fun i => (#[vk, .int .i64 res] : Array Value).getD i undef)) ∧ Hid (AccR wr (w.heap.size + 2) (fun k => w.heap.size + 4 ≤ k) 136 5 vk (rowsS (plSs (ss.take j)))) ∧ Hid (Ext (fun k => k = w.heap.size + 2 ∨ k = w.heap.size + 3) wl wr) ∧ Hid (∀ k, vk.ownBlock = some k → k = w.heap.size + 2 ∨ w.heap.size + 4 ≤ k) ∧ Hid (w.heap.size + 4 ≤ wr.heap.size)) (fun iv _ => n - (intOf iv).toNat)
  case atStart => exact ⟨0, _, Nat.zero_le _, rfl, RQ0, A0, E0', B0', Z0'⟩
  case round =>
    obtain ⟨j, vk, hj, rfl, RQ, HA, HE, HB, HZ⟩ := hrel
    obtain ⟨wo, rfl⟩ : ∃ wo : World, wo = wr := ⟨_, rfl⟩
    clear RQ0 A0 E0' B0' Z0'
    obtain ⟨e1, hnc, hnm, hat⟩ := steps_at H1.out
    have HL := Lib.hid e1
    have hns0 : ∀ k, (D k ∧ k < w.heap.size) → ¬ (k = w.heap.size + 2 ∨ k = w.heap.size + 3) := fun k hk h => by omega
    have x0 : wo.cell? ⟨w.heap.size, 0, none⟩ = some (.slice a n c) := HE.out.cq (RB0.out.cell (i := 0) (by simp)) (fun h => by change w.heap.size = _ ∨ w.heap.size = _ at h; omega)
    by_cases hlt : j < n
    · have hjl : j < ss.length := by omega
      have hpo := HOK.out j hjl
      obtain ⟨bf, o, rfl, hbf, a3, n3, c3, a4, n4, c4, d0, d1, d2, d3, d4, ra, rk⟩ := hat j hlt
      have d0 := HE.out.cq d0 (hns0 _ hbf)
      have d1 := HE.out.cq d1 (hns0 _ hbf)
      have d2 := HE.out.cq d2 (hns0 _ hbf)
      have d3 := HE.out.cq d3 (hns0 _ hbf)
      have d4 := HE.out.cq d4 (hns0 _ hbf)
      have qa := Lib.hid (ra.ext HE.out hns0)
      have qk := Lib.hid (rk.ext HE.out hns0)
      have HTK := Lib.hid (plSs_take hjl)
      have hpl := plSs_len (ss.take j)
      rw [List.length_take] at hpl
      have HLR : Hid ((rowsS (plSs (ss.take j))).length ≤ 600) := by show _ ≤ _; rw [steps_len]; omega
      rw [show sAt ss j = .mk (sAt ss j).op (sAt ss j).num (sAt ss j).into (sAt ss j).args (sAt ss j).kids by cases sAt ss j; rfl, plOk] at hpo
      have HPO := Lib.hid hpo
      clear hat hpo hpl ra rk e1
      by_cases hop : 14 ≤ (sAt ss j).op ∧ (sAt ss j).op ≤ 17
      · have hdf : decide (0 ≤ (sAt ss j).op ∧ (sAt ss j).op ≤ 11) = false := decide_eq_false (by omega)
        have HTQ : Hid (plSs (ss.take (j + 1)) = plSs (ss.take j)) := by show _ = _; rw [HTK.out, if_pos hop, List.append_nil]
        have HDF := Lib.hid hdf
        clear hdf
        go_wp2_with fail
        refine (specDefines _ _).mono ?_
        rw [HDF.out]
        rintro e w1 ⟨rfl, rfl⟩
        go_wp2_with fail
        go_roundw
        case rel => exact ⟨j + 1, vk, by omega, by go_num, RQ, (by show AccR _ _ _ _ _ _ _; rw [HTQ.out]; exact HA.out), HE, HB, HZ⟩
        case measure => simp [intOf]; omega
      · have hdf : decide (0 ≤ (sAt ss j).op ∧ (sAt ss j).op ≤ 11) = true := decide_eq_true (by have := HPO.out.1; omega)
        have HDF := Lib.hid hdf
        have HTQ : Hid (plSs (ss.take (j + 1)) = plSs (ss.take j) ++ [plS (sAt ss j)]) := by show _ = _; rw [HTK.out, if_neg hop]
        clear hdf
        have KS := (Keep.al wo (.cells #[.int .i64 (sAt ss j).op, .int .i64 (sAt ss j).num, .int .i64 (sAt ss j).into, .slice a3 n3 c3, .slice a4 n4 c4] 136)).trans (Keep.al _ (.cells #[] 69))
        have RS := (rowOf wo #[.int .i64 (sAt ss j).op, .int .i64 (sAt ss j).num, .int .i64 (sAt ss j).into, .slice a3 n3 c3, .slice a4 n4 c4] 136).alloc (.cells #[] 69)
        have AK := AccR.made (wo.alloc (.cells #[.int .i64 (sAt ss j).op, .int .i64 (sAt ss j).num, .int .i64 (sAt ss j).into, .slice a3 n3 c3, .slice a4 n4 c4] 136)) (fun k => wo.heap.size + 2 ≤ k) 69 2
        have qa := Lib.hid (qa.out.k KS)
        have qk := Lib.hid (qk.out.k KS)
        have HA1 := Lib.hid (HA.out.keep KS)
        have RQ1 := Lib.hid (row_ext RQ.out KS (fun h => h))
        simp only [World.size_alloc] at AK
        have AK := Lib.hid AK
        have RS := Lib.hid RS
        have sS : ((wo.alloc (.cells #[.int .i64 (sAt ss j).op, .int .i64 (sAt ss j).num, .int .i64 (sAt ss j).into, .slice a3 n3 c3, .slice a4 n4 c4] 136)).alloc (.cells #[] 69)).heap.size = wo.heap.size + 2 := by simp
        have SS := Lib.hid sS
        have KS' := Lib.hid KS
        clear KS sS
        go_wp2_with fail
        refine (specDefines _ _).mono ?_
        rw [HDF.out]
        rintro e w1 ⟨rfl, rfl⟩
        go_wp2_with fail
        have HLW2 : Hid (w.heap.size + 4 ≤ wo.heap.size) := HZ.out
        obtain ⟨sb, hsb⟩ : ∃ g, g = wo.heap.size := ⟨_, rfl⟩
        have HSB := Lib.hid hsb
        rw [← hsb] at RS AK HLW2 SS
        rw [← hsb]
        obtain ⟨wf, hwf⟩ : ∃ yW : World, yW = ((wo.alloc (.cells #[.int .i64 (sAt ss j).op, .int .i64 (sAt ss j).num, .int .i64 (sAt ss j).into, .slice a3 n3 c3, .slice a4 n4 c4] 136)).alloc (.cells #[] 69)) := ⟨_, rfl⟩
        rw [← hwf] at RS AK SS KS' qa qk HA1 RQ1
        rw [← hwf]
        have KE0 : Hid (Ext (fun k => sb + 1 ≤ k) wf wf) := Ext.refl _ _
        have AK0 : Hid (AccR wf (sb + 1) (fun k => sb + 2 ≤ k) 69 2 (.slice (some ⟨sb + 1, 0, none⟩) 0 0) (rowsB (plBs ((sAt ss j).kids.take 0)))) := AK
        obtain ⟨ek, hkc, hkm, hkat⟩ := blocks_at qk.out
        have HKA := Lib.hid hkat
        have HKL := Lib.hid ek
        have hk3 : n4 ≤ 3 := by have := HPO.out.2.2.1; omega
        clear hwf hsb hkat d0 d1 d2 d3 d4 x0
        go_wp2_with fail
        go_loopw [6, 7] (fun ov iv wr => ∃ (i : Nat) (ok : Value), ok = ov ∧ i ≤ n4 ∧ iv = .int .i64 i ∧ Hid (AccR wr (sb + 1) (fun k => sb + 2 ≤ k) 69 2 ov (rowsB (plBs ((sAt ss j).kids.take i)))) ∧ Hid (Ext (fun k => sb + 1 ≤ k) wf wr)) (fun _ iv _ => n4 - (intOf iv).toNat)
        case atStart => exact ⟨0, _, rfl, Nat.zero_le _, rfl, AK0, KE0⟩
        case round =>
          clear AK0 KE0 AK
          obtain ⟨i, ok, rfl, hi, rfl, HAK, HKE⟩ := hrel
          obtain ⟨wk, rfl⟩ : ∃ wk : World, wk = wr := ⟨_, rfl⟩
          have hwk := HKE.out.size
          have RS2 := row_ext RS.out HKE.out (fun h => by omega)
          have b4 : wk.cell? ⟨sb, 4, none⟩ = some (.slice a4 n4 c4) := RS2.cell (i := 4) (by simp)
          by_cases hil : i < n4
          · have hikl : i < (sAt ss j).kids.length := by have := HKL.out; omega
            obtain ⟨bk, ok', rfl, hbk, ak, nk, ck, k0, k1, rkk⟩ := HKA.out i hil
            have hns1 : ∀ k, (D k ∧ k < w.heap.size) → ¬ (sb + 1 ≤ k) := fun k hk h => by have := HLW2.out; omega
            have k0 := HKE.out.cq k0 (hns1 _ hbk)
            have k1 := HKE.out.cq k1 (hns1 _ hbk)
            have qkk := Lib.hid (rkk.ext HKE.out hns1)
            have HTB := Lib.hid (plBs_take hikl)
            have HLB : Hid ((rowsB (plBs ((sAt ss j).kids.take i))).length ≤ 3) := by show _ ≤ _; rw [blocks_len, plBs_map, List.length_map, List.length_take]; omega
            clear RS2 rkk hns1
            go_wp2_with fail
            refine (IH.out j i hjl hikl ak nk ck _ wk qkk.out).mono ?_
            rintro e w5 ⟨ab, nb, cb, rfl, rb, p5⟩
            have RBK := Lib.hid rb
            have P5 := Lib.hid p5
            have hw5 := p5.size
            have KAB := Keep.al w5 (.cells #[.slice ab nb cb, .int .i64 (bAt (sAt ss j).kids i).result] 69)
            have RLB : Hid (Rd (w5.alloc (.cells #[.slice ab nb cb, .int .i64 (bAt (sAt ss j).kids i).result] 69)) (fun k => wk.heap.size ≤ k) (.arr 2 [rowB (plB (bAt (sAt ss j).kids i))]) (.slice (some ⟨w5.heap.size, 0, none⟩) 1 1)) := lit_block1 w5 (fun k => wk.heap.size ≤ k) 69 (plB (bAt (sAt ss j).kids i)) (bAt (sAt ss j).kids i).result hw5 (by rw [plB_eq]; rfl) (by rw [plB_eq]; exact RBK.out)
            have HAK2 := Lib.hid ((HAK.out.keep p5).keep KAB)
            have KAB' := Lib.hid KAB
            clear rb p5 KAB
            go_wp2_with (at_builtin; go_must (refine wpList_appR _ rfl (.tmp 39) (.tmp 46) 134 rfl (sb + 1) 69 (.agg #[.slice none 0 0, .int .i64 0]) 2 32 Tryz.underlying134 (by kernel_rfl) rfl (by omega) (fun k => sb + 2 ≤ k) ok _ rfl HAK2.out _ 1 1 [rowB (plB (bAt (sAt ss j).kids i))] _ rfl RLB.out (fun k _ hk => ⟨by have := SS.out; omega, fun e => absurd (HAK.out.bound k e).2 (Nat.not_lt.2 hk)⟩) (by have := HLB.out; omega) (by have := HLB.out; omega) (by simp; have := SS.out; omega) ?_); intro v1 wz hA9 x9 q9)
            go_roundw
            case rel => exact ⟨i + 1, _, rfl, by omega, by go_num, (by
              show AccR _ _ _ _ _ _ _
              rw [HTB.out, rowsB_map, List.map_append, ← rowsB_map, List.map_singleton]
              exact hA9), (((HKE.out.trans (Keep.to P5.out)).trans (Keep.to KAB'.out)).trans x9)⟩
            case measure => simp [intOf]; omega
          · have hin : i = n4 := by omega
            subst hin
            have HTK2 : Hid ((sAt ss j).kids.take i = (sAt ss j).kids) := by show _ = _; rw [List.take_of_length_le (by have := HKL.out; omega)]
            rw [HTK2.out] at HAK
            obtain ⟨ab, cb, e9, hcb, _, rkb⟩ := HAK.out.read (by omega)
            obtain ⟨nb, hnb⟩ : ∃ m, (rowsB (plBs (sAt ss j).kids)).length = m := ⟨_, rfl⟩
            rw [hnb] at e9
            subst e9
            have KL : Hid (Keep wo wk) := by show Keep _ _; exact KS'.out.then_ HKE.out (fun i hi h => by have := HSB.out; omega)
            have RKB : Hid (Rd wk (fun k => sb + 1 ≤ k) (encBlocks (plBs (sAt ss j).kids)) (.slice ab nb cb)) := rkb.mono (fun k hk => by omega)
            have HA3 := Lib.hid (HA.out.keep KL.out)
            have RQ3 := Lib.hid (row_ext RQ.out KL.out (fun h => h))
            have RA := Lib.hid (qa.out.ext HKE.out (fun k hk h => by have := HLW2.out; omega))
            have z0 : wk.cell? ⟨w.heap.size + 3, 0, none⟩ = some vk := RQ3.out.cell (i := 0) (by omega)
            have b0 : wk.cell? ⟨sb, 0, none⟩ = some (.int .i64 (sAt ss j).op) := RS2.cell (i := 0) (by simp)
            have b1 : wk.cell? ⟨sb, 1, none⟩ = some (.int .i64 (sAt ss j).num) := RS2.cell (i := 1) (by simp)
            have b3 : wk.cell? ⟨sb, 3, none⟩ = some (.slice a3 n3 c3) := RS2.cell (i := 3) (by simp)
            have HLW : Hid (sb + 1 ≤ wk.heap.size) := by show _ ≤ _; have := SS.out; omega
            have HOP : Hid ((plS (sAt ss j)).op = (sAt ss j).op) := by show _ = _; rw [plS_eq]; rfl
            have HNU : Hid ((plS (sAt ss j)).num = (sAt ss j).num) := by show _ = _; rw [plS_eq]; rfl
            have HIN : Hid ((plS (sAt ss j)).into = 0) := by show _ = _; rw [plS_eq]; rfl
            have HAR : Hid ((plS (sAt ss j)).args = (sAt ss j).args) := by show _ = _; rw [plS_eq]; rfl
            have HKI : Hid ((plS (sAt ss j)).kids = plBs (sAt ss j).kids) := by show _ = _; rw [plS_eq]; rfl
            have HNA : n3 ≤ 1048576 := by have h1 := HPO.out.2.1; have h2 := (ints_at RA.out).1; omega
            have HTR : Hid (rowsS (plSs (ss.take (j + 1))) = rowsS (plSs (ss.take j)) ++ [rowS (plS (sAt ss j))]) := by show _ = _; rw [HTQ.out, rowsS_map, rowsS_map, List.map_append]; rfl
            clear rkb hnb RS2 hcb
            go_wp2_with fail
            refine wp_region_held_drew (S := fun w' => w'.cell? ⟨sb, 0, none⟩ = some (.int .i64 (sAt ss j).op) ∧ w'.cell? ⟨sb, 1, none⟩ = some (.int .i64 (sAt ss j).num) ∧ w'.cell? ⟨sb, 3, none⟩ = some (.slice a3 n3 c3)) (by kernel_rfl) ⟨b0, b1, b3⟩ (fun hHeld => ?_)
            refine wT 0 hHeld ?_
            try go_frame
            refine wT 2 hHeld ?_
            try go_frame
            refine wT 3 hHeld ?_
            try go_frame
            refine wT 4 hHeld ?_
            try go_frame
            refine wT 5 hHeld ?_
            try go_frame
            refine wT 6 hHeld ?_
            try go_frame
            refine wT 7 hHeld ?_
            try go_frame
            refine wT 9 hHeld ?_
            try go_frame
            refine wpAnyH_ready (rs := [1, 8]) (by kernel_rfl) (by simp) ?_
            refine allReadyH_consL rfl (by rfl) (fun K hK => ?_) (allReadyH_consL rfl (by rfl) (fun K hK => ?_) (AllReadyH.nil))
            go_simp
            refine hK.out _ _ ⟨b0, b1, b3⟩ (fun hHeld => ?_)
            clear hK K
            try go_frame
            refine wO 8 (fun K hK => ?_)
            go_simp
            go_at_call 102
            refine (copyInts_any a3 n3 c3 _ _ wk.drew (RA.out.kd).toInts (by omega)).mono ?_
            rintro e Y1 ⟨a5, c5, rfl, hc5, o5, kY1⟩
            have b0Y1 := Keep.at kY1 b0
            have b1Y1 := Keep.at kY1 b1
            have b3Y1 := Keep.at kY1 b3
            have z0Y1 := Keep.at kY1 z0
            have KY := Lib.hid (Keep.dt kY1)
            have OA := Lib.hid ((o5.read.toRd hc5 (by omega)).mono (D' := fun k => wk.heap.size ≤ k) (fun k hk => hk))
            clear o5
            refine hK.out _ _ ⟨b0Y1, b1Y1, b3Y1⟩ (fun hHeld => ?_)
            clear hK K
            try go_frame
            refine wT 10 hHeld ?_
            try go_frame
            refine wO 11 (fun K hK => ?_)
            go_simp
            obtain ⟨Y2, hWY2⟩ : ∃ yW : World, yW = (Y1.alloc (.cells #[.int .i64 (sAt ss j).op, .int .i64 (sAt ss j).num, .int .i64 0, .slice a5 n3 c5, .slice ab nb cb] 136)) := ⟨_, rfl⟩
            rw [← hWY2]
            have kY2 : Keep Y1 Y2 := by rw [hWY2]; exact Keep.al Y1 (.cells #[.int .i64 (sAt ss j).op, .int .i64 (sAt ss j).num, .int .i64 0, .slice a5 n3 c5, .slice ab nb cb] 136)
            have hzY2 : Hid (Y2.heap.size = Y1.heap.size + 1) := by show _ = _; rw [hWY2]; exact World.size_alloc _ _
            have b0Y2 := kY2.cq b0Y1 (fun h => h)
            have b1Y2 := kY2.cq b1Y1 (fun h => h)
            have b3Y2 := kY2.cq b3Y1 (fun h => h)
            have z0Y2 := kY2.cq z0Y1 (fun h => h)
            have RL : Hid (Rd Y2 (fun k => sb + 1 ≤ k) (.arr 5 [rowS (plS (sAt ss j))]) (.slice (some ⟨Y1.heap.size, 0, none⟩) 1 1)) := by
              show Rd _ _ _ _
              rw [hWY2]
              exact lit_step1 Y1 (fun k => sb + 1 ≤ k) 136 (plS (sAt ss j)) _ _ _ _ _ _ (by have := KY.out.size; have := HLW.out; omega) HOP.out HNU.out HIN.out (by rw [HAR.out]; exact OA.out.mono (fun k hk => by have := HLW.out; omega)) (by rw [HKI.out]; exact RKB.out.k KY.out)
            have KY2 := Lib.hid (KY.out.trans kY2)
            replace hWY2 := Lib.hid hWY2
            refine hK.out _ _ ⟨b0Y2, b1Y2, b3Y2⟩ (fun hHeld => ?_)
            clear hK K
            try go_frame
            refine wO 12 (fun K hK => ?_)
            refine wp_appR _ (.tmp 49) (.tmp 59) 67 rfl (w.heap.size + 2) 136 (.agg #[.int .i64 0, .int .i64 0, .int .i64 0, .slice none 0 0, .slice none 0 0]) 5 72 Tryz.underlying67 (by kernel_rfl) rfl (by omega) (fun k => w.heap.size + 4 ≤ k) vk _ rfl (HA3.out.keep KY2.out) _ 1 1 [rowS (plS (sAt ss j))] _ rfl RL.out (fun k _ hk => ⟨by have := HLW2.out; omega, fun e => by have := (HA.out.bound k e).2; have := HSB.out; omega⟩) (by have := HLR.out; omega) (by have := HLR.out; omega) (by have := KY2.out.size; have := HLW2.out; have := HLW.out; omega) ?_
            intro v1 wz hA9 x9 q9
            have hno : ∀ k, sb ≤ k → ¬ vk.ownBlock = some k := fun k hk e => by
              have h5 := (HA.out.bound k e).2
              have h6 := HSB.out
              omega
            have KZ := Lib.hid ((Keep.to KY2.out : Ext (fun k => vk.ownBlock = some k) wk Y2).trans x9)
            have X9 := Lib.hid x9
            have A9 := Lib.hid hA9
            have B9 : Hid (∀ k, v1.ownBlock = some k → vk.ownBlock = some k ∨ w.heap.size + 4 ≤ k) := fun k hk => by
              rcases q9 with e | e
              · rw [e] at hk; exact .inl hk
              · rw [e] at hk; injection hk with hk; have h5 := KY2.out.size; have h6 := HLW.out; have h7 := HLW2.out; exact .inr (by omega)
            obtain ⟨av, cv, e9, _, _, _⟩ := hA9.read (by omega)
            obtain ⟨nv9, hnv9⟩ : ∃ m, (rowsS (plSs (ss.take j)) ++ [rowS (plS (sAt ss j))]).length = m := ⟨_, rfl⟩
            rw [hnv9] at e9
            clear hnv9
            subst e9
            clear hA9 x9 q9
            have b0z := X9.out.cq b0Y2 (hno _ (Nat.le_refl _))
            have b1z := X9.out.cq b1Y2 (hno _ (Nat.le_refl _))
            have b3z := X9.out.cq b3Y2 (hno _ (Nat.le_refl _))
            refine hK.out _ _ ⟨b0z, b1z, b3z⟩ (fun hHeld => ?_)
            clear hK K
            try go_frame
            refine wT 13 hHeld ?_
            try go_frame
            refine wO 14 (fun K hK => ?_)
            have RQ9 : Hid (wz.rowIs (w.heap.size + 3) 69 2 (fun i => (#[vk, .int .i64 res] : Array Value).getD i undef)) := row_ext RQ3.out KZ.out (fun e => by rcases HB.out _ e with h | h <;> omega)
            have g1 : wz.cell? ⟨w.heap.size + 3, 0, none⟩ = some vk := RQ9.out.cell (i := 0) (by omega)
            have g2 := RQ9.out.frozen 0
            have hq1 : w.heap.size + 3 ≠ sb := by have := HSB.out; have := HZ.out; omega
            go_simp
            obtain ⟨wy, hWy⟩ : ∃ y : World, y = wz.setCell ⟨w.heap.size + 3, 0, none⟩ (.slice av nv9 cv) := ⟨_, rfl⟩
            rw [← hWy]
            have XY : Hid (Ext (fun k => k = w.heap.size + 3) wz wy) := by show Ext _ _ _; rw [hWy]; exact (Ext.refl (fun k => k = w.heap.size + 3) wz).setCell (p := ⟨w.heap.size + 3, 0, none⟩) (.inr rfl) _
            have RY : Hid (wy.rowIs (w.heap.size + 3) 69 2 (fun i => (#[.slice av nv9 cv, .int .i64 res] : Array Value).getD i undef)) := by
              show World.rowIs _ _ _ _ _
              rw [hWy]
              exact (RQ9.out.set 0 _).congr (fun i hi => by rcases (show i = 0 ∨ i = 1 by omega) with rfl | rfl <;> rfl)
            replace hWy := Lib.hid hWy
            have b0y := XY.out.cq b0z (fun h => hq1 h.symm)
            have b1y := XY.out.cq b1z (fun h => hq1 h.symm)
            have b3y := XY.out.cq b3z (fun h => hq1 h.symm)
            refine hK.out _ _ ⟨b0y, b1y, b3y⟩ (fun hHeld => ?_)
            clear hK K
            try go_frame
            refine wpAnyH_done (by kernel_rfl) ?_ _
            rotate_left
            go_simp
            go_at_call 102
            refine (copyInts_any a3 n3 c3 _ _ wk.drew (RA.out.kd).toInts (by omega)).mono ?_
            rintro e Y1 ⟨a5, c5, rfl, hc5, o5, kY1⟩
            have b0Y1 := Keep.at kY1 b0
            have b1Y1 := Keep.at kY1 b1
            have b3Y1 := Keep.at kY1 b3
            have z0Y1 := Keep.at kY1 z0
            have KY := Lib.hid (Keep.dt kY1)
            have OA := Lib.hid ((o5.read.toRd hc5 (by omega)).mono (D' := fun k => wk.heap.size ≤ k) (fun k hk => hk))
            clear o5
            refine hK.out _ _ ⟨b0Y1, b1Y1, b3Y1⟩ (fun hHeld => ?_)
            clear hK K
            try go_frame
            refine wT 10 hHeld ?_
            try go_frame
            refine wpAnyH_ready (rs := [1, 11]) (by kernel_rfl) (by simp) ?_
            refine allReadyH_consL rfl (by rfl) (fun K hK => ?_) (allReadyH_consL rfl (by rfl) (fun K hK => ?_) (AllReadyH.nil))
            go_simp
            refine hK.out _ _ ⟨b0Y1, b1Y1, b3Y1⟩ (fun hHeld => ?_)
            clear hK K
            try go_frame
            refine wO 11 (fun K hK => ?_)
            go_simp
            obtain ⟨Y2, hWY2⟩ : ∃ yW : World, yW = (Y1.alloc (.cells #[.int .i64 (sAt ss j).op, .int .i64 (sAt ss j).num, .int .i64 0, .slice a5 n3 c5, .slice ab nb cb] 136)) := ⟨_, rfl⟩
            rw [← hWY2]
            have kY2 : Keep Y1 Y2 := by rw [hWY2]; exact Keep.al Y1 (.cells #[.int .i64 (sAt ss j).op, .int .i64 (sAt ss j).num, .int .i64 0, .slice a5 n3 c5, .slice ab nb cb] 136)
            have hzY2 : Hid (Y2.heap.size = Y1.heap.size + 1) := by show _ = _; rw [hWY2]; exact World.size_alloc _ _
            have b0Y2 := kY2.cq b0Y1 (fun h => h)
            have b1Y2 := kY2.cq b1Y1 (fun h => h)
            have b3Y2 := kY2.cq b3Y1 (fun h => h)
            have z0Y2 := kY2.cq z0Y1 (fun h => h)
            have RL : Hid (Rd Y2 (fun k => sb + 1 ≤ k) (.arr 5 [rowS (plS (sAt ss j))]) (.slice (some ⟨Y1.heap.size, 0, none⟩) 1 1)) := by
              show Rd _ _ _ _
              rw [hWY2]
              exact lit_step1 Y1 (fun k => sb + 1 ≤ k) 136 (plS (sAt ss j)) _ _ _ _ _ _ (by have := KY.out.size; have := HLW.out; omega) HOP.out HNU.out HIN.out (by rw [HAR.out]; exact OA.out.mono (fun k hk => by have := HLW.out; omega)) (by rw [HKI.out]; exact RKB.out.k KY.out)
            have KY2 := Lib.hid (KY.out.trans kY2)
            replace hWY2 := Lib.hid hWY2
            refine hK.out _ _ ⟨b0Y2, b1Y2, b3Y2⟩ (fun hHeld => ?_)
            clear hK K
            try go_frame
            refine wO 12 (fun K hK => ?_)
            refine wp_appR _ (.tmp 49) (.tmp 59) 67 rfl (w.heap.size + 2) 136 (.agg #[.int .i64 0, .int .i64 0, .int .i64 0, .slice none 0 0, .slice none 0 0]) 5 72 Tryz.underlying67 (by kernel_rfl) rfl (by omega) (fun k => w.heap.size + 4 ≤ k) vk _ rfl (HA3.out.keep KY2.out) _ 1 1 [rowS (plS (sAt ss j))] _ rfl RL.out (fun k _ hk => ⟨by have := HLW2.out; omega, fun e => by have := (HA.out.bound k e).2; have := HSB.out; omega⟩) (by have := HLR.out; omega) (by have := HLR.out; omega) (by have := KY2.out.size; have := HLW2.out; have := HLW.out; omega) ?_
            intro v1 wz hA9 x9 q9
            have hno : ∀ k, sb ≤ k → ¬ vk.ownBlock = some k := fun k hk e => by
              have h5 := (HA.out.bound k e).2
              have h6 := HSB.out
              omega
            have KZ := Lib.hid ((Keep.to KY2.out : Ext (fun k => vk.ownBlock = some k) wk Y2).trans x9)
            have X9 := Lib.hid x9
            have A9 := Lib.hid hA9
            have B9 : Hid (∀ k, v1.ownBlock = some k → vk.ownBlock = some k ∨ w.heap.size + 4 ≤ k) := fun k hk => by
              rcases q9 with e | e
              · rw [e] at hk; exact .inl hk
              · rw [e] at hk; injection hk with hk; have h5 := KY2.out.size; have h6 := HLW.out; have h7 := HLW2.out; exact .inr (by omega)
            obtain ⟨av, cv, e9, _, _, _⟩ := hA9.read (by omega)
            obtain ⟨nv9, hnv9⟩ : ∃ m, (rowsS (plSs (ss.take j)) ++ [rowS (plS (sAt ss j))]).length = m := ⟨_, rfl⟩
            rw [hnv9] at e9
            clear hnv9
            subst e9
            clear hA9 x9 q9
            have b0z := X9.out.cq b0Y2 (hno _ (Nat.le_refl _))
            have b1z := X9.out.cq b1Y2 (hno _ (Nat.le_refl _))
            have b3z := X9.out.cq b3Y2 (hno _ (Nat.le_refl _))
            refine hK.out _ _ ⟨b0z, b1z, b3z⟩ (fun hHeld => ?_)
            clear hK K
            try go_frame
            refine wT 13 hHeld ?_
            try go_frame
            refine wO 14 (fun K hK => ?_)
            have RQ9 : Hid (wz.rowIs (w.heap.size + 3) 69 2 (fun i => (#[vk, .int .i64 res] : Array Value).getD i undef)) := row_ext RQ3.out KZ.out (fun e => by rcases HB.out _ e with h | h <;> omega)
            have g1 : wz.cell? ⟨w.heap.size + 3, 0, none⟩ = some vk := RQ9.out.cell (i := 0) (by omega)
            have g2 := RQ9.out.frozen 0
            have hq1 : w.heap.size + 3 ≠ sb := by have := HSB.out; have := HZ.out; omega
            go_simp
            obtain ⟨wy, hWy⟩ : ∃ y : World, y = wz.setCell ⟨w.heap.size + 3, 0, none⟩ (.slice av nv9 cv) := ⟨_, rfl⟩
            rw [← hWy]
            have XY : Hid (Ext (fun k => k = w.heap.size + 3) wz wy) := by show Ext _ _ _; rw [hWy]; exact (Ext.refl (fun k => k = w.heap.size + 3) wz).setCell (p := ⟨w.heap.size + 3, 0, none⟩) (.inr rfl) _
            have RY : Hid (wy.rowIs (w.heap.size + 3) 69 2 (fun i => (#[.slice av nv9 cv, .int .i64 res] : Array Value).getD i undef)) := by
              show World.rowIs _ _ _ _ _
              rw [hWy]
              exact (RQ9.out.set 0 _).congr (fun i hi => by rcases (show i = 0 ∨ i = 1 by omega) with rfl | rfl <;> rfl)
            replace hWy := Lib.hid hWy
            have b0y := XY.out.cq b0z (fun h => hq1 h.symm)
            have b1y := XY.out.cq b1z (fun h => hq1 h.symm)
            have b3y := XY.out.cq b3z (fun h => hq1 h.symm)
            refine hK.out _ _ ⟨b0y, b1y, b3y⟩ (fun hHeld => ?_)
            clear hK K
            try go_frame
            refine wpAnyH_done (by kernel_rfl) ?_ _
            rotate_left
            go_simp
            obtain ⟨Y2, hWY2⟩ : ∃ yW : World, yW = (Y1.alloc (.cells #[.int .i64 (sAt ss j).op, .int .i64 (sAt ss j).num, .int .i64 0, .slice a5 n3 c5, .slice ab nb cb] 136)) := ⟨_, rfl⟩
            rw [← hWY2]
            have kY2 : Keep Y1 Y2 := by rw [hWY2]; exact Keep.al Y1 (.cells #[.int .i64 (sAt ss j).op, .int .i64 (sAt ss j).num, .int .i64 0, .slice a5 n3 c5, .slice ab nb cb] 136)
            have hzY2 : Hid (Y2.heap.size = Y1.heap.size + 1) := by show _ = _; rw [hWY2]; exact World.size_alloc _ _
            have b0Y2 := kY2.cq b0Y1 (fun h => h)
            have b1Y2 := kY2.cq b1Y1 (fun h => h)
            have b3Y2 := kY2.cq b3Y1 (fun h => h)
            have z0Y2 := kY2.cq z0Y1 (fun h => h)
            have RL : Hid (Rd Y2 (fun k => sb + 1 ≤ k) (.arr 5 [rowS (plS (sAt ss j))]) (.slice (some ⟨Y1.heap.size, 0, none⟩) 1 1)) := by
              show Rd _ _ _ _
              rw [hWY2]
              exact lit_step1 Y1 (fun k => sb + 1 ≤ k) 136 (plS (sAt ss j)) _ _ _ _ _ _ (by have := KY.out.size; have := HLW.out; omega) HOP.out HNU.out HIN.out (by rw [HAR.out]; exact OA.out.mono (fun k hk => by have := HLW.out; omega)) (by rw [HKI.out]; exact RKB.out.k KY.out)
            have KY2 := Lib.hid (KY.out.trans kY2)
            replace hWY2 := Lib.hid hWY2
            refine hK.out _ _ ⟨b0Y2, b1Y2, b3Y2⟩ (fun hHeld => ?_)
            clear hK K
            try go_frame
            refine wO 1 (fun K hK => ?_)
            go_simp
            refine hK.out _ _ ⟨b0Y2, b1Y2, b3Y2⟩ (fun hHeld => ?_)
            clear hK K
            try go_frame
            refine wO 12 (fun K hK => ?_)
            refine wp_appR _ (.tmp 49) (.tmp 59) 67 rfl (w.heap.size + 2) 136 (.agg #[.int .i64 0, .int .i64 0, .int .i64 0, .slice none 0 0, .slice none 0 0]) 5 72 Tryz.underlying67 (by kernel_rfl) rfl (by omega) (fun k => w.heap.size + 4 ≤ k) vk _ rfl (HA3.out.keep KY2.out) _ 1 1 [rowS (plS (sAt ss j))] _ rfl RL.out (fun k _ hk => ⟨by have := HLW2.out; omega, fun e => by have := (HA.out.bound k e).2; have := HSB.out; omega⟩) (by have := HLR.out; omega) (by have := HLR.out; omega) (by have := KY2.out.size; have := HLW2.out; have := HLW.out; omega) ?_
            intro v1 wz hA9 x9 q9
            have hno : ∀ k, sb ≤ k → ¬ vk.ownBlock = some k := fun k hk e => by
              have h5 := (HA.out.bound k e).2
              have h6 := HSB.out
              omega
            have KZ := Lib.hid ((Keep.to KY2.out : Ext (fun k => vk.ownBlock = some k) wk Y2).trans x9)
            have X9 := Lib.hid x9
            have A9 := Lib.hid hA9
            have B9 : Hid (∀ k, v1.ownBlock = some k → vk.ownBlock = some k ∨ w.heap.size + 4 ≤ k) := fun k hk => by
              rcases q9 with e | e
              · rw [e] at hk; exact .inl hk
              · rw [e] at hk; injection hk with hk; have h5 := KY2.out.size; have h6 := HLW.out; have h7 := HLW2.out; exact .inr (by omega)
            obtain ⟨av, cv, e9, _, _, _⟩ := hA9.read (by omega)
            obtain ⟨nv9, hnv9⟩ : ∃ m, (rowsS (plSs (ss.take j)) ++ [rowS (plS (sAt ss j))]).length = m := ⟨_, rfl⟩
            rw [hnv9] at e9
            clear hnv9
            subst e9
            clear hA9 x9 q9
            have b0z := X9.out.cq b0Y2 (hno _ (Nat.le_refl _))
            have b1z := X9.out.cq b1Y2 (hno _ (Nat.le_refl _))
            have b3z := X9.out.cq b3Y2 (hno _ (Nat.le_refl _))
            refine hK.out _ _ ⟨b0z, b1z, b3z⟩ (fun hHeld => ?_)
            clear hK K
            try go_frame
            refine wT 13 hHeld ?_
            try go_frame
            refine wO 14 (fun K hK => ?_)
            have RQ9 : Hid (wz.rowIs (w.heap.size + 3) 69 2 (fun i => (#[vk, .int .i64 res] : Array Value).getD i undef)) := row_ext RQ3.out KZ.out (fun e => by rcases HB.out _ e with h | h <;> omega)
            have g1 : wz.cell? ⟨w.heap.size + 3, 0, none⟩ = some vk := RQ9.out.cell (i := 0) (by omega)
            have g2 := RQ9.out.frozen 0
            have hq1 : w.heap.size + 3 ≠ sb := by have := HSB.out; have := HZ.out; omega
            go_simp
            obtain ⟨wy, hWy⟩ : ∃ y : World, y = wz.setCell ⟨w.heap.size + 3, 0, none⟩ (.slice av nv9 cv) := ⟨_, rfl⟩
            rw [← hWy]
            have XY : Hid (Ext (fun k => k = w.heap.size + 3) wz wy) := by show Ext _ _ _; rw [hWy]; exact (Ext.refl (fun k => k = w.heap.size + 3) wz).setCell (p := ⟨w.heap.size + 3, 0, none⟩) (.inr rfl) _
            have RY : Hid (wy.rowIs (w.heap.size + 3) 69 2 (fun i => (#[.slice av nv9 cv, .int .i64 res] : Array Value).getD i undef)) := by
              show World.rowIs _ _ _ _ _
              rw [hWy]
              exact (RQ9.out.set 0 _).congr (fun i hi => by rcases (show i = 0 ∨ i = 1 by omega) with rfl | rfl <;> rfl)
            replace hWy := Lib.hid hWy
            have b0y := XY.out.cq b0z (fun h => hq1 h.symm)
            have b1y := XY.out.cq b1z (fun h => hq1 h.symm)
            have b3y := XY.out.cq b3z (fun h => hq1 h.symm)
            refine hK.out _ _ ⟨b0y, b1y, b3y⟩ (fun hHeld => ?_)
            clear hK K
            try go_frame
            refine wpAnyH_done (by kernel_rfl) ?_ _
            rotate_left
            all_goals
              go_wp2
              go_roundw
              case rel => exact ⟨j + 1, .slice av nv9 cv, by omega, by go_num, RY.out, (by
                show AccR _ _ _ _ _ _ _
                rw [HTR.out]
                refine A9.out.extQ XY.out (fun k _ hk e => by omega) (fun k hk e => ?_)
                rcases B9.out k hk with h | h
                · rcases HB.out k h with h5 | h5 <;> omega
                · omega), (by
                show Ext _ _ _
                refine (((HE.out.trans (Keep.to KL.out)).then_ KZ.out (fun i hi e => ?_)).then_ XY.out (fun i hi e => .inr e))
                · rcases HB.out i e with h5 | h5
                  · exact .inl h5
                  · have := SWL.out; omega), (by
                intro k hk
                rcases B9.out k hk with h | h
                · exact HB.out k h
                · exact .inr h), (by
                show _ ≤ _
                have h5 := KL.out.size
                have h6 := KZ.out.size
                have h7 := XY.out.size
                have h8 := HZ.out
                omega)⟩
              case measure => simp [intOf]; omega
    · have hjn : j = n := by omega
      subst hjn
      have HJ : Hid (ss.take j = ss) := by show _ = _; rw [List.take_of_length_le (by have := HL.out; omega)]
      rw [HJ.out] at HA
      obtain ⟨ar, cr, e9, hcr, _, rc⟩ := HA.out.read (by omega)
      obtain ⟨nr9, hnr9⟩ : ∃ m, (rowsS (plSs ss)).length = m := ⟨_, rfl⟩
      rw [hnr9] at e9
      subst e9
      have RT := row_ext RZ0.out HE.out (fun h => by omega)
      have t0 : wo.cell? ⟨w.heap.size + 1, 0, none⟩ = some (.slice none 0 0) := RT.cell (i := 0) (by simp)
      have t1 : wo.cell? ⟨w.heap.size + 1, 1, none⟩ = some (.int .i64 0) := RT.cell (i := 1) (by simp)
      have t2 := RT.frozen 0
      have t3 := RT.frozen 1
      have z0 : wo.cell? ⟨w.heap.size + 3, 0, none⟩ = some (.slice ar nr9 cr) := RQ.out.cell (i := 0) (by omega)
      have z1 : wo.cell? ⟨w.heap.size + 3, 1, none⟩ = some (.int .i64 res) := RQ.out.cell (i := 1) (by omega)
      have X := (((Ext.refl (fun k => k = w.heap.size + 1) wo).setCell (p := ⟨w.heap.size + 1, 0, none⟩) (.inr rfl) (.slice ar nr9 cr)).setCell (p := ⟨w.heap.size + 1, 1, none⟩) (.inr rfl) (.int .i64 res))
      have RCF := Lib.hid ((rc.ext X (fun k hk e => by rcases hk with h | h <;> omega)).mono (D' := fun k => w.heap.size ≤ k) (fun k hk => by rcases hk with h | h <;> omega))
      have KF := Lib.hid ((KA'.out.then_ HE.out (fun i hi e => by omega)).then_ X (fun i hi e => by omega))
      clear RT X rc hnr9
      go_wp2_with fail
      exact bodyPost_ret (v := .agg #[.slice ar nr9 cr, .int .i64 res]) (by simp [results, Tryz.results81, go_sem, t0, t1]) rfl (fin_ hQ ⟨ar, nr9, cr, rfl, RCF.out, KF.out⟩)

theorem specPlain_n (N : Nat) : ∀ (ss : List StepL) (res : Int), nSs ss < N → nSs ss ≤ 600 → plOkSs ss → PlSp ss res := by
  induction N with
  | zero => intro ss _ h; omega
  | succ N ih =>
    intro ss res hN h6 hok
    refine specPlain_of ss res hok h6 (fun j i hj hi => ?_)
    have h1 := nkid_lt ss hj hi
    have h2 := plOkSs_at hok hj
    rw [show sAt ss j = .mk (sAt ss j).op (sAt ss j).num (sAt ss j).into (sAt ss j).args (sAt ss j).kids by cases sAt ss j; rfl, plOk] at h2
    exact ih _ _ (by omega) (by omega) (plOkBs_at h2.2.2.2 hi)
theorem specPlain (ss : List StepL) (res : Int) (h6 : nSs ss ≤ 600) (hok : plOkSs ss) : PlSp ss res := specPlain_n _ ss res (Nat.lt_succ_self _) h6 hok
end Go.Proofs.YtkapldpmjkdmcaaGreat
