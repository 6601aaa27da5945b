/- insert of the reference. -/
import Derived.Test.YtkapldpmjkdmcaaGreatTAQ
import Derived.Test.YtkapldpmjkdmcaaGreatTAB
import Derived.Test.YtkapldpmjkdmcaaGreatTAJ
import Derived.Test.YtkapldpmjkdmcaaGreatTAI
import Derived.Deep.RegionHeld3
import Derived.Deep.DeepCutAuto
import Derived.Test.YtkapldpmjkdmcaaGreatTAD
import Derived.Test.YtkapldpmjkdmcaaGreatTAE
import Derived.Test.YtkapldpmjkdmcaaGreatTAF
import Derived.StillTailTactics
import Derived.Test.YtkapldpmjkdmcaaGreatTAN
namespace Go.Proofs.YtkapldpmjkdmcaaGreat
open Go.RowKit

theorem OwnInts.toOwn {w : World} {D : Nat → Prop} {a : Option Addr} {n c : Nat} {xs : List Int} (h : OwnInts w D a n xs) (hc : n ≤ c) (hm : n ≤ 9223372036854775807) : Own w D (encInts xs) (.slice a n c) := by
  obtain ⟨h1, h2⟩ := h
  subst h1
  rcases Nat.eq_zero_or_pos xs.length with h0 | h0
  · have : xs = [] := List.eq_nil_of_length_eq_zero h0
    subst this
    exact .nil _ 1 a c
  · obtain ⟨b, N, f, rfl, hd, hN, hr, hcell⟩ := h2 h0
    have q := Own.arr (w := w) D (fun _ _ _ => False) 1 (xs.map rowI) b c 3 N f hd (by simpa using h0) (by omega) (by simpa using hc) (by simpa using hm)
      (fun i hi => by rw [ints_row xs i (by simpa using hi)]; rfl) (by simpa using hN) hr (fun _ _ _ _ _ h => h.elim) (fun _ _ _ _ _ _ _ _ _ h => h.elim) (fun i j hi hj => by
        obtain rfl : j = 0 := by omega
        rw [Nat.mul_one, Nat.add_zero, rAt, ints_row xs i (by simpa using hi), hcell i (by simpa using hi)]
        exact .num _ _)
    rw [ints_len] at q
    exact q

end Go.Proofs.YtkapldpmjkdmcaaGreat
/- Lists of steps in the making: the box that holds one, its row, and what a call may change. -/
namespace Go.Proofs.YtkapldpmjkdmcaaGreat
open Go.RowKit

theorem Acc.extO {w w' : World} {base : Nat} {D S : Nat → Prop} {T : TypeId} {s : Nat} {v : Value} {rows : List (List Dat)} (h : Acc w base D T s v rows) (hx : Ext S w w') (hs : ∀ k, k < w.heap.size → D k → ¬ S k) (ho : ∀ k, v.ownBlock = some k → ¬ S k) : Acc w' base D T s v rows := by
  obtain ⟨xs, E, h1, h2, h3, h4, h5⟩ := h
  refine ⟨xs, E, ⟨h1.1, ?_⟩, h2, fun i j k hi hj hk => ⟨(h3 i j k hi hj hk).1, Nat.lt_of_lt_of_le (h3 i j k hi hj hk).2.1 hx.size, (h3 i j k hi hj hk).2.2⟩, h4, fun i j hi hj => ?_⟩
  · rcases h1.2 with h | ⟨g, cap, cur, e, hb, hg, rest⟩
    · exact .inl h
    · have hlt : g < w.heap.size := (Array.getElem?_eq_some_iff.1 hg).1
      exact .inr ⟨g, cap, cur, e, hb, (hx.block g hlt (ho g (by rw [e]; rfl))).trans hg, rest⟩
  · obtain ⟨u, hu, ho'⟩ := h5 i j hi hj
    exact ⟨u, hu, ho'.ext hx (fun k hk => hs k (h3 i j k hi hj hk).2.1 (h3 i j k hi hj hk).1)⟩

/-- A list of steps in the making, whose box q holds the cells cs, and the row v among them. D: the blocks that the steps lead to. -/
structure LowSt (w : World) (base q : Nat) (TT : TypeId) (cs : Array Value) (D : Nat → Prop) (v : Value) (rows : List (List Dat)) : Prop where
  row : w.rowIs q TT cs.size (fun i => cs.getD i undef)
  acc : Acc w base D 136 5 v rows
  nd : ¬ D q
  nv : ∀ k, v.ownBlock = some k → k ≠ q
  lt : ∀ k, D k → k < w.heap.size
  hb : base ≤ w.heap.size
/-- What happened to it. -/
structure LowTo (w w' : World) (q : Nat) (D D' : Nat → Prop) (v v' : Value) : Prop where
  ext : Ext (fun k => k = q ∨ v.ownBlock = some k) w w'
  sub : ∀ k, D' k → D k ∨ w.heap.size ≤ k
  blk : ∀ k, v'.ownBlock = some k → v.ownBlock = some k ∨ w.heap.size ≤ k

section
variable {w w' w'' : World} {base q : Nat} {TT : TypeId} {cs : Array Value} {D D' D'' S : Nat → Prop} {v v' v'' : Value} {rows : List (List Dat)}
theorem LowSt.ext (h : LowSt w base q TT cs D v rows) (hx : Ext S w w') (hq : ¬ S q) (hD : ∀ k, D k → ¬ S k) (hv : ∀ k, v.ownBlock = some k → ¬ S k) : LowSt w' base q TT cs D v rows :=
  ⟨row_ext h.row hx hq, h.acc.extO hx (fun k _ => hD k) hv, h.nd, h.nv, fun k hk => Nat.lt_of_lt_of_le (h.lt k hk) hx.size, Nat.le_trans h.hb hx.size⟩
theorem LowSt.k (h : LowSt w base q TT cs D v rows) (hx : Keep w w') : LowSt w' base q TT cs D v rows := h.ext hx (fun h => h) (fun _ _ h => h) (fun _ _ h => h)
theorem LowSt.own (h : LowSt w base q TT cs D v rows) : ∀ k, v.ownBlock = some k → base ≤ k ∧ k < w.heap.size := h.acc.bound
theorem LowSt.qlt (h : LowSt w base q TT cs D v rows) : q < w.heap.size := h.row.lt
theorem LowTo.refl (w : World) (q : Nat) (D : Nat → Prop) (v : Value) : LowTo w w q D D v v := ⟨Ext.refl _ _, fun _ h => .inl h, fun _ h => .inl h⟩
theorem LowTo.keep (h : Keep w w') : LowTo w w' q D D v v := ⟨Keep.to h, fun _ h => .inl h, fun _ h => .inl h⟩
theorem LowTo.trans (h : LowTo w w' q D D' v v') (k : LowTo w' w'' q D' D'' v' v'') : LowTo w w'' q D D'' v v'' := by
  have hs := h.ext.size
  refine ⟨h.ext.then_ k.ext (fun i hi hk => ?_), fun i hi => ?_, fun i hi => ?_⟩
  · rcases hk with hk | hk
    · exact .inl hk
    · rcases h.blk i hk with e | e
      · exact .inr e
      · omega
  · rcases k.sub i hi with e | e
    · exact h.sub i e
    · exact .inr (by omega)
  · rcases k.blk i hi with e | e
    · exact h.blk i e
    · exact .inr (by omega)
theorem LowTo.post (h : LowTo w w' q D D' v v') (k : Keep w' w'') : LowTo w w'' q D D' v v' := h.trans (LowTo.keep k)
theorem LowTo.cell (hx : LowTo w w' q D D' v v') {p : Addr} {u : Value} (h : w.cell? p = some u) (h1 : p.block ≠ q) (h2 : v.ownBlock ≠ some p.block) : w'.cell? p = some u :=
  (hx.ext.cell (World.block_lt_of_cell? _ _ h) (fun hS => by rcases hS with hS | hS; exact h1 hS; exact h2 hS)).trans h
/-- Integers in a row of the call's own. -/
theorem VR.owns {bs : Nat} {u : Value} {xs : List Int} (h : VR w bs u xs) (hm : xs.length ≤ 9223372036854775807) : Own w (fun k => u.ownBlock = some k) (encInts xs) u := by
  obtain ⟨a, c, rfl, hc, ho⟩ := h.slice
  exact ho.toOwn hc hm
end
end Go.Proofs.YtkapldpmjkdmcaaGreat
/- add of both packages: a step more. -/
namespace Go.Proofs.YtkapldpmjkdmcaaGreat
open Go.RowKit

/-- append of one step. -/
theorem step_addS {ops : Array Oper} {o : Oper} {a : Act} {w : World} {K : Act → World → Prop} {Q : Exit → Act → World → Prop} {E : Prop} (hgd : o.guard = none) (s x : Operand)
    (ho : o.op = .call { callee := .builtin .append, args := #[s, x], argTypes := #[67, 67] })
    (base : Nat) (v : Value) (rows : List (List Dat)) (hs : a.eval s = v) {D0 : Nat → Prop} (hacc : Acc w base D0 136 5 v rows)
    (g c : Nat) (op num into : Int) (args : List Int) (kids : List BlockL) (A B : Value) (EA EB : Nat → Prop) (hx : a.eval x = .slice (some ⟨g, 0, none⟩) 1 c) (hcells : ∀ j u, [Value.int .i64 op, .int .i64 num, .int .i64 into, A, B][j]? = some u → w.cell? ⟨g, j, none⟩ = some u)
    (hA : Own w EA (encInts args) A) (hB : Own w EB (encBlocks kids) B) (hE : ∀ k, EA k ∨ EB k → ¬ D0 k ∧ v.ownBlock ≠ some k) (hdis : ∀ k, EA k → ¬ EB k) (hlen : rows.length ≤ 100000) (hbase : base ≤ w.heap.size)
    (h : ∀ a' n' c' w', Acc w' base (fun k => D0 k ∨ (EA k ∨ EB k) ∧ k < w.heap.size) 136 5 (.slice a' n' c') (rows ++ [rowS (.mk op num into args kids)]) → Ext (fun k => v.ownBlock = some k) w w' → w.heap.size ≤ w'.heap.size → (∀ k, (Value.slice a' n' c').ownBlock = some k → v.ownBlock = some k ∨ w.heap.size ≤ k) → K (a.put o.dst (.slice a' n' c')) w') :
    if Region.wanted o (yielded ops a.tmps) = true then Oper.wp Tryz.prog o a w K Q else E := by
  obtain ⟨xs, E', h1, _⟩ := id hacc
  have o1 : A.oneCell' = true := hA.read.one
  have o2 : B.oneCell' = true := hB.read.one
  refine step_app hgd s x 67 ho base 136 (.agg #[.int .i64 0, .int .i64 0, .int .i64 0, .slice none 0 0, .slice none 0 0]) 5 72 Tryz.underlying67 (by kernel_rfl) rfl (by omega) v rows.length xs hs h1 (some ⟨g, 0, none⟩) 1 c [.int .i64 op, .int .i64 num, .int .i64 into, A, B] hx ⟨rfl, fun _ => ⟨g, 0, rfl, fun j u hj => by rw [Nat.zero_add]; exact hcells j u hj⟩⟩
    (by intro u hu; simp at hu; rcases hu with rfl | rfl | rfl | rfl | rfl <;> first | rfl | assumption) (by omega) (by omega) hbase (fun v' w' q1 q2 q3 => ?_)
  have hfin : Acc w' base (fun k => D0 k ∨ (EA k ∨ EB k) ∧ k < w.heap.size) 136 5 v' (rows ++ [rowS (.mk op num into args kids)]) := ?_
  · obtain ⟨a', c', rfl, _, _⟩ := hfin.own (by omega) (by simp; omega)
    exact h _ _ _ w' hfin ⟨q2.os, q2.tape, q2.output, q2.size, fun k hk hn => q2.block k hk (fun e => hn e.symm)⟩ q2.size (fun k hk => by
      rcases q3 with e | e
      · rw [e] at hk; exact .inl hk
      · rw [e] at hk; injection hk with hk; exact .inr (by omega))
  refine hacc.push (r := rowS (.mk op num into args kids)) (news := [.int .i64 op, .int .i64 num, .int .i64 into, A, B]) (D2 := fun j k => (j = 3 ∧ EA k ∨ j = 4 ∧ EB k) ∧ k < w.heap.size) rfl rfl (fun j u hj => ?_) (fun j k hj hk => ?_) (fun j j' k _ _ h1 h2 => ?_) (fun k hk => .inl hk) (fun xs' hxs' => ?_) q2 q3
  · rcases (show j = 0 ∨ j = 1 ∨ j = 2 ∨ j = 3 ∨ j = 4 by have := (List.getElem?_eq_some_iff.1 hj).1; simp at this; omega) with rfl | rfl | rfl | rfl | rfl
    · simp at hj; subst hj; exact .num _ op
    · simp at hj; subst hj; exact .num _ num
    · simp at hj; subst hj; exact .num _ into
    · simp at hj; subst hj; exact hA.lt.mono (fun k hk => ⟨.inl ⟨rfl, hk.1⟩, hk.2⟩)
    · simp at hj; subst hj; exact hB.lt.mono (fun k hk => ⟨.inr ⟨rfl, hk.1⟩, hk.2⟩)
  · have h5 : EA k ∨ EB k := by rcases hk.1 with h | h; exact .inl h.2; exact .inr h.2
    exact ⟨.inr ⟨h5, hk.2⟩, (hE k h5).1, (hE k h5).2, hk.2⟩
  · rcases h1.1 with h1 | h1 <;> rcases h2.1 with h2 | h2
    · omega
    · exact absurd h2.2 (hdis k h1.2)
    · exact absurd h1.2 (hdis k h2.2)
    · omega
  · rw [ownsRow_same h1 hxs']
    exact q1

/-- The same list behind an append to its row. -/
theorem LowSt.upd {w w2 : World} {base q : Nat} {TT : TypeId} {cs : Array Value} {D D' : Nat → Prop} {v v' : Value} {rows rows' : List (List Dat)} (h : LowSt w base q TT cs D v rows) (hx : Ext (fun k => v.ownBlock = some k) w w2)
    (hA : Acc w2 base D' 136 5 v' rows') (hnd : ¬ D' q) (hnv : ∀ k, v'.ownBlock = some k → k ≠ q) (hlt : ∀ k, D' k → k < w2.heap.size) : LowSt w2 base q TT cs D' v' rows' :=
  ⟨row_ext h.row hx (fun e => h.nv q e rfl), hA, hnd, hnv, hlt, Nat.le_trans h.hb hx.size⟩
/-- Behind a store into its box. -/
theorem LowSt.put {w : World} {base q : Nat} {TT : TypeId} {cs cs' : Array Value} {D : Nat → Prop} {v : Value} {rows : List (List Dat)} (h : LowSt w base q TT cs D v rows) (i : Nat) (u : Value) (hs : cs'.size = cs.size) (hc : ∀ j, j < cs.size → cs'.getD j undef = if j = i then u else cs.getD j undef) : LowSt (w.setCell ⟨q, i, none⟩ u) base q TT cs' D v rows := by
  have X := (Ext.refl (fun k => k = q) w).setCell (p := ⟨q, i, none⟩) (.inr rfl) u
  have hr := h.row.set i u
  refine ⟨?_, h.acc.extO X (fun k _ hk e => h.nd (e ▸ hk)) (fun k hk e => h.nv k hk e), h.nd, h.nv, fun k hk => Nat.lt_of_lt_of_le (h.lt k hk) X.size, Nat.le_trans h.hb X.size⟩
  rw [hs]
  exact hr.congr (fun j hj => (hc j hj).symm)

end Go.Proofs.YtkapldpmjkdmcaaGreat
/- lower of the reference: numbers, variables, bindings, other operations. -/
namespace Go.Proofs.YtkapldpmjkdmcaaGreat
open Go.RowKit

theorem VR.made (w : World) : VR (w.alloc (.cells #[] 3)) w.heap.size (.slice (some ⟨w.heap.size, 0, none⟩) 0 0) [] := World.ownsRow_made w #[] 0 (Nat.le_refl _) (by simp [maxLen]) rfl

/-- What can be read aside of a list in the making: what could be read at the call, and the call's two boxes. -/
def Aside (D1 : Nat → Prop) (w : World) (k : Nat) : Prop := (D1 k ∧ k < w.heap.size) ∨ k = w.heap.size ∨ k = w.heap.size + 1
/-- What lower does for one expression. -/
def LwS (ds : List DeclL) (sg : List SigL) (e : ExprL) : Prop := ∀ (vars env : List Int) (n : Nat) (N : Int) (q base : Nat) (D D1 : Nat → Prop) (v : Value) (rows : List (List Dat)) (a0 : Option Addr) (n0 c0 : Nat) (a1 : Option Addr) (n1 c1 : Nat) (av : Option Addr) (nv cv : Nat) (a : Option Addr) (m c : Nat) (w : World),
  LowSt w base q 196 #[v, .int .i64 N] D v rows → N = (n : Int) → Rd w D1 (encDecls ds) (.slice a0 n0 c0) → Rd w D1 (encInts env) (.slice av nv cv) → Rd w D1 (encExprs e.kids) (.slice a m c) →
  (∀ k, D1 k → k ≠ q ∧ v.ownBlock ≠ some k) → 0 ≤ tyE ds sg vars e → vars.length = env.length → env.length + 4 * nE e ≤ 4000 → n + 4 * nE e ≤ 4000 → rows.length + nE e ≤ 4000 →
  Calls Tryz.prog 153 #[.pointer (some ⟨q, 0, none⟩), .agg #[.slice a0 n0 c0, .slice a1 n1 c1], .agg #[.int .i64 e.op, .int .i64 e.num, .slice a m c], .slice av nv cv] w fun r w' =>
    ∃ v' D', r = .returned (.int .i64 (lowE ds e env n).2) ∧ LowSt w' base q 196 #[v', .int .i64 ((n + (lowE ds e env n).1.length : Nat) : Int)] D' v' (rows ++ rowsS (lowE ds e env n).1) ∧ LowTo w w' q D D' v v'

section
variable (ds : List DeclL) (sg : List SigL) (hok : sigsOk ds sg = true)

end
end Go.Proofs.YtkapldpmjkdmcaaGreat
/- lower of the reference: operations that neither bind nor choose. -/
namespace Go.Proofs.YtkapldpmjkdmcaaGreat
open Go.RowKit

section
variable {w w' wo w1 w5 : World} {base q : Nat} {TT : TypeId} {cs : Array Value} {D D' Dj D5 S EA EB : Nat → Prop} {v v' vj v1 v5 ov v2 : Value} {rows : List (List Dat)}
theorem LowTo.aside {w'' : World} (h : LowTo w w' q D D' v v') (hx : Ext S w' w'') (hS : ∀ k, S k → w.heap.size ≤ k) : LowTo w w'' q D D' v v' :=
  ⟨h.ext.then_ hx (fun i hi hs => by have := hS i hs; omega), h.sub, h.blk⟩
/-- A row aside of the list, behind a step of the list and one of the row. -/
theorem own_next (HO : ∀ k, ov.ownBlock = some k → k ≠ q ∧ vj.ownBlock ≠ some k ∧ ¬ Dj k) (hlt : ∀ k, ov.ownBlock = some k → k < wo.heap.size) (T1 : LowTo wo w1 q Dj D' vj v1) (L1 : LowSt w1 base q TT cs D' v1 rows)
    (hb : ∀ r, v2.ownBlock = some r → ov.ownBlock = some r ∨ w1.heap.size ≤ r) : ∀ k, v2.ownBlock = some k → k ≠ q ∧ v1.ownBlock ≠ some k ∧ ¬ D' k := by
  intro k hk
  rcases hb k hk with h | h
  · obtain ⟨h1, h2, h3⟩ := HO k h
    have h4 := hlt k h
    exact ⟨h1, fun e => by rcases T1.blk k e with h5 | h5; exact h2 h5; omega, fun e => by rcases T1.sub k e with h5 | h5; exact h3 h5; omega⟩
  · exact ⟨fun e => by have := L1.qlt; omega, fun e => by have := L1.own k e; omega, fun e => by have := L1.lt k e; omega⟩
/-- The list behind a step of a row aside of it. -/
theorem LowSt.next {w2 : World} (HO : ∀ k, ov.ownBlock = some k → k ≠ q ∧ vj.ownBlock ≠ some k ∧ ¬ Dj k) (hlt : ∀ k, ov.ownBlock = some k → k < wo.heap.size) (T1 : LowTo wo w1 q Dj D' vj v1) (L1 : LowSt w1 base q TT cs D' v1 rows)
    (hx : Ext (fun r => ov.ownBlock = some r) w1 w2) : LowSt w2 base q TT cs D' v1 rows := by
  have h := own_next HO hlt T1 L1 (v2 := ov) (fun r hr => .inl hr)
  exact L1.ext hx (fun e => (h q e).1 rfl) (fun k hk e => (h k e).2.2 hk) (fun k hk e => (h k e).2.1 hk)
theorem LowTo.add {wo' : World} (h : LowTo w wo q D Dj v vj) (hk : Keep wo wo') (hx : Ext (fun k => k = q ∨ vj.ownBlock = some k) wo' w5) (hs : ∀ k, D5 k → Dj k ∨ EA k ∨ EB k) (he : ∀ k, EA k ∨ EB k → w.heap.size ≤ k)
    (hb : ∀ k, v5.ownBlock = some k → vj.ownBlock = some k ∨ wo'.heap.size ≤ k) : LowTo w w5 q D D5 v v5 := by
  have h1 := h.ext.size
  have h2 := hk.size
  refine ⟨(h.post hk).ext.then_ hx (fun i hi hs => ?_), fun k hk => ?_, fun k hk => ?_⟩
  · rcases hs with e | e
    · exact .inl e
    · rcases h.blk i e with h3 | h3
      · exact .inr h3
      · omega
  · rcases hs k hk with h3 | h3
    · exact h.sub k h3
    · exact .inr (he k h3)
  · rcases hb k hk with h3 | h3
    · exact h.blk k h3
    · exact .inr (by omega)
end
section
variable (ds : List DeclL) (sg : List SigL) (hok : sigsOk ds sg = true)
include hok
end
end Go.Proofs.YtkapldpmjkdmcaaGreat
/- lowerBlock of the reference; append of a block. -/
namespace Go.Proofs.YtkapldpmjkdmcaaGreat
open Go.RowKit

/-- A step of a region that stands alone. -/
theorem wp_of_step {P : Program} {ops : Array Oper} {o : Oper} {a : Act} {w : World} {K : Act → World → Prop} {Q : Exit → Act → World → Prop} (hgd : o.guard = none) (h : if Region.wanted o (yielded ops a.tmps) = true then Oper.wp P o a w K Q else True) : Oper.wp P o a w K Q := by
  have hw : Region.wanted o (yielded ops a.tmps) = true := by simp [Region.wanted, hgd]
  rwa [if_pos hw] at h

/-- append of one block. -/
theorem step_addB {ops : Array Oper} {o : Oper} {a : Act} {w : World} {K : Act → World → Prop} {Q : Exit → Act → World → Prop} {E : Prop} (hgd : o.guard = none) (s x : Operand)
    (ho : o.op = .call { callee := .builtin .append, args := #[s, x], argTypes := #[134, 134] })
    (base : Nat) (v : Value) (rows : List (List Dat)) (hs : a.eval s = v) {D0 : Nat → Prop} (hacc : Acc w base D0 69 2 v rows)
    (g c : Nat) (ss : List StepL) (r : Int) (A : Value) (ES : Nat → Prop) (hx : a.eval x = .slice (some ⟨g, 0, none⟩) 1 c) (hcells : ∀ j u, [A, .int .i64 r][j]? = some u → w.cell? ⟨g, j, none⟩ = some u)
    (hA : Own w ES (encSteps ss) A) (hE : ∀ k, ES k → ¬ D0 k ∧ v.ownBlock ≠ some k) (hlen : rows.length ≤ 100000) (hbase : base ≤ w.heap.size)
    (h : ∀ a' n' c' w', Acc w' base (fun k => D0 k ∨ ES k ∧ k < w.heap.size) 69 2 (.slice a' n' c') (rows ++ [rowB (.mk ss r)]) → Ext (fun k => v.ownBlock = some k) w w' → w.heap.size ≤ w'.heap.size → (∀ k, (Value.slice a' n' c').ownBlock = some k → v.ownBlock = some k ∨ w.heap.size ≤ k) → K (a.put o.dst (.slice a' n' c')) w') :
    if Region.wanted o (yielded ops a.tmps) = true then Oper.wp Tryz.prog o a w K Q else E := by
  obtain ⟨xs, E', h1, _⟩ := id hacc
  have o1 : A.oneCell' = true := hA.read.one
  refine step_app hgd s x 134 ho base 69 (.agg #[.slice none 0 0, .int .i64 0]) 2 32 Tryz.underlying134 (by kernel_rfl) rfl (by omega) v rows.length xs hs h1 (some ⟨g, 0, none⟩) 1 c [A, .int .i64 r] hx ⟨rfl, fun _ => ⟨g, 0, rfl, fun j u hj => by rw [Nat.zero_add]; exact hcells j u hj⟩⟩
    (by intro u hu; simp at hu; rcases hu with rfl | rfl <;> first | rfl | assumption) (by omega) (by omega) hbase (fun v' w' q1 q2 q3 => ?_)
  have hfin : Acc w' base (fun k => D0 k ∨ ES k ∧ k < w.heap.size) 69 2 v' (rows ++ [rowB (.mk ss r)]) := ?_
  · obtain ⟨a', c', rfl, _, _⟩ := hfin.own (by omega) (by simp; omega)
    exact h _ _ _ w' hfin ⟨q2.os, q2.tape, q2.output, q2.size, fun k hk hn => q2.block k hk (fun e => hn e.symm)⟩ q2.size (fun k hk => by
      rcases q3 with e | e
      · rw [e] at hk; exact .inl hk
      · rw [e] at hk; injection hk with hk; exact .inr (by omega))
  refine hacc.push (r := rowB (.mk ss r)) (news := [A, .int .i64 r]) (D2 := fun j k => (j = 0 ∧ ES k) ∧ k < w.heap.size) rfl rfl (fun j u hj => ?_) (fun j k hj hk => ⟨.inr ⟨hk.1.2, hk.2⟩, (hE k hk.1.2).1, (hE k hk.1.2).2, hk.2⟩) (fun j j' k _ _ h1 h2 => h1.1.1.trans h2.1.1.symm) (fun k hk => .inl hk) (fun xs' hxs' => ?_) q2 q3
  · rcases (show j = 0 ∨ j = 1 by have := (List.getElem?_eq_some_iff.1 hj).1; simp at this; omega) with rfl | rfl
    · simp at hj; subst hj; exact hA.lt.mono (fun k hk => ⟨⟨rfl, hk.1⟩, hk.2⟩)
    · simp at hj; subst hj; exact .num _ r
  · rw [ownsRow_same h1 hxs']
    exact q1

/-- What lowerBlock does for one expression. -/
def LwB (ds : List DeclL) (sg : List SigL) (e : ExprL) : Prop := ∀ (vars env : List Int) (n : Nat) (N : Int) (a0 : Option Addr) (n0 c0 : Nat) (a1 : Option Addr) (n1 c1 : Nat) (av : Option Addr) (nv cv : Nat) (a : Option Addr) (m c : Nat) (w : World),
  N = (n : Int) → Rd w (fun _ => True) (encDecls ds) (.slice a0 n0 c0) → Rd w (fun _ => True) (encInts env) (.slice av nv cv) → Rd w (fun _ => True) (encExprs e.kids) (.slice a m c) →
  0 ≤ tyE ds sg vars e → vars.length = env.length → env.length + 4 * nE e ≤ 4000 → n + 4 * nE e ≤ 4000 →
  Calls Tryz.prog 100 #[.agg #[.slice a0 n0 c0, .slice a1 n1 c1], .agg #[.int .i64 e.op, .int .i64 e.num, .slice a m c], .slice av nv cv, .int .i64 N] w fun r w' =>
    ∃ a' n' c', r = .returned (.agg #[.slice a' n' c', .int .i64 (lowE ds e env n).2]) ∧ Own w' (fun k => w.heap.size ≤ k) (encSteps (lowE ds e env n).1) (.slice a' n' c') ∧ Keep w w'

end Go.Proofs.YtkapldpmjkdmcaaGreat
/- build of the program: variables, bindings. -/
namespace Go.Proofs.YtkapldpmjkdmcaaGreat
open Go.RowKit

/-- What can be read aside of a list in the making: what could be read at the call, and the call's box. -/
def AsideI (D1 : Nat → Prop) (w : World) (k : Nat) : Prop := (D1 k ∧ k < w.heap.size) ∨ k = w.heap.size
/-- What build does for one expression. -/
def LwI (ds : List DeclL) (sg : List SigL) (e : ExprL) : Prop := ∀ (vars env : List Int) (n : Nat) (N : Int) (q base : Nat) (D D1 : Nat → Prop) (v : Value) (rows : List (List Dat)) (a0 : Option Addr) (n0 c0 : Nat) (av : Option Addr) (nv cv : Nat) (a : Option Addr) (m c : Nat) (w : World),
  LowSt w base q 91 #[.slice a0 n0 c0, .int .i64 N, v] D v rows → N = (n : Int) → Rd w D1 (encDecls ds) (.slice a0 n0 c0) → Rd w D1 (encInts env) (.slice av nv cv) → Rd w D1 (encExprs e.kids) (.slice a m c) →
  (∀ k, D1 k → k ≠ q ∧ v.ownBlock ≠ some k) → 0 ≤ tyE ds sg vars e → vars.length = env.length → env.length + 4 * nE e ≤ 4000 → n + 4 * nE e ≤ 4000 → rows.length + nE e ≤ 4000 →
  Calls Tryz.prog 53 #[.pointer (some ⟨q, 0, none⟩), .agg #[.int .i64 e.op, .int .i64 e.num, .slice a m c], .slice av nv cv] w fun r w' =>
    ∃ v' D', r = .returned (.int .i64 (lowE ds e env n).2) ∧ LowSt w' base q 91 #[.slice a0 n0 c0, .int .i64 ((n + (lowE ds e env n).1.length : Nat) : Int), v'] D' v' (rows ++ rowsS (lowE ds e env n).1) ∧ LowTo w w' q D D' v v'

theorem VR.lower {w : World} {base base' : Nat} {v : Value} {xs : List Int} (h : VR w base v xs) (hb : base' ≤ base) : VR w base' v xs := by
  obtain ⟨h1, h2⟩ := h
  refine ⟨h1, ?_⟩
  rcases h2 with h2 | ⟨g, cap, cur, e, hg, rest⟩
  · exact .inl h2
  · exact .inr ⟨g, cap, cur, e, Nat.le_trans hb hg, rest⟩
section
variable (ds : List DeclL) (sg : List SigL)
end
end Go.Proofs.YtkapldpmjkdmcaaGreat
/- build of the program: operations that neither bind nor choose. -/
namespace Go.Proofs.YtkapldpmjkdmcaaGreat
open Go.RowKit

section
variable (ds : List DeclL) (sg : List SigL) (hok : sigsOk ds sg = true)
include hok
end
end Go.Proofs.YtkapldpmjkdmcaaGreat
/- kid of the program: the block of a kid. -/
namespace Go.Proofs.YtkapldpmjkdmcaaGreat
open Go.RowKit

/-- What kid does for one expression: f fields more. -/
def LwK (ds : List DeclL) (sg : List SigL) (e : ExprL) : Prop := ∀ (vars env : List Int) (n f : Nat) (N F : Int) (q base : Nat) (D : Nat → Prop) (v : Value) (rows : List (List Dat)) (a0 : Option Addr) (n0 c0 : Nat) (av : Option Addr) (nv cv : Nat) (a : Option Addr) (m c : Nat) (w : World),
  LowSt w base q 91 #[.slice a0 n0 c0, .int .i64 N, v] D v rows → N = (n : Int) → F = (f : Int) → f ≤ 3 → Rd w (fun _ => True) (encDecls ds) (.slice a0 n0 c0) → Rd w (fun _ => True) (encInts env) (.slice av nv cv) → Rd w (fun _ => True) (encExprs e.kids) (.slice a m c) →
  0 ≤ tyE ds sg vars e → vars.length = env.length + f → env.length + f + 4 * nE e ≤ 4000 → n + f + 4 * nE e ≤ 4000 →
  Calls Tryz.prog 108 #[.pointer (some ⟨q, 0, none⟩), .agg #[.int .i64 e.op, .int .i64 e.num, .slice a m c], .slice av nv cv, .int .i64 F] w fun r w' =>
    ∃ a' n' c', r = .returned (.agg #[.slice a' n' c', .int .i64 (lowE ds e (env ++ numsL n f) (n + f)).2]) ∧ Own w' (fun k => w.heap.size ≤ k) (encSteps (lowE ds e (env ++ numsL n f) (n + f)).1) (.slice a' n' c') ∧ Keep w w'

end Go.Proofs.YtkapldpmjkdmcaaGreat
