/- Slices of the call's own: rows of cells that are known whole; integers, constructors and declarations in them; make. -/
import Derived.Test.YthdjijhpdgajbaaTypesPlain
import Derived.Deep.OwnRows
namespace Go.Proofs.Ythdjijhpdgajbaa
open Go.RowKit

section
variable {S D D' : Nat → Prop} {w w' : World} {b N : Nat} {T : TypeId} {f : Nat → Value}
theorem row_ext (h : w.rowIs b T N f) (hx : Ext S w w') (hs : ¬ S b) : w'.rowIs b T N f := h.of_block (hx.block b h.lt hs)
theorem row_below {B : Nat} (h : w.rowIs b T N f) (hx : Below B w w') (hb : b < B) : w'.rowIs b T N f := h.of_block (hx.block b hb)
theorem row_drewN (h : w.rowIs b T N f) (k : Nat) : (w.drewN k).rowIs b T N f := h
end

/-- make of n elements of s cells each: a new row of zero values; of the world behind it no more is said than what a walk wants. -/
theorem wpList_makeN {P : Program} (w : World) {ops : Array Oper} {rest : List Oper} {o : Oper} {a : Act} {Q : Exit → Act → World → Prop}
    (hg : o.guard = none) (l c : Operand) (t : TypeId) (hop : o.op = Op.makeSlice t l c)
    (e : TypeId) (z : Value) (zs : Array Value) (s bytes : Nat) (h1 : P.underlying t = some (.slice e)) (hinfo : (P.info? e).map (fun i => (i.zero, i.size, i.bytes)) = some (some z, s, bytes)) (hzs : z.cells = zs) (hsz : zs.size = s)
    (n : Nat) (hl : a.eval l = .int .i64 (n : Int)) (hc : a.eval c = .int .i64 (n : Int)) (b2 : bytes * n ≤ 281474976710656) (b3 : n ≤ 9223372036854775807)
    (hK : ∀ w', w'.rowIs w.heap.size e (n * s) (fun i => zs.getD (i % s) undef) → Keep w w' → w'.heap.size = w.heap.size + 1 → wpList P ops Q rest (a.put o.dst (.slice (some ⟨w.heap.size, 0, none⟩) n n)) w') :
    wpList P ops Q (o :: rest) a w := by
  refine wpList_plain hg fun K hK' => ?_
  obtain ⟨i, hi, hzz⟩ := Option.map_eq_some_iff.1 hinfo
  simp only [Prod.mk.injEq] at hzz
  obtain ⟨hz, hs, hb⟩ := hzz
  have hb' : (i.bytes : Int) * (n : Int) ≤ 281474976710656 := by
    have h : ((bytes * n : Nat) : Int) ≤ 281474976710656 := by omega
    rw [Int.natCast_mul] at h
    rw [hb]; exact h
  have hrun := run_make (P := P) w t e i z h1 hi hz .i64 .i64 n n (by omega) (Int.le_refl _) hb' (by omega)
  simp only [Int.toNat_natCast, hs, hzs] at hrun
  unfold Oper.wp
  simp [execOp, hop, hl, hc, hrun, Result.andThen]
  refine hK' _ _ (hK _ ?_ ((Ext.refl _ w).alloc _) (by simp))
  refine ⟨_, heap_alloc_new w _, size_madeCells _ _, fun j hj => ?_⟩
  have hs0 : 0 < s := by
    rcases Nat.eq_zero_or_pos s with h | h
    · rw [h] at hj; omega
    · exact h
  have hjs : j % s < zs.size := by rw [hsz]; exact Nat.mod_lt _ hs0
  have e1 : zs[j % s]! = zs.getD (j % s) undef := by
    rw [getElem!_pos zs (j % s) hjs]
    simp [Array.getD, hjs]
  simp only [madeCells, hsz]
  rw [Array.getElem?_map, Array.getElem?_range]
  simp only [hj, if_true, Option.map_some]
  rw [e1]

/-- A slice of integers of the call's own, in a block of D. -/
def OwnInts (w : World) (D : Nat → Prop) (a : Option Addr) (n : Nat) (xs : List Int) : Prop :=
  xs.length = n ∧ (0 < n → ∃ b N f, a = some ⟨b, 0, none⟩ ∧ D b ∧ n ≤ N ∧ w.rowIs b 3 N f ∧ ∀ i, i < n → f i = .int .i64 (iAt xs i))
def OwnCons (w : World) (D : Nat → Prop) (a : Option Addr) (n : Nat) (cs : List (List Int)) : Prop :=
  cs.length = n ∧ (0 < n → ∃ b N f, a = some ⟨b, 0, none⟩ ∧ D b ∧ n ≤ N ∧ w.rowIs b 34 N f ∧ ∀ i, i < n → ∃ a' m c, f i = .slice a' m c ∧ m ≤ c ∧ OwnInts w D a' m (cAt cs i))
def OwnDecls (w : World) (D : Nat → Prop) (a : Option Addr) (n : Nat) (ds : List DeclL) : Prop :=
  ds.length = n ∧ (0 < n → ∃ b N f, a = some ⟨b, 0, none⟩ ∧ D b ∧ n * 3 ≤ N ∧ w.rowIs b 28 N f ∧ ∀ i, i < n → f (i * 3) = .int .i64 (dAt ds i).from_ ∧ f (i * 3 + 1) = .int .i64 (dAt ds i).to_ ∧
    ∃ a' m c, f (i * 3 + 2) = .slice a' m c ∧ m ≤ c ∧ OwnCons w D a' m (dAt ds i).cons)

section
variable {S D D' : Nat → Prop} {w w' : World} {a : Option Addr} {n : Nat}
theorem OwnInts.ext {xs : List Int} (h : OwnInts w D a n xs) (hx : Ext S w w') (hs : ∀ k, D k → ¬ S k) : OwnInts w' D a n xs := by
  refine ⟨h.1, fun hn => ?_⟩
  obtain ⟨b, N, f, rfl, hd, hN, hr, hc⟩ := h.2 hn
  exact ⟨b, N, f, rfl, hd, hN, row_ext hr hx (hs _ hd), hc⟩
theorem OwnInts.mono {xs : List Int} (h : OwnInts w D a n xs) (hs : ∀ k, D k → D' k) : OwnInts w D' a n xs := by
  refine ⟨h.1, fun hn => ?_⟩
  obtain ⟨b, N, f, rfl, hd, hN, hr, hc⟩ := h.2 hn
  exact ⟨b, N, f, rfl, hs _ hd, hN, hr, hc⟩
theorem OwnInts.read {xs : List Int} (h : OwnInts w D a n xs) : IntsL w D a n xs := by
  refine ⟨h.1, fun hn => ?_⟩
  obtain ⟨b, N, f, rfl, hd, hN, hr, hc⟩ := h.2 hn
  exact ⟨b, 0, rfl, hd, fun i hi => by rw [Nat.zero_add, hr.cell (by omega), hc i hi]⟩
theorem OwnCons.ext {cs : List (List Int)} (h : OwnCons w D a n cs) (hx : Ext S w w') (hs : ∀ k, D k → ¬ S k) : OwnCons w' D a n cs := by
  refine ⟨h.1, fun hn => ?_⟩
  obtain ⟨b, N, f, rfl, hd, hN, hr, hc⟩ := h.2 hn
  refine ⟨b, N, f, rfl, hd, hN, row_ext hr hx (hs _ hd), fun i hi => ?_⟩
  obtain ⟨a', m, c, h1, h2, h3⟩ := hc i hi
  exact ⟨a', m, c, h1, h2, h3.ext hx hs⟩
theorem OwnCons.mono {cs : List (List Int)} (h : OwnCons w D a n cs) (hs : ∀ k, D k → D' k) : OwnCons w D' a n cs := by
  refine ⟨h.1, fun hn => ?_⟩
  obtain ⟨b, N, f, rfl, hd, hN, hr, hc⟩ := h.2 hn
  refine ⟨b, N, f, rfl, hs _ hd, hN, hr, fun i hi => ?_⟩
  obtain ⟨a', m, c, h1, h2, h3⟩ := hc i hi
  exact ⟨a', m, c, h1, h2, h3.mono hs⟩
theorem OwnCons.read {cs : List (List Int)} (h : OwnCons w D a n cs) : ConsR w D a n cs := by
  refine ⟨h.1, fun hn => ?_⟩
  obtain ⟨b, N, f, rfl, hd, hN, hr, hc⟩ := h.2 hn
  refine ⟨b, 0, rfl, hd, fun i hi => ?_⟩
  obtain ⟨a', m, c, h1, h2, h3⟩ := hc i hi
  exact ⟨a', m, c, by rw [Nat.zero_add, hr.cell (by omega), h1], h2, h3.read⟩
theorem OwnDecls.ext {ds : List DeclL} (h : OwnDecls w D a n ds) (hx : Ext S w w') (hs : ∀ k, D k → ¬ S k) : OwnDecls w' D a n ds := by
  refine ⟨h.1, fun hn => ?_⟩
  obtain ⟨b, N, f, rfl, hd, hN, hr, hc⟩ := h.2 hn
  refine ⟨b, N, f, rfl, hd, hN, row_ext hr hx (hs _ hd), fun i hi => ?_⟩
  obtain ⟨h0, h1, a', m, c, h2, h3, h4⟩ := hc i hi
  exact ⟨h0, h1, a', m, c, h2, h3, h4.ext hx hs⟩
theorem OwnDecls.mono {ds : List DeclL} (h : OwnDecls w D a n ds) (hs : ∀ k, D k → D' k) : OwnDecls w D' a n ds := by
  refine ⟨h.1, fun hn => ?_⟩
  obtain ⟨b, N, f, rfl, hd, hN, hr, hc⟩ := h.2 hn
  refine ⟨b, N, f, rfl, hs _ hd, hN, hr, fun i hi => ?_⟩
  obtain ⟨h0, h1, a', m, c, h2, h3, h4⟩ := hc i hi
  exact ⟨h0, h1, a', m, c, h2, h3, h4.mono hs⟩
theorem OwnDecls.read {ds : List DeclL} (h : OwnDecls w D a n ds) : DeclsR w D a n ds := by
  refine ⟨h.1, fun hn => ?_⟩
  obtain ⟨b, N, f, rfl, hd, hN, hr, hc⟩ := h.2 hn
  refine ⟨b, 0, rfl, hd, fun i hi => ?_⟩
  obtain ⟨h0, h1, a', m, c, h2, h3, h4⟩ := hc i hi
  exact ⟨by rw [Nat.zero_add, hr.cell (by omega), h0], by rw [Nat.zero_add, hr.cell (by omega), h1], a', m, c, by rw [Nat.zero_add, hr.cell (by omega), h2], h3, h4.read⟩
end
end Go.Proofs.Ythdjijhpdgajbaa
