/- Words on memory that all texts of this seat use: a frame relation between worlds, and slices of integers that can be read. -/
import Derived.Test.YtkapldpmjkdmcaaGreatRows
import Derived.WalkKit
import Derived.ProofKit
import Derived.Lib.Hide
import Derived.WalkSpells
import Derived.WalkLawsBesides
import Derived.Deep.QuietTactic
import Derived.BigQuiet
namespace Go.Proofs.YtkapldpmjkdmcaaGreat
open Go.RowKit

theorem calls_k {P : Program} {f : FuncId} {args : Array Value} {w : World} {R0 : Ending → World → Prop}
    (h : ∀ Q : Ending → World → Prop, Hid (Q = R0) → Calls P f args w Q) : Calls P f args w R0 := h R0 rfl
theorem fin_ {Q R0 : Ending → World → Prop} {e : Ending} {w : World} (h : Hid (Q = R0)) (h0 : R0 e w) : Q e w := by rw [h.out]; exact h0

theorem ret_i {a b : Int} (h : a = b) : Ending.returned (.int .i64 a) = .returned (.int .i64 b) := by rw [h]
theorem ret_b {a b : Bool} (h : a = b) : Ending.returned (.bool a) = .returned (.bool b) := by rw [h]

/-- From w to w' nothing that was there is changed but for the blocks of S. -/
structure Ext (S : Nat → Prop) (w w' : World) : Prop where
  os : w'.os = w.os
  tape : w'.tape = w.tape
  output : w'.output = w.output
  size : w.heap.size ≤ w'.heap.size
  block : ∀ k, k < w.heap.size → ¬ S k → w'.heap[k]? = w.heap[k]?

section
variable {S S' : Nat → Prop} {w w' w'' : World}
theorem Ext.refl (S : Nat → Prop) (w : World) : Ext S w w := ⟨rfl, rfl, rfl, Nat.le_refl _, fun _ _ _ => rfl⟩
theorem Ext.trans (h : Ext S w w') (k : Ext S w' w'') : Ext S w w'' :=
  ⟨k.os.trans h.os, k.tape.trans h.tape, k.output.trans h.output, Nat.le_trans h.size k.size,
    fun i hi hs => (k.block i (Nat.lt_of_lt_of_le hi h.size) hs).trans (h.block i hi hs)⟩
theorem Ext.mono (h : Ext S w w') (hs : ∀ k, k < w.heap.size → S k → S' k) : Ext S' w w' :=
  ⟨h.os, h.tape, h.output, h.size, fun k hk hn => h.block k hk fun h' => hn (hs k hk h')⟩
/-- A step behind another one: what it may change is new, or may be changed. -/
theorem Ext.then_ (h : Ext S w w') (k : Ext S' w' w'') (hs : ∀ i, i < w.heap.size → S' i → S i) : Ext S w w'' :=
  ⟨k.os.trans h.os, k.tape.trans h.tape, k.output.trans h.output, Nat.le_trans h.size k.size,
    fun i hi hn => (k.block i (Nat.lt_of_lt_of_le hi h.size) (fun h' => hn (hs i hi h'))).trans (h.block i hi hn)⟩
theorem Ext.drew (h : Ext S w w') : Ext S w w'.drew := ⟨h.os, h.tape, h.output, h.size, h.block⟩
theorem Ext.drewN (h : Ext S w w') (n : Nat) : Ext S w (w'.drewN n) := ⟨h.os, h.tape, h.output, h.size, h.block⟩
theorem Ext.alloc (h : Ext S w w') (o : Obj) : Ext S w (w'.alloc o) :=
  ⟨h.os, h.tape, h.output, by have := h.size; simp; omega, fun k hk hn => by
    rw [Below.heap_alloc _ _ _ (by have := h.size; omega)]; exact h.block k hk hn⟩
theorem Ext.setCell (h : Ext S w w') {p : Addr} (hp : w.heap.size ≤ p.block ∨ S p.block) (u : Value) : Ext S w (w'.setCell p u) :=
  ⟨h.os, h.tape, h.output, by simpa [World.setCell] using h.size, fun k hk hn => by
    rw [Below.heap_setCell _ _ _ _ (by rintro rfl; rcases hp with hp | hp; omega; exact hn hp)]; exact h.block k hk hn⟩
theorem Ext.grown {row : Option Nat} (h : Ext S w w') (hg : w'.grownBy w'' row) (hr : ∀ k, row = some k → w.heap.size ≤ k ∨ S k) : Ext S w w'' :=
  ⟨hg.os.trans h.os, hg.tape.trans h.tape, hg.output.trans h.output, Nat.le_trans h.size hg.size, fun k hk hn =>
    (hg.block k (Nat.lt_of_lt_of_le hk h.size) (fun e => by rcases hr k e.symm with h1 | h1; omega; exact hn h1)).trans (h.block k hk hn)⟩
theorem Ext.cell (h : Ext S w w') {p : Addr} (hp : p.block < w.heap.size) (hs : ¬ S p.block) : w'.cell? p = w.cell? p := World.cell?_of_block (h.block _ hp hs)
theorem Ext.frozen (h : Ext S w w') {p : Addr} (hp : p.block < w.heap.size) (hs : ¬ S p.block) : w'.frozen? p = w.frozen? p := World.frozen?_of_block (h.block _ hp hs)
theorem Ext.below (h : Ext S w w') {B : Nat} (hB : B ≤ w.heap.size) (hs : ∀ k, k < B → ¬ S k) : Below B w w' :=
  ⟨h.os, h.tape, h.output, h.size, fun k hk => h.block k (by omega) (hs k hk)⟩
theorem Ext.of_below (h : Below w.heap.size w w') : Ext S w w' := ⟨h.os, h.tape, h.output, h.size, fun k hk _ => h.block k hk⟩
end

/-- Nothing that was there is changed. -/
abbrev Keep (w w' : World) : Prop := Ext (fun _ => False) w w'
theorem Keep.to {S : Nat → Prop} {w w' : World} (h : Keep w w') : Ext S w w' := h.mono fun _ _ h => h.elim


/-- A slice of integers that can be read: element i is z i. -/
def IntsR (w : World) (a : Option Addr) (len : Nat) (z : Nat → Int) : Prop :=
  0 < len → ∃ x, a = some x ∧ x.block < w.heap.size ∧ ∀ i, i < len → w.cell? (x.add i) = some (.int .i64 (z i))
end Go.Proofs.YtkapldpmjkdmcaaGreat
