/- Words on memory that all texts of this seat use: a frame relation between worlds, and slices of integers that can be read. -/
import Derived.Test.YtaeddcnakilnlaaRows
import Derived.WalkKit
import Derived.ProofKit
import Derived.Lib.Hide
import Derived.WalkSpells
import Derived.WalkLawsBesides
import Derived.Deep.QuietTactic
import Derived.BigQuiet
import Derived.Deep.OwnRows
import Derived.Maps.AppendAt
import Derived.Deep.AppendLies
import Derived.RegionTactic
import Derived.OwnWalk
import Derived.Deep.RegionLaw
namespace Go.Proofs.Ytaeddcnakilnlaa
open Go.RowKit

theorem calls_k {P : Program} {f : FuncId} {args : Array Value} {w : World} {R0 : Ending → World → Prop}
    (h : ∀ Q : Ending → World → Prop, Hid (Q = R0) → Calls P f args w Q) : Calls P f args w R0 := h R0 rfl
theorem fin_ {Q R0 : Ending → World → Prop} {e : Ending} {w : World} (h : Hid (Q = R0)) (h0 : R0 e w) : Q e w := by rw [h.out]; exact h0

theorem ret_i {a b : Int} (h : a = b) : Ending.returned (.int .i64 a) = .returned (.int .i64 b) := by rw [h]
theorem ret_b {a b : Bool} (h : a = b) : Ending.returned (.bool a) = .returned (.bool b) := by rw [h]

/-- From w to w' nothing that was there is changed but for the blocks of S. -/
structure Ext (S : Nat → Prop) (w w' : World) : Prop where
  os : w'.os = w.os
  tape : w'.tape = w.tape
  output : w'.output = w.output
  size : w.heap.size ≤ w'.heap.size
  block : ∀ k, k < w.heap.size → ¬ S k → w'.heap[k]? = w.heap[k]?

section
variable {S S' : Nat → Prop} {w w' w'' : World}
theorem Ext.refl (S : Nat → Prop) (w : World) : Ext S w w := ⟨rfl, rfl, rfl, Nat.le_refl _, fun _ _ _ => rfl⟩
theorem Ext.trans (h : Ext S w w') (k : Ext S w' w'') : Ext S w w'' :=
  ⟨k.os.trans h.os, k.tape.trans h.tape, k.output.trans h.output, Nat.le_trans h.size k.size,
    fun i hi hs => (k.block i (Nat.lt_of_lt_of_le hi h.size) hs).trans (h.block i hi hs)⟩
theorem Ext.mono (h : Ext S w w') (hs : ∀ k, k < w.heap.size → S k → S' k) : Ext S' w w' :=
  ⟨h.os, h.tape, h.output, h.size, fun k hk hn => h.block k hk fun h' => hn (hs k hk h')⟩
/-- A step behind another one: what it may change is new, or may be changed. -/
theorem Ext.then_ (h : Ext S w w') (k : Ext S' w' w'') (hs : ∀ i, i < w.heap.size → S' i → S i) : Ext S w w'' :=
  ⟨k.os.trans h.os, k.tape.trans h.tape, k.output.trans h.output, Nat.le_trans h.size k.size,
    fun i hi hn => (k.block i (Nat.lt_of_lt_of_le hi h.size) (fun h' => hn (hs i hi h'))).trans (h.block i hi hn)⟩
theorem Ext.drew (h : Ext S w w') : Ext S w w'.drew := ⟨h.os, h.tape, h.output, h.size, h.block⟩
theorem Ext.drewN (h : Ext S w w') (n : Nat) : Ext S w (w'.drewN n) := ⟨h.os, h.tape, h.output, h.size, h.block⟩
theorem Ext.alloc (h : Ext S w w') (o : Obj) : Ext S w (w'.alloc o) :=
  ⟨h.os, h.tape, h.output, by have := h.size; simp; omega, fun k hk hn => by
    rw [Below.heap_alloc _ _ _ (by have := h.size; omega)]; exact h.block k hk hn⟩
theorem Ext.setCell (h : Ext S w w') {p : Addr} (hp : w.heap.size ≤ p.block ∨ S p.block) (u : Value) : Ext S w (w'.setCell p u) :=
  ⟨h.os, h.tape, h.output, by simpa [World.setCell] using h.size, fun k hk hn => by
    rw [Below.heap_setCell _ _ _ _ (by rintro rfl; rcases hp with hp | hp; · omega
                                       exact hn hp)]; exact h.block k hk hn⟩
theorem Ext.grown {row : Option Nat} (h : Ext S w w') (hg : w'.grownBy w'' row) (hr : ∀ k, row = some k → w.heap.size ≤ k ∨ S k) : Ext S w w'' :=
  ⟨hg.os.trans h.os, hg.tape.trans h.tape, hg.output.trans h.output, Nat.le_trans h.size hg.size, fun k hk hn =>
    (hg.block k (Nat.lt_of_lt_of_le hk h.size) (fun e => by rcases hr k e.symm with h1 | h1; · omega
                                                            exact hn h1)).trans (h.block k hk hn)⟩
theorem Ext.cell (h : Ext S w w') {p : Addr} (hp : p.block < w.heap.size) (hs : ¬ S p.block) : w'.cell? p = w.cell? p := World.cell?_of_block (h.block _ hp hs)
theorem Ext.frozen (h : Ext S w w') {p : Addr} (hp : p.block < w.heap.size) (hs : ¬ S p.block) : w'.frozen? p = w.frozen? p := World.frozen?_of_block (h.block _ hp hs)
theorem Ext.below (h : Ext S w w') {B : Nat} (hB : B ≤ w.heap.size) (hs : ∀ k, k < B → ¬ S k) : Below B w w' :=
  ⟨h.os, h.tape, h.output, h.size, fun k hk => h.block k (by omega) (hs k hk)⟩
theorem Ext.of_below (h : Below w.heap.size w w') : Ext S w w' := ⟨h.os, h.tape, h.output, h.size, fun k hk _ => h.block k hk⟩
end

/-- Nothing that was there is changed. -/
abbrev Keep (w w' : World) : Prop := Ext (fun _ => False) w w'
theorem Keep.to {S : Nat → Prop} {w w' : World} (h : Keep w w') : Ext S w w' := h.mono fun _ _ h => h.elim

theorem block_add (a : Addr) (n : Nat) : (a.add n).block = a.block := by unfold Addr.add; split <;> rfl
/-- A slice of integers that can be read: element i is z i. -/
def IntsR (w : World) (a : Option Addr) (len : Nat) (z : Nat → Int) : Prop :=
  0 < len → ∃ x, a = some x ∧ x.block < w.heap.size ∧ ∀ i, i < len → w.cell? (x.add i) = some (.int .i64 (z i))
end Go.Proofs.Ytaeddcnakilnlaa
/- Data in memory, whatever its type: trees of integers and slices; reading them, owning them, writing into them. -/
namespace Go.Proofs.Ytaeddcnakilnlaa
open Go.RowKit

/-- A datum: an integer, or a slice of elements of s cells each. -/
inductive Dat where
  | num (z : Int)
  | arr (s : Nat) (rows : List (List Dat))

def dGet (r : List Dat) (j : Nat) : Dat := r.getD j (.num 0)
def rGet (rows : List (List Dat)) (i : Nat) : List Dat := rows.getD i []
def rAt (rows : List (List Dat)) (i j : Nat) : Dat := dGet (rGet rows i) j
/-- Cell (i, j) is another datum. -/
def upd (rows : List (List Dat)) (i j : Nat) (d : Dat) : List (List Dat) := rows.set i ((rGet rows i).set j d)

theorem rGet_lt {rows : List (List Dat)} {i : Nat} (h : i < rows.length) : rGet rows i = rows[i] := by simp [rGet, List.getD, h]
theorem upd_len {rows : List (List Dat)} {i j : Nat} {d : Dat} : (upd rows i j d).length = rows.length := by simp [upd]
theorem rGet_set {rows : List (List Dat)} {i k : Nat} {r : List Dat} (h : i < rows.length) : rGet (rows.set i r) k = if k = i then r else rGet rows k := by
  by_cases e : k = i
  · subst e; simp [rGet, List.getD, h]
  · rw [if_neg e]; simp [rGet, List.getD, List.getElem?_set_ne (fun h => e h.symm)]
theorem dGet_set {r : List Dat} {i k : Nat} {d : Dat} (h : i < r.length) : dGet (r.set i d) k = if k = i then d else dGet r k := by
  by_cases e : k = i
  · subst e; simp [dGet, List.getD, h]
  · rw [if_neg e]; simp [dGet, List.getD, List.getElem?_set_ne (fun h => e h.symm)]
theorem rGet_upd {rows : List (List Dat)} {i j k : Nat} {d : Dat} (h : i < rows.length) : rGet (upd rows i j d) k = if k = i then (rGet rows i).set j d else rGet rows k := rGet_set h
theorem rAt_upd {rows : List (List Dat)} {i j k l : Nat} {d : Dat} (h : i < rows.length) (hj : j < (rGet rows i).length) : rAt (upd rows i j d) k l = if k = i ∧ l = j then d else rAt rows k l := by
  unfold rAt
  rw [rGet_upd h]
  by_cases e : k = i
  · subst e
    rw [if_pos rfl, dGet_set hj]
    by_cases e2 : l = j <;> simp [e2]
  · rw [if_neg e, if_neg (fun h => e h.1)]
theorem rGet_map {α : Type} (f : α → List Dat) (l : List α) (i : Nat) (h : i < l.length) : rGet (l.map f) i = f l[i] := by rw [rGet_lt (by simpa using h)]; simp

/-- The value v reads as the datum d; what it reads lies in blocks of D. -/
inductive Rd (w : World) (D : Nat → Prop) : Dat → Value → Prop where
  | num (z : Int) : Rd w D (.num z) (.int .i64 z)
  | nil (s : Nat) (a : Option Addr) (c : Nat) : Rd w D (.arr s []) (.slice a 0 c)
  | arr (s : Nat) (rows : List (List Dat)) (b o c : Nat) (vs : Nat → Nat → Value) (hD : D b) (h0 : 0 < rows.length) (hs0 : 0 < s) (hc : rows.length ≤ c) (hm : rows.length ≤ 9223372036854775807)
      (hs : ∀ i, i < rows.length → (rGet rows i).length = s)
      (hcell : ∀ i j, i < rows.length → j < s → w.cell? ⟨b, o + i * s + j, none⟩ = some (vs i j))
      (hr : ∀ i j, i < rows.length → j < s → Rd w D (rAt rows i j) (vs i j)) : Rd w D (.arr s rows) (.slice (some ⟨b, o, none⟩) rows.length c)

section
variable {S D D' : Nat → Prop} {w w' : World} {d : Dat} {v : Value}
theorem Rd.ext (h : Rd w D d v) (hx : Ext S w w') (hs : ∀ k, D k → ¬ S k) : Rd w' D d v := by
  induction h with
  | num z => exact .num z
  | nil s a c => exact .nil s a c
  | arr s rows b o c vs hD h0 hs0 hc hm hs' hcell hr ih =>
    exact .arr s rows b o c vs hD h0 hs0 hc hm hs' (fun i j hi hj => (hx.cell (World.block_lt_of_cell? w _ (hcell i j hi hj)) (hs _ hD)).trans (hcell i j hi hj)) ih
theorem Rd.mono (h : Rd w D d v) (hs : ∀ k, D k → D' k) : Rd w D' d v := by
  induction h with
  | num z => exact .num z
  | nil s a c => exact .nil s a c
  | arr s rows b o c vs hD h0 hs0 hc hm hs' hcell hr ih => exact .arr s rows b o c vs (hs _ hD) h0 hs0 hc hm hs' hcell ih
theorem Rd.lt (h : Rd w D d v) : Rd w (fun k => D k ∧ k < w.heap.size) d v := by
  induction h with
  | num z => exact .num z
  | nil s a c => exact .nil s a c
  | arr s rows b o c vs hD h0 hs0 hc hm hs' hcell hr ih =>
    exact .arr s rows b o c vs ⟨hD, World.block_lt_of_cell? w _ (hcell 0 0 h0 hs0)⟩ h0 hs0 hc hm hs' hcell ih
theorem Rd.num_inv {z : Int} (h : Rd w D (.num z) v) : v = .int .i64 z := by cases h; rfl
/-- A slice that can be read: its length, and where its cells lie. -/
theorem Rd.arr_inv {s : Nat} {rows : List (List Dat)} (h : Rd w D (.arr s rows) v) : ∃ a c, v = .slice a rows.length c ∧ rows.length ≤ c ∧ rows.length ≤ 9223372036854775807 ∧
    (0 < rows.length → ∃ b o, a = some ⟨b, o, none⟩ ∧ D b ∧ ∀ i, i < rows.length → (rGet rows i).length = s ∧ ∀ j, j < s → ∃ u, w.cell? ⟨b, o + i * s + j, none⟩ = some u ∧ Rd w D (rAt rows i j) u) := by
  cases h with
  | nil s a c => exact ⟨a, c, rfl, Nat.zero_le _, by simp, fun h => absurd h (by simp)⟩
  | arr s rows b o c vs hD h0 hs0 hc hm hs hcell hr =>
    exact ⟨_, c, rfl, hc, hm, fun _ => ⟨b, o, rfl, hD, fun i hi => ⟨hs i hi, fun j hj => ⟨_, hcell i j hi hj, hr i j hi hj⟩⟩⟩⟩

/-- The value v holds the datum d in rows of the call's own: the set of these rows' blocks is D, and no two slices share one. -/
inductive Own (w : World) : (Nat → Prop) → Dat → Value → Prop where
  | num (D : Nat → Prop) (z : Int) : Own w D (.num z) (.int .i64 z)
  | nil (D : Nat → Prop) (s : Nat) (a : Option Addr) (c : Nat) : Own w D (.arr s []) (.slice a 0 c)
  | arr (D : Nat → Prop) (E : Nat → Nat → Nat → Prop) (s : Nat) (rows : List (List Dat)) (b c : Nat) (T : TypeId) (N : Nat) (f : Nat → Value) (hD : D b) (h0 : 0 < rows.length) (hs0 : 0 < s) (hc : rows.length ≤ c) (hm : rows.length ≤ 9223372036854775807)
      (hs : ∀ i, i < rows.length → (rGet rows i).length = s) (hN : rows.length * s ≤ N) (hrow : w.rowIs b T N f)
      (hE : ∀ i j k, i < rows.length → j < s → E i j k → D k ∧ k ≠ b)
      (hdis : ∀ i j i' j' k, i < rows.length → j < s → i' < rows.length → j' < s → E i j k → E i' j' k → i = i' ∧ j = j')
      (hr : ∀ i j, i < rows.length → j < s → Own w (E i j) (rAt rows i j) (f (i * s + j))) : Own w D (.arr s rows) (.slice (some ⟨b, 0, none⟩) rows.length c)

theorem Own.mono (h : Own w D d v) (hs : ∀ k, D k → D' k) : Own w D' d v := by
  cases h with
  | num D z => exact .num _ z
  | nil D s a c => exact .nil _ s a c
  | arr D E s rows b c T N f hD h0 hs0 hc hm hs' hN hrow hE hdis hr => exact .arr D' E s rows b c T N f (hs _ hD) h0 hs0 hc hm hs' hN hrow (fun i j k hi hj hk => ⟨hs _ (hE i j k hi hj hk).1, (hE i j k hi hj hk).2⟩) hdis hr
theorem Own.ext (h : Own w D d v) (hx : Ext S w w') (hs : ∀ k, D k → ¬ S k) : Own w' D d v := by
  induction h with
  | num D z => exact .num _ z
  | nil D s a c => exact .nil _ s a c
  | arr D E s rows b c T N f hD h0 hs0 hc hm hs' hN hrow hE hdis hr ih =>
    exact .arr D E s rows b c T N f hD h0 hs0 hc hm hs' hN (hrow.of_block (hx.block b hrow.lt (hs _ hD))) hE hdis (fun i j hi hj => ih i j hi hj (fun k hk => hs k (hE i j k hi hj hk).1))
theorem Own.read (h : Own w D d v) : Rd w D d v := by
  induction h with
  | num D z => exact .num z
  | nil D s a c => exact .nil s a c
  | arr D E s rows b c T N f hD h0 hs0 hc hm hs' hN hrow hE hdis hr ih =>
    refine .arr s rows b 0 c (fun i j => f (i * s + j)) hD h0 hs0 hc hm hs' (fun i j hi hj => ?_) (fun i j hi hj => (ih i j hi hj).mono fun k hk => (hE i j k hi hj hk).1)
    rw [Nat.zero_add]
    refine hrow.cell (Nat.lt_of_lt_of_le ?_ hN)
    calc i * s + j < i * s + s := by omega
      _ = (i + 1) * s := by rw [Nat.succ_mul]
      _ ≤ rows.length * s := Nat.mul_le_mul_right s hi
theorem Own.lt (h : Own w D d v) : Own w (fun k => D k ∧ k < w.heap.size) d v := by
  induction h with
  | num D z => exact .num _ z
  | nil D s a c => exact .nil _ s a c
  | arr D E s rows b c T N f hD h0 hs0 hc hm hs' hN hrow hE hdis hr ih =>
    exact .arr _ (fun i j k => E i j k ∧ k < w.heap.size) s rows b c T N f ⟨hD, hrow.lt⟩ h0 hs0 hc hm hs' hN hrow (fun i j k hi hj hk => ⟨⟨(hE i j k hi hj hk.1).1, hk.2⟩, (hE i j k hi hj hk.1).2⟩) (fun i j i' j' k a1 a2 a3 a4 a5 a6 => hdis i j i' j' k a1 a2 a3 a4 a5.1 a6.1) ih

theorem idx_lt {i j n s : Nat} (hi : i < n) (hj : j < s) : i * s + j < n * s :=
  calc i * s + j < i * s + s := by omega
    _ = (i + 1) * s := by rw [Nat.succ_mul]
    _ ≤ n * s := Nat.mul_le_mul_right s hi
theorem idx_inj {i j i' j' s : Nat} (hj : j < s) (hj' : j' < s) (h : i * s + j = i' * s + j') : i = i' ∧ j = j' := by
  have h1 : (i * s + j) / s = i := by rw [Nat.mul_comm, Nat.mul_add_div (by omega), Nat.div_eq_of_lt hj, Nat.add_zero]
  have h2 : (i' * s + j') / s = i' := by rw [Nat.mul_comm, Nat.mul_add_div (by omega), Nat.div_eq_of_lt hj', Nat.add_zero]
  have h3 : (i * s + j) % s = j := by rw [Nat.mul_comm, Nat.mul_add_mod, Nat.mod_eq_of_lt hj]
  have h4 : (i' * s + j') % s = j' := by rw [Nat.mul_comm, Nat.mul_add_mod, Nat.mod_eq_of_lt hj']
  rw [h] at h1 h3
  exact ⟨h1.symm.trans h2, h3.symm.trans h4⟩

/-! ### Rows that grow by append -/

/-- The slice v, that grows by append, holds n elements; its own row lies from base on, all else that it leads to lies in blocks of D. -/
def Acc (w : World) (base : Nat) (D : Nat → Prop) (T : TypeId) (s : Nat) (v : Value) (rows : List (List Dat)) : Prop :=
  ∃ (xs : List Value) (E : Nat → Nat → Nat → Prop), w.ownsRow base T s v rows.length xs ∧ (∀ i, i < rows.length → (rGet rows i).length = s) ∧
    (∀ i j k, i < rows.length → j < s → E i j k → D k ∧ k < w.heap.size ∧ v.ownBlock ≠ some k) ∧
    (∀ i j i' j' k, i < rows.length → j < s → i' < rows.length → j' < s → E i j k → E i' j' k → i = i' ∧ j = j') ∧
    ∀ i j, i < rows.length → j < s → ∃ u, xs[i * s + j]? = some u ∧ Own w (E i j) (rAt rows i j) u

theorem Acc.nil (w : World) (base : Nat) (D : Nat → Prop) (T : TypeId) (s : Nat) : Acc w base D T s (.slice none 0 0) [] :=
  ⟨[], fun _ _ _ => False, World.ownsRow_nil w base T s, by simp, by simp, by simp, by simp⟩
theorem Acc.mono {base : Nat} {T : TypeId} {s : Nat} {rows : List (List Dat)} (h : Acc w base D T s v rows) (hs : ∀ k, D k → D' k) : Acc w base D' T s v rows := by
  obtain ⟨xs, E, h1, h2, h3, h4, h5⟩ := h
  exact ⟨xs, E, h1, h2, fun i j k hi hj hk => ⟨hs _ (h3 i j k hi hj hk).1, (h3 i j k hi hj hk).2⟩, h4, h5⟩
theorem Acc.ext {base : Nat} {T : TypeId} {s : Nat} {rows : List (List Dat)} (h : Acc w base D T s v rows) (hx : Ext S w w') (hs : ∀ k, k < w.heap.size → (D k ∨ base ≤ k) → ¬ S k) : Acc w' base D T s v rows := by
  obtain ⟨xs, E, h1, h2, h3, h4, h5⟩ := h
  refine ⟨xs, E, ⟨h1.1, ?_⟩, h2, fun i j k hi hj hk => ⟨(h3 i j k hi hj hk).1, Nat.lt_of_lt_of_le (h3 i j k hi hj hk).2.1 hx.size, (h3 i j k hi hj hk).2.2⟩, h4, fun i j hi hj => ?_⟩
  · rcases h1.2 with h | ⟨g, cap, cur, e, hb, hg, rest⟩
    · exact .inl h
    · have hlt : g < w.heap.size := (Array.getElem?_eq_some_iff.1 hg).1
      exact .inr ⟨g, cap, cur, e, hb, (hx.block g hlt (hs g hlt (.inr hb))).trans hg, rest⟩
  · obtain ⟨u, hu, ho⟩ := h5 i j hi hj
    exact ⟨u, hu, ho.ext hx (fun k hk => hs k (h3 i j k hi hj hk).2.1 (.inl (h3 i j k hi hj hk).1))⟩
theorem Acc.keep {base : Nat} {T : TypeId} {s : Nat} {rows : List (List Dat)} (h : Acc w base D T s v rows) (hx : Keep w w') : Acc w' base D T s v rows := h.ext hx (fun _ _ _ h => h)

/-- What has grown by append, as a slice of the call's own. -/
theorem Acc.own {base : Nat} {T : TypeId} {s : Nat} {rows : List (List Dat)} (h : Acc w base D T s v rows) (hs0 : 0 < s) (hm : rows.length ≤ 9223372036854775807) :
    ∃ a c, v = .slice a rows.length c ∧ rows.length ≤ c ∧ Own w (fun k => D k ∨ base ≤ k) (.arr s rows) v := by
  obtain ⟨xs, E, h1, h2, h3, h4, h5⟩ := h
  rcases h1.2 with ⟨e, h0⟩ | ⟨g, cap, cur, e, hb, hg, hnc, _, hsz, htake⟩
  · have : rows = [] := List.eq_nil_of_length_eq_zero h0
    subst this
    subst e
    exact ⟨none, 0, rfl, Nat.le_refl _, .nil _ _ _ _⟩
  · subst e
    refine ⟨_, cap, rfl, hnc, ?_⟩
    rcases Nat.eq_zero_or_pos rows.length with h0 | h0
    · have : rows = [] := List.eq_nil_of_length_eq_zero h0
      subst this
      exact .nil _ _ _ _
    refine .arr _ E s rows g cap T (cap * s) (fun i => cur.getD i undef) (.inr hb) h0 hs0 hnc hm h2 (Nat.mul_le_mul_right s hnc) ⟨cur, hg, hsz, fun i hi => ?_⟩ (fun i j k hi hj hk => ⟨.inl (h3 i j k hi hj hk).1, fun e => (h3 i j k hi hj hk).2.2 (by rw [e]; rfl)⟩) h4 (fun i j hi hj => ?_)
    · simp [Array.getD, show i < cur.size by omega]
    · obtain ⟨u, hu, ho⟩ := h5 i j hi hj
      have hlt := idx_lt hi hj
      have hlt2 : i * s + j < cur.size := by rw [hsz]; exact Nat.lt_of_lt_of_le hlt (Nat.mul_le_mul_right s hnc)
      rw [← htake, List.getElem?_take, if_pos hlt, Array.getElem?_toList, Array.getElem?_eq_getElem hlt2] at hu
      have : cur.getD (i * s + j) undef = u := by simp [Array.getD, hlt2]; simpa using hu
      rw [this]; exact ho

/-- Behind an append of one element, whose cells hold the data r. -/
theorem Acc.push {base : Nat} {T : TypeId} {s : Nat} {rows : List (List Dat)} {v' : Value} {r : List Dat} {news : List Value} {D2 : Nat → Nat → Prop} (h : Acc w base D T s v rows)
    (hr : r.length = s) (hn : news.length = s) (hnew : ∀ j u, news[j]? = some u → Own w (D2 j) (dGet r j) u)
    (hD2 : ∀ j k, j < s → D2 j k → D' k ∧ ¬ D k ∧ v.ownBlock ≠ some k ∧ k < w.heap.size) (hdis : ∀ j j' k, j < s → j' < s → D2 j k → D2 j' k → j = j') (hD : ∀ k, D k → D' k)
    (hown' : ∀ xs, w.ownsRow base T s v rows.length xs → w'.ownsRow base T s v' (rows.length + 1) (xs ++ news)) (hg : w.grownBy w' v.ownBlock) (hv : v'.ownBlock = v.ownBlock ∨ v'.ownBlock = some w.heap.size) : Acc w' base D' T s v' (rows ++ [r]) := by
  obtain ⟨xs, E, h1, h2, h3, h4, h5⟩ := h
  have hl : xs.length = rows.length * s := h1.1
  have hx : Ext (fun k => v.ownBlock = some k) w w' := ⟨hg.os, hg.tape, hg.output, hg.size, fun k hk hn => hg.block k hk (fun e => hn e.symm)⟩
  have hblk : ∀ k, k < w.heap.size → v.ownBlock ≠ some k → v'.ownBlock ≠ some k := by
    intro k hk hne
    rcases hv with e | e
    · rw [e]; exact hne
    · rw [e]; intro h; injection h with h; omega
  have hlen : (rows ++ [r]).length = rows.length + 1 := by simp
  have hrg : ∀ i, i < rows.length → rGet (rows ++ [r]) i = rGet rows i := by intro i hi; simp [rGet, List.getD, List.getElem?_append_left hi]
  have hrl : rGet (rows ++ [r]) rows.length = r := by simp [rGet, List.getD]
  refine ⟨xs ++ news, fun i j => if i = rows.length then D2 j else E i j, by rw [hlen]; exact hown' xs h1, ?_, ?_, ?_, ?_⟩
  · intro i hi
    rw [hlen] at hi
    by_cases e : i = rows.length
    · rw [e, hrl, hr]
    · rw [hrg i (by omega), h2 i (by omega)]
  · intro i j k hi hj hk
    rw [hlen] at hi
    by_cases e : i = rows.length
    · rw [if_pos e] at hk
      obtain ⟨q1, q2, q3, q4⟩ := hD2 j k hj hk
      exact ⟨q1, Nat.lt_of_lt_of_le q4 hg.size, hblk k q4 q3⟩
    · rw [if_neg e] at hk
      obtain ⟨q1, q2, q3⟩ := h3 i j k (by omega) hj hk
      exact ⟨hD _ q1, Nat.lt_of_lt_of_le q2 hg.size, hblk k q2 q3⟩
  · intro i j i' j' k hi hj hi' hj' hk hk'
    rw [hlen] at hi hi'
    by_cases e : i = rows.length <;> by_cases e' : i' = rows.length
    · rw [if_pos e] at hk; rw [if_pos e'] at hk'
      exact ⟨by omega, hdis j j' k hj hj' hk hk'⟩
    · rw [if_pos e] at hk; rw [if_neg e'] at hk'
      exact absurd (h3 i' j' k (by omega) hj' hk').1 (hD2 j k hj hk).2.1
    · rw [if_neg e] at hk; rw [if_pos e'] at hk'
      exact absurd (h3 i j k (by omega) hj hk).1 (hD2 j' k hj' hk').2.1
    · rw [if_neg e] at hk; rw [if_neg e'] at hk'
      exact h4 i j i' j' k (by omega) hj (by omega) hj' hk hk'
  · intro i j hi hj
    rw [hlen] at hi
    by_cases e : i = rows.length
    · subst e
      rw [List.getElem?_append_right (by rw [hl]; omega), hl, show rows.length * s + j - rows.length * s = j by omega]
      have hjn : j < news.length := by omega
      refine ⟨news[j], List.getElem?_eq_getElem hjn, ?_⟩
      show Own w' (if rows.length = rows.length then D2 j else E rows.length j) _ _
      rw [if_pos rfl, rAt, hrl]
      exact (hnew j _ (List.getElem?_eq_getElem hjn)).ext hx (fun k hk h => (hD2 j k hj hk).2.2.1 h)
    · obtain ⟨u, hu, ho⟩ := h5 i j (by omega) hj
      refine ⟨u, ?_, ?_⟩
      · rw [List.getElem?_append_left (by rw [hl]; exact idx_lt (by omega) hj)]; exact hu
      · show Own w' (if i = rows.length then D2 j else E i j) _ _
        rw [if_neg e, rAt, hrg i (by omega)]
        exact ho.ext hx (fun k hk h => (h3 i j k (by omega) hj hk).2.2 h)
end
end Go.Proofs.Ytaeddcnakilnlaa
/- Plain functions on data: how many elements, how many integers, the marks. -/
namespace Go.Proofs.Ytaeddcnakilnlaa
open Go.RowKit

mutual
/-- How many elements all slices have. -/
def szD : Dat → Nat
  | .num _ => 0
  | .arr _ rows => rows.length + szRR rows
def szRR : List (List Dat) → Nat
  | [] => 0
  | r :: rs => szR r + szRR rs
def szR : List Dat → Nat
  | [] => 0
  | d :: ds => szD d + szR ds
end
mutual
/-- How many integers there are. -/
def cntD : Dat → Nat
  | .num _ => 1
  | .arr _ rows => cntRR rows
def cntRR : List (List Dat) → Nat
  | [] => 0
  | r :: rs => cntR r + cntRR rs
def cntR : List Dat → Nat
  | [] => 0
  | d :: ds => cntD d + cntR ds
end
mutual
/-- A bound for recursion. -/
def volD : Dat → Nat
  | .num _ => 1
  | .arr _ rows => 1 + volRR rows
def volRR : List (List Dat) → Nat
  | [] => 0
  | r :: rs => volR r + volRR rs
def volR : List Dat → Nat
  | [] => 0
  | d :: ds => volD d + volR ds
end
mutual
/-- The integers are k, k + 1, and so on. -/
def mkD : Dat → Int → Dat
  | .num _, k => .num k
  | .arr s rows, k => .arr s (mkRR rows k)
def mkRR : List (List Dat) → Int → List (List Dat)
  | [], _ => []
  | r :: rs, k => mkR r k :: mkRR rs (k + (cntR r : Int))
def mkR : List Dat → Int → List Dat
  | [], _ => []
  | d :: ds, k => mkD d k :: mkR ds (k + (cntD d : Int))
end

/-- Rows of at most s cells: the integers are bounded by the elements. -/
def RowsFit : Nat → Prop := fun _ => True

/-- The rows are marked up to j. -/
def mkTo (rows : List (List Dat)) (k : Int) (j : Nat) : List (List Dat) := (mkRR rows k).take j ++ rows.drop j
end Go.Proofs.Ytaeddcnakilnlaa
/- Declarations that can be read in memory: integers, constructors, declarations; what keeps them readable. -/
namespace Go.Proofs.Ytaeddcnakilnlaa
open Go.RowKit

def iAt (xs : List Int) (i : Nat) : Int := xs.getD i 0
def cAt (cs : List (List Int)) (i : Nat) : List Int := cs.getD i []

/-- A slice of integers that reads as xs; what it reads lies in blocks of D. -/
def IntsL (w : World) (D : Nat → Prop) (a : Option Addr) (n : Nat) (xs : List Int) : Prop :=
  xs.length = n ∧ (0 < n → ∃ b o, a = some ⟨b, o, none⟩ ∧ D b ∧ ∀ i, i < n → w.cell? ⟨b, o + i, none⟩ = some (.int .i64 (iAt xs i)))

/-- A slice of constructors that reads as the lists of their fields. -/
def ConsR (w : World) (D : Nat → Prop) (a : Option Addr) (n : Nat) (cs : List (List Int)) : Prop :=
  cs.length = n ∧ (0 < n → ∃ b o, a = some ⟨b, o, none⟩ ∧ D b ∧ ∀ i, i < n → ∃ a' m c, w.cell? ⟨b, o + i, none⟩ = some (.slice a' m c) ∧ m ≤ c ∧ IntsL w D a' m (cAt cs i))

structure DeclL where
  from_ : Int
  to_ : Int
  cons : List (List Int)
instance : Inhabited DeclL := ⟨⟨0, 0, []⟩⟩

def dAt (ds : List DeclL) (i : Nat) : DeclL := ds.getD i default

/-- A slice of declarations. -/
def DeclsR (w : World) (D : Nat → Prop) (a : Option Addr) (n : Nat) (ds : List DeclL) : Prop :=
  ds.length = n ∧ (0 < n → ∃ b o, a = some ⟨b, o, none⟩ ∧ D b ∧ ∀ i, i < n →
    w.cell? ⟨b, o + i * 3, none⟩ = some (.int .i64 (dAt ds i).from_) ∧ w.cell? ⟨b, o + i * 3 + 1, none⟩ = some (.int .i64 (dAt ds i).to_) ∧
    ∃ a' m c, w.cell? ⟨b, o + i * 3 + 2, none⟩ = some (.slice a' m c) ∧ m ≤ c ∧ ConsR w D a' m (dAt ds i).cons)

section
variable {S D D' : Nat → Prop} {w w' : World}
theorem IntsL.ext {a : Option Addr} {n : Nat} {xs : List Int} (h : IntsL w D a n xs) (hx : Ext S w w') (hs : ∀ k, D k → ¬ S k) : IntsL w' D a n xs := by
  refine ⟨h.1, fun hn => ?_⟩
  obtain ⟨b, o, rfl, hd, hc⟩ := h.2 hn
  refine ⟨b, o, rfl, hd, fun i hi => ?_⟩
  have hb := World.block_lt_of_cell? w _ (hc i hi)
  exact (hx.cell hb (hs _ hd)).trans (hc i hi)
theorem IntsL.mono {a : Option Addr} {n : Nat} {xs : List Int} (h : IntsL w D a n xs) (hs : ∀ k, D k → D' k) : IntsL w D' a n xs := by
  refine ⟨h.1, fun hn => ?_⟩
  obtain ⟨b, o, rfl, hd, hc⟩ := h.2 hn
  exact ⟨b, o, rfl, hs _ hd, hc⟩
theorem ConsR.ext {a : Option Addr} {n : Nat} {cs : List (List Int)} (h : ConsR w D a n cs) (hx : Ext S w w') (hs : ∀ k, D k → ¬ S k) : ConsR w' D a n cs := by
  refine ⟨h.1, fun hn => ?_⟩
  obtain ⟨b, o, rfl, hd, hc⟩ := h.2 hn
  refine ⟨b, o, rfl, hd, fun i hi => ?_⟩
  obtain ⟨a', m, c, h1, h2, h3⟩ := hc i hi
  have hb := World.block_lt_of_cell? w _ h1
  exact ⟨a', m, c, (hx.cell hb (hs _ hd)).trans h1, h2, h3.ext hx hs⟩
theorem DeclsR.ext {a : Option Addr} {n : Nat} {ds : List DeclL} (h : DeclsR w D a n ds) (hx : Ext S w w') (hs : ∀ k, D k → ¬ S k) : DeclsR w' D a n ds := by
  refine ⟨h.1, fun hn => ?_⟩
  obtain ⟨b, o, rfl, hd, hc⟩ := h.2 hn
  refine ⟨b, o, rfl, hd, fun i hi => ?_⟩
  obtain ⟨h1, h2, a', m, c, h3, h4, h5⟩ := hc i hi
  have hb1 := World.block_lt_of_cell? w _ h1
  have hb2 := World.block_lt_of_cell? w _ h2
  have hb3 := World.block_lt_of_cell? w _ h3
  exact ⟨(hx.cell hb1 (hs _ hd)).trans h1, (hx.cell hb2 (hs _ hd)).trans h2,
    a', m, c, (hx.cell hb3 (hs _ hd)).trans h3, h4, h5.ext hx hs⟩
theorem IntsL.drewN {a : Option Addr} {n : Nat} {xs : List Int} (h : IntsL w D a n xs) (q : Nat) : IntsL (w.drewN q) D a n xs := h
theorem DeclsR.drewN {a : Option Addr} {n : Nat} {ds : List DeclL} (h : DeclsR w D a n ds) (q : Nat) : DeclsR (w.drewN q) D a n ds := h.ext ((Ext.refl (fun _ => False) w).drewN q) (fun _ _ h => h)
end
end Go.Proofs.Ytaeddcnakilnlaa
/- Typed data: integers, constructors, declarations, expressions, functions, steps, blocks, routines; how they lie in memory. -/
namespace Go.Proofs.Ytaeddcnakilnlaa
open Go.RowKit

def rowI (x : Int) : List Dat := [.num x]
def encInts (xs : List Int) : Dat := .arr 1 (xs.map rowI)
def rowC (f : List Int) : List Dat := [encInts f]
def encCons (cs : List (List Int)) : Dat := .arr 1 (cs.map rowC)
def rowD (d : DeclL) : List Dat := [.num d.from_, .num d.to_, encCons d.cons]
def encDecls (ds : List DeclL) : Dat := .arr 3 (ds.map rowD)

/-- An expression. -/
inductive ExprL where
  | mk (op num : Int) (kids : List ExprL)
def ExprL.op : ExprL → Int | .mk o _ _ => o
def ExprL.num : ExprL → Int | .mk _ n _ => n
def ExprL.kids : ExprL → List ExprL | .mk _ _ k => k
instance : Inhabited ExprL := ⟨.mk 0 0 []⟩
def eAt (es : List ExprL) (i : Nat) : ExprL := es.getD i default
mutual
def rowE : ExprL → List Dat
  | .mk op num ks => [.num op, .num num, .arr 3 (rowsE ks)]
def rowsE : List ExprL → List (List Dat)
  | [] => []
  | e :: es => rowE e :: rowsE es
end
def encExprs (es : List ExprL) : Dat := .arr 3 (rowsE es)
theorem rowsE_map (es : List ExprL) : rowsE es = es.map rowE := by induction es <;> simp_all [rowsE]
theorem rowE_eq (e : ExprL) : rowE e = [.num e.op, .num e.num, encExprs e.kids] := by cases e; rfl

structure FuncL where
  params : List Int
  result : Int
  body : ExprL
instance : Inhabited FuncL := ⟨⟨[], 0, default⟩⟩
def fAt (fs : List FuncL) (i : Nat) : FuncL := fs.getD i default
def rowF (f : FuncL) : List Dat := [encInts f.params, .num f.result, .num f.body.op, .num f.body.num, encExprs f.body.kids]
def encFuncs (fs : List FuncL) : Dat := .arr 5 (fs.map rowF)
structure ProgL where
  decls : List DeclL
  funcs : List FuncL

mutual
inductive StepL where
  | mk (op num into : Int) (args : List Int) (kids : List BlockL)
inductive BlockL where
  | mk (steps : List StepL) (result : Int)
end
def StepL.op : StepL → Int | .mk o _ _ _ _ => o
def StepL.num : StepL → Int | .mk _ o _ _ _ => o
def StepL.into : StepL → Int | .mk _ _ o _ _ => o
def StepL.args : StepL → List Int | .mk _ _ _ o _ => o
def StepL.kids : StepL → List BlockL | .mk _ _ _ _ o => o
def BlockL.steps : BlockL → List StepL | .mk s _ => s
def BlockL.result : BlockL → Int | .mk _ r => r
instance : Inhabited StepL := ⟨.mk 0 0 0 [] []⟩
instance : Inhabited BlockL := ⟨.mk [] 0⟩
def sAt (es : List StepL) (i : Nat) : StepL := es.getD i default
def bAt (es : List BlockL) (i : Nat) : BlockL := es.getD i default
mutual
def rowS : StepL → List Dat
  | .mk op num into args ks => [.num op, .num num, .num into, encInts args, .arr 2 (rowsB ks)]
def rowB : BlockL → List Dat
  | .mk ss r => [.arr 5 (rowsS ss), .num r]
def rowsS : List StepL → List (List Dat)
  | [] => []
  | e :: es => rowS e :: rowsS es
def rowsB : List BlockL → List (List Dat)
  | [] => []
  | e :: es => rowB e :: rowsB es
end
def encSteps (es : List StepL) : Dat := .arr 5 (rowsS es)
def encBlocks (es : List BlockL) : Dat := .arr 2 (rowsB es)
structure RoutL where
  params : List Int
  lent : List Int
  result : Int
  body : BlockL
instance : Inhabited RoutL := ⟨⟨[], [], 0, default⟩⟩
def rtAt (fs : List RoutL) (i : Nat) : RoutL := fs.getD i default
def rowR (f : RoutL) : List Dat := [encInts f.params, encInts f.lent, .num f.result, encSteps f.body.steps, .num f.body.result]
def encRouts (fs : List RoutL) : Dat := .arr 5 (fs.map rowR)
structure NormL where
  decls : List DeclL
  routs : List RoutL

/-- The signature of a function, with the parameters that are lent. -/
structure SigL where
  params : List Int
  lent : List Int
  result : Int
instance : Inhabited SigL := ⟨⟨[], [], 0⟩⟩
def sgAt (fs : List SigL) (i : Nat) : SigL := fs.getD i default
def rowG (f : SigL) : List Dat := [encInts f.params, encInts f.lent, .num f.result]
def encSigs (fs : List SigL) : Dat := .arr 3 (fs.map rowG)
def rowII (f : List Int) : List Dat := [encInts f]

theorem iAt_get {xs : List Int} {i : Nat} (h : i < xs.length) : iAt xs i = xs[i] := by simp [iAt, List.getD, h]
theorem cAt_get {xs : List (List Int)} {i : Nat} (h : i < xs.length) : cAt xs i = xs[i] := by simp [cAt, List.getD, h]
theorem dAt_get {xs : List DeclL} {i : Nat} (h : i < xs.length) : dAt xs i = xs[i] := by simp [dAt, List.getD, h]

theorem eAt_get {xs : List ExprL} {i : Nat} (h : i < xs.length) : eAt xs i = xs[i] := by simp [eAt, List.getD, h]
theorem fAt_get {xs : List FuncL} {i : Nat} (h : i < xs.length) : fAt xs i = xs[i] := by simp [fAt, List.getD, h]
theorem sgAt_get {xs : List SigL} {i : Nat} (h : i < xs.length) : sgAt xs i = xs[i] := by simp [sgAt, List.getD, h]

section
variable {D : Nat → Prop} {w : World} {a : Option Addr} {n c : Nat}
theorem rows_at {s : Nat} {rows : List (List Dat)} (h : Rd w D (.arr s rows) (.slice a n c)) : rows.length = n ∧ n ≤ c ∧ n ≤ 9223372036854775807 ∧
    ∀ i, i < n → ∃ b o, a = some ⟨b, o, none⟩ ∧ D b ∧ ∀ j, j < s → ∃ u, w.cell? ⟨b, o + i * s + j, none⟩ = some u ∧ Rd w D (dGet (rGet rows i) j) u := by
  obtain ⟨a', c', e, h1, h2, h3⟩ := h.arr_inv
  injection e with e1 e2 e3
  subst e1 e2 e3
  refine ⟨rfl, h1, h2, fun i hi => ?_⟩
  obtain ⟨b, o, e, hd, hc⟩ := h3 (by omega)
  exact ⟨b, o, e, hd, fun j hj => (hc i hi).2 j hj⟩
theorem arr_slice {s : Nat} {rows : List (List Dat)} {v : Value} (h : Rd w D (.arr s rows) v) : ∃ a n c, v = .slice a n c ∧ n = rows.length ∧ n ≤ c := by
  obtain ⟨a', c', rfl, h1, _⟩ := h.arr_inv
  exact ⟨a', _, c', rfl, rfl, h1⟩

theorem ints_row (xs : List Int) (i : Nat) (h : i < xs.length) : rGet (xs.map rowI) i = [.num (iAt xs i)] := by rw [iAt_get h, rGet_map _ _ _ h]; rfl
theorem ints_len (xs : List Int) : (xs.map rowI).length = xs.length := by simp
theorem ints_at {xs : List Int} (h : Rd w D (encInts xs) (.slice a n c)) : xs.length = n ∧ n ≤ c ∧ n ≤ 9223372036854775807 ∧ ∀ i, i < n → ∃ b o, a = some ⟨b, o, none⟩ ∧ D b ∧
    w.cell? ⟨b, o + i, none⟩ = some (.int .i64 (iAt xs i)) := by
  obtain ⟨h1, h2, h3, h4⟩ := rows_at (s := 1) (rows := (xs.map rowI)) h
  rw [ints_len] at h1
  refine ⟨h1, h2, h3, fun i hi => ?_⟩
  obtain ⟨b, o, e, hd, hc⟩ := h4 i hi
  rw [ints_row xs i (by omega)] at hc
  obtain ⟨u0, d0, r0⟩ := hc 0 (by omega)
  rw [Nat.mul_one, Nat.add_zero] at d0
  obtain rfl := Rd.num_inv (z := iAt xs i) r0
  exact ⟨b, o, e, hd, d0⟩
theorem cons_row (xs : List (List Int)) (i : Nat) (h : i < xs.length) : rGet (xs.map rowC) i = [encInts (cAt xs i)] := by rw [cAt_get h, rGet_map _ _ _ h]; rfl
theorem cons_len (xs : List (List Int)) : (xs.map rowC).length = xs.length := by simp
theorem cons_at {xs : List (List Int)} (h : Rd w D (encCons xs) (.slice a n c)) : xs.length = n ∧ n ≤ c ∧ n ≤ 9223372036854775807 ∧ ∀ i, i < n → ∃ b o, a = some ⟨b, o, none⟩ ∧ D b ∧
    ∃ a0 n0 c0, w.cell? ⟨b, o + i, none⟩ = some (.slice a0 n0 c0) ∧ Rd w D (encInts (cAt xs i)) (.slice a0 n0 c0) := by
  obtain ⟨h1, h2, h3, h4⟩ := rows_at (s := 1) (rows := (xs.map rowC)) h
  rw [cons_len] at h1
  refine ⟨h1, h2, h3, fun i hi => ?_⟩
  obtain ⟨b, o, e, hd, hc⟩ := h4 i hi
  rw [cons_row xs i (by omega)] at hc
  obtain ⟨u0, d0, r0⟩ := hc 0 (by omega)
  rw [Nat.mul_one, Nat.add_zero] at d0
  obtain ⟨a0, n0, c0, rfl, _, _⟩ := arr_slice (rows := _) r0
  exact ⟨b, o, e, hd, a0, n0, c0, d0, r0⟩
theorem decls_row (xs : List DeclL) (i : Nat) (h : i < xs.length) : rGet (xs.map rowD) i = [.num ((dAt xs i).from_), .num ((dAt xs i).to_), encCons (dAt xs i).cons] := by rw [dAt_get h, rGet_map _ _ _ h]; rfl
theorem decls_len (xs : List DeclL) : (xs.map rowD).length = xs.length := by simp
theorem decls_at {xs : List DeclL} (h : Rd w D (encDecls xs) (.slice a n c)) : xs.length = n ∧ n ≤ c ∧ n ≤ 9223372036854775807 ∧ ∀ i, i < n → ∃ b o, a = some ⟨b, o, none⟩ ∧ D b ∧
    ∃ a2 n2 c2, w.cell? ⟨b, o + i * 3, none⟩ = some (.int .i64 ((dAt xs i).from_)) ∧ w.cell? ⟨b, o + i * 3 + 1, none⟩ = some (.int .i64 ((dAt xs i).to_)) ∧ w.cell? ⟨b, o + i * 3 + 2, none⟩ = some (.slice a2 n2 c2) ∧ Rd w D (encCons (dAt xs i).cons) (.slice a2 n2 c2) := by
  obtain ⟨h1, h2, h3, h4⟩ := rows_at (s := 3) (rows := (xs.map rowD)) h
  rw [decls_len] at h1
  refine ⟨h1, h2, h3, fun i hi => ?_⟩
  obtain ⟨b, o, e, hd, hc⟩ := h4 i hi
  rw [decls_row xs i (by omega)] at hc
  obtain ⟨u0, d0, r0⟩ := hc 0 (by omega)
  rw [Nat.add_zero] at d0
  obtain rfl := Rd.num_inv (z := (dAt xs i).from_) r0
  obtain ⟨u1, d1, r1⟩ := hc 1 (by omega)
  obtain rfl := Rd.num_inv (z := (dAt xs i).to_) r1
  obtain ⟨u2, d2, r2⟩ := hc 2 (by omega)
  obtain ⟨a2, n2, c2, rfl, _, _⟩ := arr_slice (rows := _) r2
  exact ⟨b, o, e, hd, a2, n2, c2, d0, d1, d2, r2⟩
theorem exprs_row (xs : List ExprL) (i : Nat) (h : i < xs.length) : rGet (rowsE xs) i = [.num ((eAt xs i).op), .num ((eAt xs i).num), encExprs (eAt xs i).kids] := by rw [eAt_get h, rowsE_map, rGet_map _ _ _ h, rowE_eq]
theorem exprs_len (xs : List ExprL) : (rowsE xs).length = xs.length := by rw [rowsE_map]; simp
theorem exprs_at {xs : List ExprL} (h : Rd w D (encExprs xs) (.slice a n c)) : xs.length = n ∧ n ≤ c ∧ n ≤ 9223372036854775807 ∧ ∀ i, i < n → ∃ b o, a = some ⟨b, o, none⟩ ∧ D b ∧
    ∃ a2 n2 c2, w.cell? ⟨b, o + i * 3, none⟩ = some (.int .i64 ((eAt xs i).op)) ∧ w.cell? ⟨b, o + i * 3 + 1, none⟩ = some (.int .i64 ((eAt xs i).num)) ∧ w.cell? ⟨b, o + i * 3 + 2, none⟩ = some (.slice a2 n2 c2) ∧ Rd w D (encExprs (eAt xs i).kids) (.slice a2 n2 c2) := by
  obtain ⟨h1, h2, h3, h4⟩ := rows_at (s := 3) (rows := (rowsE xs)) h
  rw [exprs_len] at h1
  refine ⟨h1, h2, h3, fun i hi => ?_⟩
  obtain ⟨b, o, e, hd, hc⟩ := h4 i hi
  rw [exprs_row xs i (by omega)] at hc
  obtain ⟨u0, d0, r0⟩ := hc 0 (by omega)
  rw [Nat.add_zero] at d0
  obtain rfl := Rd.num_inv (z := (eAt xs i).op) r0
  obtain ⟨u1, d1, r1⟩ := hc 1 (by omega)
  obtain rfl := Rd.num_inv (z := (eAt xs i).num) r1
  obtain ⟨u2, d2, r2⟩ := hc 2 (by omega)
  obtain ⟨a2, n2, c2, rfl, _, _⟩ := arr_slice (rows := _) r2
  exact ⟨b, o, e, hd, a2, n2, c2, d0, d1, d2, r2⟩
theorem funcs_row (xs : List FuncL) (i : Nat) (h : i < xs.length) : rGet (xs.map rowF) i = [encInts (fAt xs i).params, .num ((fAt xs i).result), .num ((fAt xs i).body.op), .num ((fAt xs i).body.num), encExprs (fAt xs i).body.kids] := by rw [fAt_get h, rGet_map _ _ _ h]; rfl
theorem funcs_len (xs : List FuncL) : (xs.map rowF).length = xs.length := by simp
theorem funcs_at {xs : List FuncL} (h : Rd w D (encFuncs xs) (.slice a n c)) : xs.length = n ∧ n ≤ c ∧ n ≤ 9223372036854775807 ∧ ∀ i, i < n → ∃ b o, a = some ⟨b, o, none⟩ ∧ D b ∧
    ∃ a0 n0 c0 a4 n4 c4, w.cell? ⟨b, o + i * 5, none⟩ = some (.slice a0 n0 c0) ∧ w.cell? ⟨b, o + i * 5 + 1, none⟩ = some (.int .i64 ((fAt xs i).result)) ∧ w.cell? ⟨b, o + i * 5 + 2, none⟩ = some (.int .i64 ((fAt xs i).body.op)) ∧ w.cell? ⟨b, o + i * 5 + 3, none⟩ = some (.int .i64 ((fAt xs i).body.num)) ∧ w.cell? ⟨b, o + i * 5 + 4, none⟩ = some (.slice a4 n4 c4) ∧ Rd w D (encInts (fAt xs i).params) (.slice a0 n0 c0) ∧ Rd w D (encExprs (fAt xs i).body.kids) (.slice a4 n4 c4) := by
  obtain ⟨h1, h2, h3, h4⟩ := rows_at (s := 5) (rows := (xs.map rowF)) h
  rw [funcs_len] at h1
  refine ⟨h1, h2, h3, fun i hi => ?_⟩
  obtain ⟨b, o, e, hd, hc⟩ := h4 i hi
  rw [funcs_row xs i (by omega)] at hc
  obtain ⟨u0, d0, r0⟩ := hc 0 (by omega)
  rw [Nat.add_zero] at d0
  obtain ⟨a0, n0, c0, rfl, _, _⟩ := arr_slice (rows := _) r0
  obtain ⟨u1, d1, r1⟩ := hc 1 (by omega)
  obtain rfl := Rd.num_inv (z := (fAt xs i).result) r1
  obtain ⟨u2, d2, r2⟩ := hc 2 (by omega)
  obtain rfl := Rd.num_inv (z := (fAt xs i).body.op) r2
  obtain ⟨u3, d3, r3⟩ := hc 3 (by omega)
  obtain rfl := Rd.num_inv (z := (fAt xs i).body.num) r3
  obtain ⟨u4, d4, r4⟩ := hc 4 (by omega)
  obtain ⟨a4, n4, c4, rfl, _, _⟩ := arr_slice (rows := _) r4
  exact ⟨b, o, e, hd, a0, n0, c0, a4, n4, c4, d0, d1, d2, d3, d4, r0, r4⟩
theorem sigs_row (xs : List SigL) (i : Nat) (h : i < xs.length) : rGet (xs.map rowG) i = [encInts (sgAt xs i).params, encInts (sgAt xs i).lent, .num ((sgAt xs i).result)] := by rw [sgAt_get h, rGet_map _ _ _ h]; rfl
theorem sigs_len (xs : List SigL) : (xs.map rowG).length = xs.length := by simp
theorem sigs_at {xs : List SigL} (h : Rd w D (encSigs xs) (.slice a n c)) : xs.length = n ∧ n ≤ c ∧ n ≤ 9223372036854775807 ∧ ∀ i, i < n → ∃ b o, a = some ⟨b, o, none⟩ ∧ D b ∧
    ∃ a0 n0 c0 a1 n1 c1, w.cell? ⟨b, o + i * 3, none⟩ = some (.slice a0 n0 c0) ∧ w.cell? ⟨b, o + i * 3 + 1, none⟩ = some (.slice a1 n1 c1) ∧ w.cell? ⟨b, o + i * 3 + 2, none⟩ = some (.int .i64 ((sgAt xs i).result)) ∧ Rd w D (encInts (sgAt xs i).params) (.slice a0 n0 c0) ∧ Rd w D (encInts (sgAt xs i).lent) (.slice a1 n1 c1) := by
  obtain ⟨h1, h2, h3, h4⟩ := rows_at (s := 3) (rows := (xs.map rowG)) h
  rw [sigs_len] at h1
  refine ⟨h1, h2, h3, fun i hi => ?_⟩
  obtain ⟨b, o, e, hd, hc⟩ := h4 i hi
  rw [sigs_row xs i (by omega)] at hc
  obtain ⟨u0, d0, r0⟩ := hc 0 (by omega)
  rw [Nat.add_zero] at d0
  obtain ⟨a0, n0, c0, rfl, _, _⟩ := arr_slice (rows := _) r0
  obtain ⟨u1, d1, r1⟩ := hc 1 (by omega)
  obtain ⟨a1, n1, c1, rfl, _, _⟩ := arr_slice (rows := _) r1
  obtain ⟨u2, d2, r2⟩ := hc 2 (by omega)
  obtain rfl := Rd.num_inv (z := (sgAt xs i).result) r2
  exact ⟨b, o, e, hd, a0, n0, c0, a1, n1, c1, d0, d1, d2, r0, r1⟩
end

section
variable {D : Nat → Prop} {w : World} {a : Option Addr} {n c : Nat}
theorem Rd.toInts {xs : List Int} (h : Rd w D (encInts xs) (.slice a n c)) : IntsL w D a n xs := by
  obtain ⟨h1, _, _, h4⟩ := ints_at h
  refine ⟨h1, fun hn => ?_⟩
  obtain ⟨b, o, e, hd, _⟩ := h4 0 hn
  subst e
  refine ⟨b, o, rfl, hd, fun i hi => ?_⟩
  obtain ⟨b', o', e, _, hc⟩ := h4 i hi
  injection e with e
  injection e with e1 e2
  subst e1 e2
  exact hc
theorem IntsL.toRd {xs : List Int} (h : IntsL w D a n xs) (hc : n ≤ c) (hm : n ≤ 9223372036854775807) : Rd w D (encInts xs) (.slice a n c) := by
  obtain ⟨h1, h2⟩ := h
  subst h1
  rcases Nat.eq_zero_or_pos xs.length with h0 | h0
  · have : xs = [] := List.eq_nil_of_length_eq_zero h0
    subst this
    exact .nil 1 a c
  · obtain ⟨b, o, rfl, hd, hcell⟩ := h2 h0
    have q := Rd.arr (w := w) (D := D) 1 (xs.map rowI) b o c (fun i _ => .int .i64 (iAt xs i)) hd (by simpa using h0) (by omega) (by simpa using hc) (by simpa using hm)
      (fun i hi => by rw [ints_row xs i (by simpa using hi)]; rfl) (fun i j hi hj => by
        obtain rfl : j = 0 := by omega
        rw [Nat.mul_one, Nat.add_zero]; exact hcell i (by simpa using hi))
      (fun i j hi hj => by
        obtain rfl : j = 0 := by omega
        rw [rAt, ints_row xs i (by simpa using hi)]; exact .num _)
    rw [ints_len] at q
    exact q
theorem Rd.toCons {xs : List (List Int)} (h : Rd w D (encCons xs) (.slice a n c)) : ConsR w D a n xs := by
  obtain ⟨h1, _, _, h4⟩ := cons_at h
  refine ⟨h1, fun hn => ?_⟩
  obtain ⟨b, o, e, hd, _⟩ := h4 0 hn
  subst e
  refine ⟨b, o, rfl, hd, fun i hi => ?_⟩
  obtain ⟨b', o', e, _, a2, n2, c2, hc, hr⟩ := h4 i hi
  injection e with e
  injection e with e1 e2
  subst e1 e2
  exact ⟨a2, n2, c2, hc, (ints_at hr).2.1, hr.toInts⟩
theorem Rd.toDecls {xs : List DeclL} (h : Rd w D (encDecls xs) (.slice a n c)) : DeclsR w D a n xs := by
  obtain ⟨h1, _, _, h4⟩ := decls_at h
  refine ⟨h1, fun hn => ?_⟩
  obtain ⟨b, o, e, hd, _⟩ := h4 0 hn
  subst e
  refine ⟨b, o, rfl, hd, fun i hi => ?_⟩
  obtain ⟨b', o', e, _, a2, n2, c2, hc0, hc1, hc, hr⟩ := h4 i hi
  injection e with e
  injection e with e1 e2
  subst e1 e2
  exact ⟨hc0, hc1, a2, n2, c2, hc, (cons_at hr).2.1, hr.toCons⟩
end
end Go.Proofs.Ytaeddcnakilnlaa
/- Rows that grow by append, whose elements need only be readable; literals. -/
namespace Go.Proofs.Ytaeddcnakilnlaa
open Go.RowKit

/-- The slice v, that grows by append, holds n elements that can be read; its own row lies from base on, all that it leads to lies in other blocks, of D. -/
def AccR (w : World) (base : Nat) (D : Nat → Prop) (T : TypeId) (s : Nat) (v : Value) (rows : List (List Dat)) : Prop :=
  ∃ (xs : List Value), w.ownsRow base T s v rows.length xs ∧ (∀ i, i < rows.length → (rGet rows i).length = s) ∧
    ∀ i j, i < rows.length → j < s → ∃ u, xs[i * s + j]? = some u ∧ Rd w (fun k => D k ∧ v.ownBlock ≠ some k ∧ k < w.heap.size) (rAt rows i j) u

section
variable {S D D' : Nat → Prop} {w w' : World} {v : Value} {base : Nat} {T : TypeId} {s : Nat} {rows : List (List Dat)}
theorem AccR.nil (w : World) (base : Nat) (D : Nat → Prop) (T : TypeId) (s : Nat) : AccR w base D T s (.slice none 0 0) [] :=
  ⟨[], World.ownsRow_nil w base T s, by simp, by simp⟩
theorem AccR.made (w : World) (D : Nat → Prop) (T : TypeId) (s : Nat) : AccR (w.alloc (.cells #[] T)) w.heap.size D T s (.slice (some ⟨w.heap.size, 0, none⟩) 0 0) [] :=
  ⟨[], World.ownsRow_made w #[] 0 (Nat.le_refl _) (by simp [maxLen]) (by simp), by simp, by simp⟩
/-- A literal: the cells that a new block holds. -/
theorem AccR.lit (w : World) (D : Nat → Prop) (T : TypeId) (s : Nat) (cs : Array Value) (rows : List (List Dat)) (n : Nat) (hn : n = rows.length) (hm : n ≤ 9223372036854775807) (hcs : cs.size = n * s)
    (hl : ∀ i, i < rows.length → (rGet rows i).length = s) (hr : ∀ i j, i < rows.length → j < s → ∃ u, cs[i * s + j]? = some u ∧ Rd w D (rAt rows i j) u) :
    AccR (w.alloc (.cells cs T)) w.heap.size D T s (.slice (some ⟨w.heap.size, 0, none⟩) n n) rows := by
  subst hn
  refine ⟨cs.toList, ⟨by simpa using hcs, .inr ⟨w.heap.size, _, cs, rfl, Nat.le_refl _, heap_alloc_new w _, Nat.le_refl _, by simpa only [maxLen] using hm, hcs, List.take_of_length_le (by simp [hcs])⟩⟩, hl, fun i j hi hj => ?_⟩
  obtain ⟨u, hu, ho⟩ := hr i j hi hj
  refine ⟨u, by simpa using hu, (ho.lt.mono (fun k hk => ⟨hk.1, ?_, ?_⟩)).ext ((Ext.refl (fun _ => False) w).alloc _) (fun _ _ h => h)⟩
  · intro h; simp only [Value.ownBlock, Option.some.injEq] at h; omega
  · simp; omega
theorem AccR.mono (h : AccR w base D T s v rows) (hs : ∀ k, D k → D' k) : AccR w base D' T s v rows := by
  obtain ⟨xs, h1, h2, h5⟩ := h
  exact ⟨xs, h1, h2, fun i j hi hj => by obtain ⟨u, hu, ho⟩ := h5 i j hi hj; exact ⟨u, hu, ho.mono (fun k hk => ⟨hs _ hk.1, hk.2⟩)⟩⟩
theorem AccR.lower (h : AccR w base D T s v rows) {base' : Nat} (hb : base' ≤ base) : AccR w base' D T s v rows := by
  obtain ⟨xs, h1, h2, h5⟩ := h
  refine ⟨xs, ⟨h1.1, ?_⟩, h2, h5⟩
  rcases h1.2 with h | ⟨g, cap, cur, e, hg, rest⟩
  · exact .inl h
  · exact .inr ⟨g, cap, cur, e, by omega, rest⟩
theorem AccR.ext (h : AccR w base D T s v rows) (hx : Ext S w w') (hs : ∀ k, k < w.heap.size → (D k ∨ base ≤ k) → ¬ S k) : AccR w' base D T s v rows := by
  obtain ⟨xs, h1, h2, h5⟩ := h
  refine ⟨xs, ⟨h1.1, ?_⟩, h2, fun i j hi hj => ?_⟩
  · rcases h1.2 with h | ⟨g, cap, cur, e, hb, hg, rest⟩
    · exact .inl h
    · have hlt : g < w.heap.size := (Array.getElem?_eq_some_iff.1 hg).1
      exact .inr ⟨g, cap, cur, e, hb, (hx.block g hlt (hs g hlt (.inr hb))).trans hg, rest⟩
  · obtain ⟨u, hu, ho⟩ := h5 i j hi hj
    exact ⟨u, hu, (ho.ext hx (fun k hk => hs k hk.2.2 (.inl hk.1))).mono (fun k hk => ⟨hk.1, hk.2.1, Nat.lt_of_lt_of_le hk.2.2 hx.size⟩)⟩
theorem AccR.keep (h : AccR w base D T s v rows) (hx : Keep w w') : AccR w' base D T s v rows := h.ext hx (fun _ _ _ h => h)
/-- As a slice that can be read. -/
theorem AccR.read (h : AccR w base D T s v rows) (hs0 : 0 < s) : ∃ a c, v = .slice a rows.length c ∧ rows.length ≤ c ∧ rows.length ≤ 9223372036854775807 ∧ Rd w (fun k => D k ∨ base ≤ k) (.arr s rows) v := by
  obtain ⟨xs, h1, h2, h5⟩ := h
  rcases h1.2 with ⟨e, h0⟩ | ⟨g, cap, cur, e, hb, hg, hnc, hmax, hsz, htake⟩
  · have : rows = [] := List.eq_nil_of_length_eq_zero h0
    subst this
    subst e
    exact ⟨none, 0, rfl, Nat.le_refl _, by simp, .nil _ _ _⟩
  · subst e
    have hm : rows.length ≤ 9223372036854775807 := by simp only [maxLen] at hmax; omega
    refine ⟨_, cap, rfl, hnc, hm, ?_⟩
    rcases Nat.eq_zero_or_pos rows.length with h0 | h0
    · have : rows = [] := List.eq_nil_of_length_eq_zero h0
      subst this
      exact .nil _ _ _
    refine .arr s rows g 0 cap (fun i j => xs.getD (i * s + j) undef) (.inr hb) h0 hs0 hnc hm h2 (fun i j hi hj => ?_) (fun i j hi hj => ?_)
    · obtain ⟨u, hu, ho⟩ := h5 i j hi hj
      have := h1.cells (g := g) rfl (i * s + j) u hu
      rw [Addr.add_lit] at this
      rw [Nat.add_assoc, this]
      simp [List.getD, hu]
    · obtain ⟨u, hu, ho⟩ := h5 i j hi hj
      have : xs.getD (i * s + j) undef = u := by simp [List.getD, hu]
      show Rd w _ _ (xs.getD (i * s + j) undef)
      rw [this]
      exact ho.mono (fun k hk => .inl hk.1)

/-- Behind an append of some elements. -/
theorem AccR.push {v' : Value} {rs : List (List Dat)} {news : List Value} (h : AccR w base D T s v rows)
    (hr : ∀ i, i < rs.length → (rGet rs i).length = s) (hnew : ∀ i j, i < rs.length → j < s → ∃ u, news[i * s + j]? = some u ∧ Rd w (fun k => D k ∧ v.ownBlock ≠ some k) (rAt rs i j) u)
    (hown' : ∀ xs, w.ownsRow base T s v rows.length xs → w'.ownsRow base T s v' (rows.length + rs.length) (xs ++ news)) (hg : w.grownBy w' v.ownBlock) (hv : v'.ownBlock = v.ownBlock ∨ v'.ownBlock = some w.heap.size) : AccR w' base D T s v' (rows ++ rs) := by
  obtain ⟨xs, h1, h2, h5⟩ := h
  have hl : xs.length = rows.length * s := h1.1
  have hx : Ext (fun k => v.ownBlock = some k) w w' := ⟨hg.os, hg.tape, hg.output, hg.size, fun k hk hn => hg.block k hk (fun e => hn e.symm)⟩
  have hblk : ∀ k, k < w.heap.size → v.ownBlock ≠ some k → v'.ownBlock ≠ some k := by
    intro k hk hne
    rcases hv with e | e
    · rw [e]; exact hne
    · rw [e]; intro h; injection h with h; omega
  have hlen : (rows ++ rs).length = rows.length + rs.length := by simp
  have hrg : ∀ i, i < rows.length → rGet (rows ++ rs) i = rGet rows i := by intro i hi; simp [rGet, List.getD, List.getElem?_append_left hi]
  have hrl : ∀ i, rows.length ≤ i → rGet (rows ++ rs) i = rGet rs (i - rows.length) := by intro i hi; simp [rGet, List.getD, List.getElem?_append_right hi]
  refine ⟨xs ++ news, by rw [hlen]; exact hown' xs h1, ?_, ?_⟩
  · intro i hi
    rw [hlen] at hi
    by_cases e : i < rows.length
    · rw [hrg i e, h2 i e]
    · rw [hrl i (by omega), hr _ (by omega)]
  · intro i j hi hj
    rw [hlen] at hi
    by_cases e : i < rows.length
    · obtain ⟨u, hu, ho⟩ := h5 i j e hj
      refine ⟨u, ?_, ?_⟩
      · rw [List.getElem?_append_left (by rw [hl]; exact idx_lt e hj)]; exact hu
      · rw [rAt, hrg i e]
        exact (ho.ext hx (fun k hk h => hk.2.1 h)).mono (fun k hk => ⟨hk.1, hblk k hk.2.2 hk.2.1, Nat.lt_of_lt_of_le hk.2.2 hg.size⟩)
    · obtain ⟨i', rfl⟩ : ∃ i', i = rows.length + i' := ⟨i - rows.length, by omega⟩
      obtain ⟨u, hu, ho⟩ := hnew i' j (by omega) hj
      have e1 : (rows.length + i') * s + j = rows.length * s + (i' * s + j) := by rw [Nat.add_mul, Nat.add_assoc]
      refine ⟨u, ?_, ?_⟩
      · rw [e1, List.getElem?_append_right (by rw [hl]; omega), hl, Nat.add_sub_cancel_left]; exact hu
      · rw [rAt, hrl _ (by omega), Nat.add_sub_cancel_left]
        exact (ho.lt.ext hx (fun k hk h => hk.1.2 h)).mono (fun k hk => ⟨hk.1.1, hblk k hk.2 hk.1.2, Nat.lt_of_lt_of_le hk.2 hg.size⟩)

/-- A store into one of its cells. -/
theorem AccR.put {b : Nat} {i j : Nat} {d : Dat} {u : Value} (h : AccR w base D T s v rows) (hb : v.ownBlock = some b) (hi : i < rows.length) (hj : j < s) (hu : Rd w (fun k => D k ∧ k ≠ b) d u) :
    AccR (w.setCell ⟨b, i * s + j, none⟩ u) base D T s v (upd rows i j d) := by
  obtain ⟨xs, h1, h2, h5⟩ := h
  have hlt := idx_lt hi hj
  have hx : Ext (fun k => k = b) w (w.setCell ⟨b, i * s + j, none⟩ u) := (Ext.refl (fun k => k = b) w).setCell (p := ⟨b, i * s + j, none⟩) (.inr rfl) _
  have hsz : w.heap.size ≤ (w.setCell ⟨b, i * s + j, none⟩ u).heap.size := hx.size
  have hlen : j < (rGet rows i).length := by rw [h2 i hi]; exact hj
  rcases h1.2 with ⟨e, h0⟩ | ⟨g, cap, cur, e, hbb, hg, hnc, hmax, hsz2, htake⟩
  · subst e; simp [Value.ownBlock] at hb
  · subst e
    simp only [Value.ownBlock, Option.some.injEq] at hb
    subst hb
    have hle : rows.length * s ≤ cur.size := by rw [hsz2]; exact Nat.mul_le_mul_right s hnc
    refine ⟨xs.set (i * s + j) u, ⟨by rw [upd_len, List.length_set]; exact h1.1, .inr ⟨g, cap, cur.setIfInBounds (i * s + j) u, by rw [upd_len], hbb, ?_, by rw [upd_len]; exact hnc, hmax, by simpa using hsz2, ?_⟩⟩, ?_, ?_⟩
    · simp [World.setCell, Array.getElem?_modify, hg]
    · rw [upd_len, Array.toList_setIfInBounds, ← htake, List.take_set]
    · intro k hk
      rw [upd_len] at hk
      rw [rGet_upd hi]
      by_cases e : k = i
      · rw [if_pos e, List.length_set, h2 i hi]
      · rw [if_neg e, h2 k hk]
    · intro k l hk hl
      rw [upd_len] at hk
      rw [rAt_upd hi hlen]
      by_cases e : k = i ∧ l = j
      · rw [if_pos e]
        obtain ⟨rfl, rfl⟩ := e
        refine ⟨u, by rw [List.getElem?_set_self]; rw [h1.1]; exact hlt, (hu.lt.ext hx (fun m hm h => hm.1.2 h)).mono (fun m hm => ⟨hm.1.1, ?_, by omega⟩)⟩
        intro h; simp only [Value.ownBlock, Option.some.injEq] at h; exact hm.1.2 h.symm
      · rw [if_neg e]
        obtain ⟨u', hu', ho⟩ := h5 k l hk hl
        refine ⟨u', ?_, (ho.ext hx (fun m hm h => hm.2.1 (by rw [h]; rfl))).mono (fun m hm => ⟨hm.1, hm.2.1, by omega⟩)⟩
        rw [List.getElem?_set_ne]
        · exact hu'
        · intro h; exact e (idx_inj hl hj h.symm)
/-- Where a row with elements lies. -/
theorem AccR.open (h : AccR w base D T s v rows) (h0 : 0 < rows.length) : ∃ b c, v = .slice (some ⟨b, 0, none⟩) rows.length c ∧ base ≤ b ∧ b < w.heap.size ∧ rows.length ≤ c ∧ c ≤ 9223372036854775807 ∧ (∀ o, w.frozen? ⟨b, o, none⟩ = false) ∧
    ∀ i j, i < rows.length → j < s → ∃ u, w.cell? ⟨b, i * s + j, none⟩ = some u ∧ Rd w (fun k => D k ∧ k ≠ b ∧ k < w.heap.size) (rAt rows i j) u := by
  obtain ⟨xs, h1, h2, h5⟩ := h
  rcases h1.2 with ⟨e, he⟩ | ⟨g, cap, cur, e, hb, hg, hnc, hmax, hsz, htake⟩
  · omega
  · subst e
    refine ⟨g, cap, rfl, hb, (Array.getElem?_eq_some_iff.1 hg).1, hnc, hmax, fun o => by simp [World.frozen?, hg], fun i j hi hj => ?_⟩
    obtain ⟨u, hu, ho⟩ := h5 i j hi hj
    have := h1.cells (g := g) rfl (i * s + j) u hu
    rw [Addr.add_lit, Nat.zero_add] at this
    refine ⟨u, this, ho.mono (fun k hk => ⟨hk.1, ?_, hk.2.2⟩)⟩
    intro e; exact hk.2.1 (by rw [e]; rfl)
end

/-- The rest of a slice. -/
theorem Rd.suffix {w : World} {D : Nat → Prop} {s : Nat} {rows : List (List Dat)} {b o n c m : Nat} (h : Rd w D (.arr s rows) (.slice (some ⟨b, o, none⟩) n c)) (hm : m ≤ n) : Rd w D (.arr s (rows.drop m)) (.slice (some ⟨b, o + m * s, none⟩) (n - m) (c - m)) := by
  have hget : ∀ i, rGet (rows.drop m) i = rGet rows (m + i) := fun i => by simp [rGet, List.getD, List.getElem?_drop]
  cases h with
  | nil => simp; exact .nil s _ _
  | arr s rows b o c vs hD h0 hs0 hc hmm hs hcell hr =>
    rcases Nat.eq_zero_or_pos (rows.length - m) with e | e
    · have : rows.drop m = [] := List.drop_eq_nil_of_le (by omega)
      rw [this, e]
      exact .nil s _ _
    · have q := Rd.arr (w := w) (D := D) s (rows.drop m) b (o + m * s) (c - m) (fun i j => vs (m + i) j) hD (by simpa using e) hs0 (by simp; omega) (by simp; omega)
        (fun i hi => by rw [hget]; exact hs _ (by simp at hi; omega)) (fun i j hi hj => by
          have := hcell (m + i) j (by simp at hi; omega) hj
          rw [Nat.add_mul] at this
          rw [show o + m * s + i * s + j = o + (m * s + i * s) + j by omega]; exact this)
        (fun i j hi hj => by rw [rAt, hget]; exact hr (m + i) j (by simp at hi; omega) hj)
      rw [List.length_drop] at q
      exact q

/-- A declaration is written over. -/
theorem AccR.putD {w : World} {base : Nat} {D : Nat → Prop} {T : TypeId} {v : Value} {ds : List DeclL} {b k : Nat} {f t : Int} {cs : List (List Int)} {u : Value} (h : AccR w base D T 3 v (ds.map rowD)) (hb : v.ownBlock = some b) (hk : k < ds.length)
    (hu : Rd w (fun k => D k ∧ k ≠ b) (encCons cs) u) :
    AccR (((w.setCell ⟨b, k * 3, none⟩ (.int .i64 f)).setCell ⟨b, k * 3 + 1, none⟩ (.int .i64 t)).setCell ⟨b, k * 3 + 2, none⟩ u) base D T 3 v ((ds.set k ⟨f, t, cs⟩).map rowD) := by
  have hl : k < (ds.map rowD).length := by simpa using hk
  have x1 : Ext (fun m => m = b) w (w.setCell ⟨b, k * 3, none⟩ (.int .i64 f)) := (Ext.refl (fun m => m = b) w).setCell (p := ⟨b, k * 3, none⟩) (.inr rfl) _
  have x2 : Ext (fun m => m = b) w ((w.setCell ⟨b, k * 3, none⟩ (.int .i64 f)).setCell ⟨b, k * 3 + 1, none⟩ (.int .i64 t)) := x1.setCell (p := ⟨b, k * 3 + 1, none⟩) (.inr rfl) _
  have h1 := h.put (i := k) (j := 0) (d := .num f) hb hl (by omega) (.num f)
  have h2 := h1.put (i := k) (j := 1) (d := .num t) hb (by rw [upd_len]; exact hl) (by omega) (.num t)
  have h3 := h2.put (i := k) (j := 2) (d := encCons cs) hb (by rw [upd_len, upd_len]; exact hl) (by omega) (hu.ext x2 (fun m hm h => hm.2 h))
  have e : upd (upd (upd (ds.map rowD) k 0 (.num f)) k 1 (.num t)) k 2 (encCons cs) = (ds.set k ⟨f, t, cs⟩).map rowD := by
    have r0 := decls_row ds k hk
    simp only [upd]
    rw [rGet_set (by simpa using hk), rGet_set (by simpa using hk), if_pos rfl, if_pos rfl, r0]
    simp [List.map_set, rowD]
  rw [e] at h3
  exact h3
end Go.Proofs.Ytaeddcnakilnlaa
/- Literals: integers, constructors, declarations that have just been written down. -/
namespace Go.Proofs.Ytaeddcnakilnlaa
open Go.RowKit

theorem Rd.litD (w : World) (D : Nat → Prop) (T : TypeId) (s : Nat) (cs : Array Value) (rows : List (List Dat)) (n : Nat) (hB : D w.heap.size) (hn : n = rows.length) (hm : n ≤ 9223372036854775807) (hs0 : 0 < s) (hcs : cs.size = n * s)
    (hl : ∀ i, i < rows.length → (rGet rows i).length = s) (hr : ∀ i j, i < rows.length → j < s → ∃ u, cs[i * s + j]? = some u ∧ Rd w D (rAt rows i j) u) :
    Rd (w.alloc (.cells cs T)) D (.arr s rows) (.slice (some ⟨w.heap.size, 0, none⟩) n n) := by
  subst hn
  rcases Nat.eq_zero_or_pos rows.length with h0 | h0
  · have : rows = [] := List.eq_nil_of_length_eq_zero h0
    subst this
    exact .nil s _ _
  refine .arr s rows w.heap.size 0 rows.length (fun i j => cs.getD (i * s + j) undef) hB h0 hs0 (Nat.le_refl _) hm hl (fun i j hi hj => ?_) (fun i j hi hj => ?_)
  · obtain ⟨u, hu, _⟩ := hr i j hi hj
    rw [cell_of_row _ w.heap.size _ cs T (0, 0) (heap_alloc_new w _), Nat.zero_add]
    obtain ⟨hlt, e⟩ := Array.getElem?_eq_some_iff.1 hu
    simp [Array.getD, hlt]
  · obtain ⟨u, hu, ho⟩ := hr i j hi hj
    obtain ⟨hlt, e⟩ := Array.getElem?_eq_some_iff.1 hu
    have : cs.getD (i * s + j) undef = u := by simp [Array.getD, hlt, e]
    show Rd _ _ _ (cs.getD (i * s + j) undef)
    rw [this]
    exact ho.ext ((Ext.refl (fun _ => False) w).alloc _) (fun _ _ h => h)

theorem lit_intsD (w : World) (D : Nat → Prop) (T : TypeId) (xs : List Int) (cs : Array Value) (n : Nat) (hB : D w.heap.size) (hc : cs = (xs.map (Value.int .i64)).toArray) (hn : n = xs.length) (hm : n ≤ 1000) :
    Rd (w.alloc (.cells cs T)) D (encInts xs) (.slice (some ⟨w.heap.size, 0, none⟩) n n) := by
  subst hc hn
  refine Rd.litD w D T 1 _ (xs.map rowI) _ hB (by simp) (by omega) (by omega) (by simp) (fun i hi => by rw [ints_row xs i (by simpa using hi)]; rfl) (fun i j hi hj => ?_)
  obtain rfl : j = 0 := by omega
  have hi' : i < xs.length := by simpa using hi
  refine ⟨.int .i64 (iAt xs i), by simp [hi', iAt], ?_⟩
  rw [rAt, ints_row xs i hi']
  exact .num _

theorem lit_ints (w : World) (B : Nat) (T : TypeId) (xs : List Int) (cs : Array Value) (n : Nat) (hB : B ≤ w.heap.size) (hc : cs = (xs.map (Value.int .i64)).toArray) (hn : n = xs.length) (hm : n ≤ 1000) :
    Rd (w.alloc (.cells cs T)) (fun k => B ≤ k) (encInts xs) (.slice (some ⟨w.heap.size, 0, none⟩) n n) := lit_intsD w _ T xs cs n hB hc hn hm

/-- The values us read as the lists cs. -/
def AllC (w : World) (D : Nat → Prop) : List (List Int) → List Value → Prop
  | [], us => us = []
  | c :: cs, us => ∃ u us', us = u :: us' ∧ Rd w D (encInts c) u ∧ AllC w D cs us'
theorem AllC.len {w : World} {D : Nat → Prop} {cs : List (List Int)} {us : List Value} (h : AllC w D cs us) : us.length = cs.length := by
  induction cs generalizing us with
  | nil => have : us = [] := h; simp [this]
  | cons c cs ih => obtain ⟨u, us', rfl, _, h2⟩ := h; simp [ih h2]
theorem AllC.at {w : World} {D : Nat → Prop} {cs : List (List Int)} {us : List Value} (h : AllC w D cs us) (i : Nat) (hi : i < cs.length) : ∃ u, us[i]? = some u ∧ Rd w D (encInts (cAt cs i)) u := by
  induction cs generalizing us i with
  | nil => simp at hi
  | cons c cs ih =>
    obtain ⟨u, us', rfl, h1, h2⟩ := h
    rcases i with _ | i
    · exact ⟨u, rfl, h1⟩
    · obtain ⟨u', e, h3⟩ := ih h2 i (by simpa using hi)
      exact ⟨u', by simpa using e, h3⟩
theorem lit_consD (w : World) (D : Nat → Prop) (T : TypeId) (xs : List (List Int)) (us : List Value) (n : Nat) (hB : D w.heap.size) (h : AllC w D xs us) (hn : n = xs.length) (hm : n ≤ 1000) :
    Rd (w.alloc (.cells us.toArray T)) D (encCons xs) (.slice (some ⟨w.heap.size, 0, none⟩) n n) := by
  subst hn
  refine Rd.litD w D T 1 _ (xs.map rowC) _ hB (by simp) (by omega) (by omega) (by simp [h.len]) (fun i hi => by rw [cons_row xs i (by simpa using hi)]; rfl) (fun i j hi hj => ?_)
  obtain rfl : j = 0 := by omega
  have hi' : i < xs.length := by simpa using hi
  obtain ⟨u, hu, hr⟩ := h.at i hi'
  refine ⟨u, by simpa using hu, ?_⟩
  rw [rAt, cons_row xs i hi']
  exact hr

theorem lit_cons (w : World) (B : Nat) (T : TypeId) (xs : List (List Int)) (us : List Value) (n : Nat) (hB : B ≤ w.heap.size) (h : AllC w (fun k => B ≤ k) xs us) (hn : n = xs.length) (hm : n ≤ 1000) :
    Rd (w.alloc (.cells us.toArray T)) (fun k => B ≤ k) (encCons xs) (.slice (some ⟨w.heap.size, 0, none⟩) n n) := lit_consD w _ T xs us n hB h hn hm

/-- The cells us, three each, read as declarations. -/
def AllD (w : World) (D : Nat → Prop) : List DeclL → List Value → Prop
  | [], us => us = []
  | d :: ds, us => ∃ u us', us = .int .i64 d.from_ :: .int .i64 d.to_ :: u :: us' ∧ Rd w D (encCons d.cons) u ∧ AllD w D ds us'
theorem AllD.len {w : World} {D : Nat → Prop} {cs : List DeclL} {us : List Value} (h : AllD w D cs us) : us.length = cs.length * 3 := by
  induction cs generalizing us with
  | nil => have : us = [] := h; simp [this]
  | cons c cs ih => obtain ⟨u, us', rfl, _, h2⟩ := h; simp [ih h2, Nat.add_mul]
theorem AllD.at {w : World} {D : Nat → Prop} {cs : List DeclL} {us : List Value} (h : AllD w D cs us) (i : Nat) (hi : i < cs.length) : us[i * 3]? = some (.int .i64 (dAt cs i).from_) ∧ us[i * 3 + 1]? = some (.int .i64 (dAt cs i).to_) ∧ ∃ u, us[i * 3 + 2]? = some u ∧ Rd w D (encCons (dAt cs i).cons) u := by
  induction cs generalizing us i with
  | nil => simp at hi
  | cons c cs ih =>
    obtain ⟨u, us', rfl, h1, h2⟩ := h
    rcases i with _ | i
    · exact ⟨rfl, rfl, u, rfl, h1⟩
    · obtain ⟨e0, e1, u', e, h3⟩ := ih h2 i (by simpa using hi)
      have q : (i + 1) * 3 = i * 3 + 3 := by omega
      have qd : dAt (c :: cs) (i + 1) = dAt cs i := by simp [dAt, List.getD]
      rw [qd]
      refine ⟨?_, ?_, u', ?_, h3⟩
      · rw [q]; simpa using e0
      · rw [q, show i * 3 + 3 + 1 = i * 3 + 1 + 3 by omega]; simpa using e1
      · rw [q, show i * 3 + 3 + 2 = i * 3 + 2 + 3 by omega]; simpa using e
theorem AllD.rd {w : World} {D : Nat → Prop} {cs : List DeclL} {us : List Value} (h : AllD w D cs us) : ∀ i j, i < (cs.map rowD).length → j < 3 → ∃ u, us.toArray[i * 3 + j]? = some u ∧ Rd w D (rAt (cs.map rowD) i j) u := by
  intro i j hi hj
  have hi' : i < cs.length := by simpa using hi
  obtain ⟨e0, e1, u, e2, hr⟩ := h.at i hi'
  rw [rAt, decls_row cs i hi']
  rcases j with _ | _ | _ | j
  · exact ⟨_, by simpa using e0, .num _⟩
  · exact ⟨_, by simpa using e1, .num _⟩
  · exact ⟨u, by simpa using e2, hr⟩
  · omega
theorem lit_declsD (w : World) (D : Nat → Prop) (T : TypeId) (ds : List DeclL) (us : List Value) (n : Nat) (hB : D w.heap.size) (h : AllD w D ds us) (hn : n = ds.length) (hm : n ≤ 1000) :
    Rd (w.alloc (.cells us.toArray T)) D (encDecls ds) (.slice (some ⟨w.heap.size, 0, none⟩) n n) := by
  subst hn
  exact Rd.litD w D T 3 us.toArray (ds.map rowD) ds.length hB (by simp) (by omega) (by omega) (by simp [h.len]) (fun i hi => by rw [decls_row ds i (by simpa using hi)]; rfl) h.rd
theorem lit_decls (w : World) (B : Nat) (T : TypeId) (ds : List DeclL) (us : List Value) (n : Nat) (hB : B ≤ w.heap.size) (h : AllD w (fun k => B ≤ k) ds us) (hn : n = ds.length) (hm : n ≤ 1000) :
    AccR (w.alloc (.cells us.toArray T)) B (fun k => B ≤ k) T 3 (.slice (some ⟨w.heap.size, 0, none⟩) n n) (ds.map rowD) := by
  subst hn
  exact (AccR.lit w (fun k => B ≤ k) T 3 us.toArray (ds.map rowD) ds.length (by simp) (by omega) (by simp [h.len]) (fun i hi => by rw [decls_row ds i (by simpa using hi)]; rfl) h.rd).lower hB
theorem Rd.nilC (w : World) (D : Nat → Prop) (a : Option Addr) (c : Nat) : Rd w D (encCons []) (.slice a 0 c) := .nil 1 a c
theorem Rd.k {w w' : World} {D : Nat → Prop} {d : Dat} {v : Value} (h : Rd w D d v) (hx : Keep w w') : Rd w' D d v := h.ext hx (fun _ _ h => h)
theorem boxk {w w2 : World} {cs : Array Value} {T : TypeId} (h : Keep (w.alloc (.cells cs T)) w2) (i : Nat) : w2.cell? ⟨w.heap.size, i, none⟩ = cs[i]? := by
  rw [h.cell (by simp) (fun h => h), cell_of_row _ w.heap.size i cs T (0, 0) (heap_alloc_new w _)]
theorem Keep.at {w w' : World} (k : Keep w.drew w') {p : Addr} {v : Value} (h : w.cell? p = some v) : w'.cell? p = some v := by
  have hb : p.block < w.drew.heap.size := World.block_lt_of_cell? _ _ h
  rw [k.cell hb (fun h => h)]; exact h
theorem Keep.al (w : World) (o : Obj) : Keep w (w.alloc o) := (Ext.refl _ w).alloc o
end Go.Proofs.Ytaeddcnakilnlaa
/- Types, in plain Lean: what valid declarations are, and lemmas on lists. No program. -/
namespace Go.Proofs.Ytaeddcnakilnlaa

theorem iAt_eq {xs : List Int} {i : Nat} (h : i < xs.length) : iAt xs i = xs[i] := by simp [iAt, List.getElem?_eq_getElem h]
theorem cAt_eq {xs : List (List Int)} {i : Nat} (h : i < xs.length) : cAt xs i = xs[i] := by simp [cAt, List.getElem?_eq_getElem h]
theorem iAll {xs : List Int} {p : Int → Bool} : xs.all p = true ↔ ∀ i, i < xs.length → p (iAt xs i) = true := by
  rw [List.all_eq_true]
  constructor
  · intro h i hi; rw [iAt_eq hi]; exact h _ (List.getElem_mem _)
  · intro h x hx
    obtain ⟨i, hi, rfl⟩ := List.getElem_of_mem hx
    rw [← iAt_eq hi]; exact h i hi
theorem cAll {xs : List (List Int)} {p : List Int → Bool} : xs.all p = true ↔ ∀ i, i < xs.length → p (cAt xs i) = true := by
  rw [List.all_eq_true]
  constructor
  · intro h i hi; rw [cAt_eq hi]; exact h _ (List.getElem_mem _)
  · intro h x hx
    obtain ⟨i, hi, rfl⟩ := List.getElem_of_mem hx
    rw [← cAt_eq hi]; exact h i hi
theorem nAll {n : Nat} {p : Nat → Bool} : (List.range n).all p = true ↔ ∀ i, i < n → p i = true := by
  simp [List.all_eq_true]
theorem iAll_false {xs : List Int} {p : Int → Bool} {i : Nat} (hi : i < xs.length) (h : p (iAt xs i) = false) : xs.all p = false := by
  cases hx : xs.all p
  · rfl
  · rw [iAll] at hx; rw [hx i hi] at h; cases h
theorem cAll_false {xs : List (List Int)} {p : List Int → Bool} {i : Nat} (hi : i < xs.length) (h : p (cAt xs i) = false) : xs.all p = false := by
  cases hx : xs.all p
  · rfl
  · rw [cAll] at hx; rw [hx i hi] at h; cases h
theorem nAll_false {n : Nat} {p : Nat → Bool} {i : Nat} (hi : i < n) (h : p i = false) : (List.range n).all p = false := by
  cases hx : (List.range n).all p
  · rfl
  · rw [nAll] at hx; rw [hx i hi] at h; cases h

def isT (n : Nat) (t : Int) : Bool := decide (0 ≤ t ∧ t ≤ (n : Int))
def allT (n : Nat) (xs : List Int) : Bool := xs.all (isT n)
/-- The fields of a constructor are right. -/
def conOk (n : Nat) (c : List Int) : Bool := decide (c.length ≤ 3) && allT n c
def sameArrow (d e : DeclL) : Bool := decide (d.cons.length = 0) && decide (d.from_ = e.from_) && decide (d.to_ = e.to_)
def declOk (ds : List DeclL) (k : Nat) : Bool :=
  if 0 < (dAt ds k).cons.length then decide ((dAt ds k).cons.length ≤ 3 ∧ (dAt ds k).from_ = 0 ∧ (dAt ds k).to_ = 0) && (dAt ds k).cons.all (conOk ds.length)
  else isT ds.length (dAt ds k).from_ && isT ds.length (dAt ds k).to_ && (List.range k).all fun i => !sameArrow (dAt ds i) (dAt ds k)
def typesOk (ds : List DeclL) : Bool := decide (ds.length ≤ 4) && (List.range ds.length).all (declOk ds)
end Go.Proofs.Ytaeddcnakilnlaa
/- Numbers of constructors, the place of a constructor, the arrow type between two types: in plain Lean. -/
namespace Go.Proofs.Ytaeddcnakilnlaa

/-- The declarations are few, and so are their constructors. -/
def Few (ds : List DeclL) : Prop := ds.length ≤ 4 ∧ ∀ i, i < ds.length → (dAt ds i).cons.length ≤ 3

def firstN (ds : List DeclL) : Nat → Nat
  | 0 => 0
  | k + 1 => firstN ds k + (dAt ds k).cons.length
def conN (ds : List DeclL) : Nat := firstN ds ds.length

theorem declOk_few {ds : List DeclL} {k : Nat} (h : declOk ds k = true) : (dAt ds k).cons.length ≤ 3 := by
  unfold declOk at h
  split at h
  · simp at h; omega
  · omega
theorem Few.of_ok {ds : List DeclL} (h : typesOk ds = true) : Few ds := by
  simp only [typesOk, Bool.and_eq_true, decide_eq_true_eq] at h
  exact ⟨h.1, fun i hi => declOk_few (nAll.1 h.2 i hi)⟩
theorem firstN_le {ds : List DeclL} (h : Few ds) {k : Nat} (hk : k ≤ ds.length) : firstN ds k ≤ 3 * k := by
  induction k with
  | zero => simp [firstN]
  | succ k ih => have := h.2 k (by omega); have := ih (by omega); simp only [firstN]; omega
/-- The first of the numbers below n that is right. -/
def firstIx (n : Nat) (p : Nat → Bool) : Option Nat := (List.range n).find? p
theorem firstIx_some {n i : Nat} {p : Nat → Bool} (hi : i < n) (hp : p i = true) (hb : ∀ j, j < i → p j = false) : firstIx n p = some i := by
  unfold firstIx
  rw [List.find?_range_eq_some]
  exact ⟨hp, by simpa using hi, fun j hj => by simp [hb j hj]⟩
theorem firstIx_none {n : Nat} {p : Nat → Bool} (hb : ∀ j, j < n → p j = false) : firstIx n p = none := by
  unfold firstIx
  rw [List.find?_eq_none]
  intro j hj
  simp at hj
  simp [hb j hj]
theorem firstIx_spec {n i : Nat} {p : Nat → Bool} (h : firstIx n p = some i) : i < n ∧ p i = true ∧ ∀ j, j < i → p j = false := by
  unfold firstIx at h
  rw [List.find?_range_eq_some] at h
  exact ⟨by simpa using h.2.1, h.1, fun j hj => by simpa using h.2.2 j hj⟩
/-- A type plus 1, or -1. -/
def typeOr : Option Nat → Int
  | some i => (i : Int) + 1
  | none => -1
def inDecl (ds : List DeclL) (c : Int) (i : Nat) : Bool := decide ((firstN ds i : Int) ≤ c ∧ c < (firstN ds (i + 1) : Int))
def conIx (ds : List DeclL) (c : Int) : Option Nat := firstIx ds.length (inDecl ds c)
def conTypeL (ds : List DeclL) (c : Int) : Int := typeOr (conIx ds c)
/-- The fields of a constructor; none if there is no such constructor. -/
def conFieldsL (ds : List DeclL) (c : Int) : List Int :=
  match conIx ds c with
  | some i => cAt (dAt ds i).cons (c.toNat - firstN ds i)
  | none => []
def isArrow (ds : List DeclL) (f t : Int) (i : Nat) : Bool := decide ((dAt ds i).cons.length = 0) && ((dAt ds i).from_ == f) && ((dAt ds i).to_ == t)
def arrowL (ds : List DeclL) (f t : Int) : Int := typeOr (firstIx ds.length (isArrow ds f t))
/-- The numbers of the constructors of a type. -/
def consL (ds : List DeclL) (t : Int) : List Int :=
  if 1 ≤ t ∧ t ≤ (ds.length : Int) then (List.range (dAt ds (t.toNat - 1)).cons.length).map fun i => ((firstN ds (t.toNat - 1) + i : Nat) : Int) else []
end Go.Proofs.Ytaeddcnakilnlaa
/- Slices of the call's own: rows of cells that are known whole; integers, constructors and declarations in them; make. -/
namespace Go.Proofs.Ytaeddcnakilnlaa
open Go.RowKit

section
variable {S D D' : Nat → Prop} {w w' : World} {b N : Nat} {T : TypeId} {f : Nat → Value}
theorem row_ext (h : w.rowIs b T N f) (hx : Ext S w w') (hs : ¬ S b) : w'.rowIs b T N f := h.of_block (hx.block b h.lt hs)
end

/-- make of n elements of s cells each: a new row of zero values; of the world behind it no more is said than what a walk wants. -/
theorem wpList_makeN {P : Program} (w : World) {ops : Array Oper} {rest : List Oper} {o : Oper} {a : Act} {Q : Exit → Act → World → Prop}
    (hg : o.guard = none) (l c : Operand) (t : TypeId) (hop : o.op = Op.makeSlice t l c)
    (e : TypeId) (z : Value) (zs : Array Value) (s bytes : Nat) (h1 : P.underlying t = some (.slice e)) (hinfo : (P.info? e).map (fun i => (i.zero, i.size, i.bytes)) = some (some z, s, bytes)) (hzs : z.cells = zs) (hsz : zs.size = s)
    (n : Nat) (hl : a.eval l = .int .i64 (n : Int)) (hc : a.eval c = .int .i64 (n : Int)) (b2 : bytes * n ≤ 281474976710656) (b3 : n ≤ 9223372036854775807)
    (hK : ∀ w', w'.rowIs w.heap.size e (n * s) (fun i => zs.getD (i % s) undef) → Keep w w' → w'.heap.size = w.heap.size + 1 → wpList P ops Q rest (a.put o.dst (.slice (some ⟨w.heap.size, 0, none⟩) n n)) w') :
    wpList P ops Q (o :: rest) a w := by
  refine wpList_plain hg fun K hK' => ?_
  obtain ⟨i, hi, hzz⟩ := Option.map_eq_some_iff.1 hinfo
  simp only [Prod.mk.injEq] at hzz
  obtain ⟨hz, hs, hb⟩ := hzz
  have hb' : (i.bytes : Int) * (n : Int) ≤ 281474976710656 := by
    have h : ((bytes * n : Nat) : Int) ≤ 281474976710656 := by omega
    rw [Int.natCast_mul] at h
    rw [hb]; exact h
  have hrun := run_make (P := P) w t e i z h1 hi hz .i64 .i64 n n (by omega) (Int.le_refl _) hb' (by omega)
  simp only [Int.toNat_natCast, hs, hzs] at hrun
  unfold Oper.wp
  simp [execOp, hop, hl, hc, hrun, Result.andThen]
  refine hK' _ _ (hK _ ?_ ((Ext.refl _ w).alloc _) (by simp))
  refine ⟨_, heap_alloc_new w _, size_madeCells _ _, fun j hj => ?_⟩
  have hs0 : 0 < s := by
    rcases Nat.eq_zero_or_pos s with h | h
    · rw [h] at hj; omega
    · exact h
  have hjs : j % s < zs.size := by rw [hsz]; exact Nat.mod_lt _ hs0
  have e1 : zs[j % s]! = zs.getD (j % s) undef := by
    rw [getElem!_pos zs (j % s) hjs]
    simp [Array.getD, hjs]
  simp only [madeCells, hsz]
  rw [Array.getElem?_map, Array.getElem?_range]
  simp only [hj, if_true, Option.map_some]
  rw [e1]

/-- A slice of integers of the call's own, in a block of D. -/
def OwnInts (w : World) (D : Nat → Prop) (a : Option Addr) (n : Nat) (xs : List Int) : Prop :=
  xs.length = n ∧ (0 < n → ∃ b N f, a = some ⟨b, 0, none⟩ ∧ D b ∧ n ≤ N ∧ w.rowIs b 3 N f ∧ ∀ i, i < n → f i = .int .i64 (iAt xs i))
def OwnCons (w : World) (D : Nat → Prop) (a : Option Addr) (n : Nat) (cs : List (List Int)) : Prop :=
  cs.length = n ∧ (0 < n → ∃ b N f, a = some ⟨b, 0, none⟩ ∧ D b ∧ n ≤ N ∧ w.rowIs b 185 N f ∧ ∀ i, i < n → ∃ a' m c, f i = .slice a' m c ∧ m ≤ c ∧ OwnInts w D a' m (cAt cs i))
def OwnDecls (w : World) (D : Nat → Prop) (a : Option Addr) (n : Nat) (ds : List DeclL) : Prop :=
  ds.length = n ∧ (0 < n → ∃ b N f, a = some ⟨b, 0, none⟩ ∧ D b ∧ n * 3 ≤ N ∧ w.rowIs b 138 N f ∧ ∀ i, i < n → f (i * 3) = .int .i64 (dAt ds i).from_ ∧ f (i * 3 + 1) = .int .i64 (dAt ds i).to_ ∧
    ∃ a' m c, f (i * 3 + 2) = .slice a' m c ∧ m ≤ c ∧ OwnCons w D a' m (dAt ds i).cons)

section
variable {S D D' : Nat → Prop} {w w' : World} {a : Option Addr} {n : Nat}
theorem OwnInts.read {xs : List Int} (h : OwnInts w D a n xs) : IntsL w D a n xs := by
  refine ⟨h.1, fun hn => ?_⟩
  obtain ⟨b, N, f, rfl, hd, hN, hr, hc⟩ := h.2 hn
  exact ⟨b, 0, rfl, hd, fun i hi => by rw [Nat.zero_add, hr.cell (by omega), hc i hi]⟩
end
end Go.Proofs.Ytaeddcnakilnlaa
/- append onto a row of the call's own: elements that can be read; integers. -/
namespace Go.Proofs.Ytaeddcnakilnlaa
open Go.RowKit

/-- A slice of m elements of s cells each that holds the cells xs. -/
def HoldsC (w : World) (s : Nat) (A : Option Addr) (m : Nat) (xs : List Value) : Prop :=
  xs.length = m * s ∧ (0 < m → ∃ b o, A = some ⟨b, o, none⟩ ∧ ∀ j u, xs[j]? = some u → w.cell? ⟨b, o + j, none⟩ = some u)

section
variable {P : Program} (w : World)

theorem run_append_nil0 (base : Nat) (t ty e : TypeId) (i : TypeInfo) (size : Nat) (ht : P.underlying t = some (.slice e)) (hi : P.info? e = some i)
    (v : Value) (n : Nat) (xs : List Value) (hown : w.ownsRow base e size v n xs) (c : Nat) : (Builtin.append_ #[t, t] ty #[v, .slice none 0 c]).run P w = .ok v w := by
  rcases hown.2 with ⟨rfl, rfl⟩ | ⟨g, cap, cur, rfl, _, _, hnc, _⟩
  · simp [Builtin.append_, run_underlying ht, sizeOf, typeInfo, hi, Builtin.lenOf, Builtin.firstCells]
  · simp [Builtin.append_, run_underlying ht, sizeOf, typeInfo, hi, Builtin.lenOf, Builtin.firstCells, hnc, storeCells]

theorem run_append_c (base : Nat) (t ty e : TypeId) (i : TypeInfo) (z : Value) (size bytes : Nat) (ht : P.underlying t = some (.slice e)) (hi : P.info? e = some i) (hz : i.zero = some z)
    (hsize : i.size = size) (hby : i.bytes = bytes) (hzs : z.cells.size = size) (hsz : 0 < size)
    (v : Value) (n : Nat) (xs : List Value) (hown : w.ownsRow base e size v n xs)
    (A : Option Addr) (m c : Nat) (news : List Value) (hr : HoldsC w size A m news) (h1 : ∀ u ∈ news, u.oneCell' = true)
    (h63 : n + m ≤ maxLen) (hbytes : (n + m) * bytes ≤ 140737488355328) (hbase : base ≤ w.heap.size) :
    ∃ v' w', (Builtin.append_ #[t, t] ty #[v, .slice A m c]).run P w = .ok v' w' ∧ w'.ownsRow base e size v' (n + m) (xs ++ news) ∧ w.grownBy w' v.ownBlock ∧
      (v'.ownBlock = v.ownBlock ∨ v'.ownBlock = some w.heap.size) := by
  rcases A with _ | ad
  · have hm : m = 0 := by
      rcases Nat.eq_zero_or_pos m with h0 | h0
      · exact h0
      · obtain ⟨b, o, h, _⟩ := hr.2 h0
        cases h
    subst hm
    have hn : news = [] := List.eq_nil_of_length_eq_zero (by simpa using hr.1)
    subst hn
    exact ⟨v, w, run_append_nil0 w base t ty e i size ht hi v n xs hown c, by simpa using hown, World.grownBy.refl w _, .inl rfl⟩
  · have hcells : ∀ j u, news[j]? = some u → w.cell? (ad.add j) = some u := by
      intro j u hu
      rcases Nat.eq_zero_or_pos m with h0 | h0
      · subst h0
        have hn : news = [] := List.eq_nil_of_length_eq_zero (by simpa using hr.1)
        subst hn
        simp at hu
      · obtain ⟨b, o, h, hc⟩ := hr.2 h0
        injection h with h
        subst h
        rw [Addr.add_lit]
        exact hc j u hu
    obtain ⟨v', w', hrun, h2, h3, _, h5⟩ := run_append_own_at (P := P) w base t ty e i z size bytes ht hi hz hsize hby hzs hsz v n xs hown ad m c news hr.1 hcells h1 h63 hbytes hbase
    exact ⟨v', w', hrun, h2, h3, h5⟩

theorem wpList_app {ops : Array Oper} {rest : List Oper} {o : Oper} {a : Act} {Q : Exit → Act → World → Prop} (hgd : o.guard = none) (s x : Operand) (t : TypeId)
    (ho : o.op = .call { callee := .builtin .append, args := #[s, x], argTypes := #[t, t] })
    (base : Nat) (e : TypeId) (z : Value) (size bytes : Nat) (ht : P.underlying t = some (.slice e)) (hinfo : (P.info? e).map (fun i => (i.zero, i.size, i.bytes)) = some (some z, size, bytes))
    (hzs : z.cells.size = size) (hsz : 0 < size)
    (v : Value) (n : Nat) (xs : List Value) (hs : a.eval s = v) (hown : w.ownsRow base e size v n xs)
    (A : Option Addr) (m c : Nat) (news : List Value) (hx : a.eval x = .slice A m c) (hr : HoldsC w size A m news) (h1 : ∀ u ∈ news, u.oneCell' = true)
    (hbytes : (n + m) * bytes ≤ 140737488355328) (h63 : n + m ≤ 9223372036854775807) (hbase : base ≤ w.heap.size)
    (h : ∀ v' w', w'.ownsRow base e size v' (n + m) (xs ++ news) → w.grownBy w' v.ownBlock → (v'.ownBlock = v.ownBlock ∨ v'.ownBlock = some w.heap.size) → wpList P ops Q rest (a.put o.dst v') w') : wpList P ops Q (o :: rest) a w := by
  obtain ⟨i, hi, hzz⟩ := Option.map_eq_some_iff.1 hinfo
  simp only [Prod.mk.injEq] at hzz
  obtain ⟨hz, hsize, hby⟩ := hzz
  refine wpList_plain hgd fun K hK => ?_
  obtain ⟨v', w', hrun, h2, h3, h4⟩ := run_append_c (P := P) w base t o.type e i z size bytes ht hi hz hsize hby hzs hsz v n xs hown A m c news hr h1 (by simp only [maxLen]; omega) hbytes hbase
  unfold Oper.wp execOp
  simp only [ho, resolve, invoke, builtin, Sem.run_bind, Sem.run_pure, Result.andThen_ok, List.map_toArray, List.map_cons, List.map_nil, hs, hx, hrun]
  exact hK _ _ (h v' w' h2 h3 h4)
end

/-- An integer behind a row of integers of the call's own. -/
theorem wpList_appInt (w : World) {ops : Array Oper} {rest : List Oper} {o : Oper} {a : Act} {Q : Exit → Act → World → Prop} (hgd : o.guard = none) (s x : Operand)
    (ho : o.op = .call { callee := .builtin .append, args := #[s, x], argTypes := #[26, 26] })
    (base : Nat) (v : Value) (n : Nat) (xs : List Int) (hs : a.eval s = v) (hown : w.ownsRow base 3 1 v n (xs.map (Value.int .i64)))
    (g c : Nat) (y : Int) (hx : a.eval x = .slice (some ⟨g, 0, none⟩) 1 c) (hc : w.cell? ⟨g, 0, none⟩ = some (.int .i64 y)) (hn : n ≤ 1099511627776) (hbase : base ≤ w.heap.size)
    (h : ∀ v' w', w'.ownsRow base 3 1 v' (n + 1) ((xs ++ [y]).map (Value.int .i64)) → w.grownBy w' v.ownBlock → wpList Try.prog ops Q rest (a.put o.dst v') w') : wpList Try.prog ops Q (o :: rest) a w := by
  refine wpList_app w hgd s x 26 ho base 3 (.int .i64 0) 1 8 Try.underlying26 (by kernel_rfl) rfl (by omega) v n _ hs hown (some ⟨g, 0, none⟩) 1 c [.int .i64 y] hx ⟨rfl, fun _ => ⟨g, 0, rfl, fun j u hj => ?_⟩⟩ (by simp [Value.oneCell']) (by omega) (by omega) hbase
    (fun v' w' h1 h2 _ => h v' w' (by simpa using h1) h2)
  rcases j with _ | j
  · simp at hj; subst hj; simpa using hc
  · simp at hj

/-- Integers that can be read behind a row of integers of the call's own. -/
theorem wpList_appInts (w : World) {ops : Array Oper} {rest : List Oper} {o : Oper} {a : Act} {Q : Exit → Act → World → Prop} (hgd : o.guard = none) (s x : Operand)
    (ho : o.op = .call { callee := .builtin .append, args := #[s, x], argTypes := #[26, 26] })
    (base : Nat) (v : Value) (n : Nat) (xs : List Int) (hs : a.eval s = v) (hown : w.ownsRow base 3 1 v n (xs.map (Value.int .i64)))
    (A : Option Addr) (m c : Nat) (ys : List Int) (D : Nat → Prop) (hx : a.eval x = .slice A m c) (hr : IntsL w D A m ys) (hn : n + m ≤ 1099511627776) (hbase : base ≤ w.heap.size)
    (h : ∀ v' w', w'.ownsRow base 3 1 v' (n + m) ((xs ++ ys).map (Value.int .i64)) → w.grownBy w' v.ownBlock → wpList Try.prog ops Q rest (a.put o.dst v') w') : wpList Try.prog ops Q (o :: rest) a w := by
  refine wpList_app w hgd s x 26 ho base 3 (.int .i64 0) 1 8 Try.underlying26 (by kernel_rfl) rfl (by omega) v n _ hs hown A m c (ys.map (Value.int .i64)) hx ⟨by simp [hr.1], fun hm => ?_⟩ (by simp [Value.oneCell']) (by omega) (by omega) hbase
    (fun v' w' h1 h2 _ => h v' w' (by simpa using h1) h2)
  obtain ⟨b, o, rfl, _, hc⟩ := hr.2 hm
  refine ⟨b, o, rfl, fun j u hj => ?_⟩
  have hjl : j < ys.length := by
    rcases Nat.lt_or_ge j ys.length with h | h
    · exact h
    · rw [List.getElem?_eq_none (by simpa using h)] at hj; cases hj
  rw [hc j (by have := hr.1; omega), iAt_eq hjl]
  simpa [List.getElem?_eq_getElem hjl] using hj

/-- A row of integers of the call's own, as the other words have it. -/
theorem own_of_row {w : World} {base : Nat} {v : Value} {n : Nat} {xs : List Int} (h : w.ownsRow base 3 1 v n (xs.map (Value.int .i64))) :
    ∃ a c, v = .slice a n c ∧ n ≤ c ∧ OwnInts w (fun k => base ≤ k) a n xs := by
  have hl : xs.length = n := by simpa using h.1
  rcases h.2 with ⟨rfl, rfl⟩ | ⟨g, cap, cur, rfl, hb, hg, hnc, _, hsz, htake⟩
  · exact ⟨none, 0, rfl, Nat.le_refl _, hl, fun h => absurd h (by omega)⟩
  · refine ⟨_, cap, rfl, hnc, hl, fun hn => ⟨g, cap, fun i => cur.getD i undef, rfl, hb, hnc, ⟨cur, hg, by omega, fun i hi => ?_⟩, fun i hi => ?_⟩⟩
    · simp [Array.getD, show i < cur.size by omega]
    · have h1 : (cur.toList.take (n * 1))[i]? = (xs.map (Value.int .i64))[i]? := by rw [htake]
      rw [List.getElem?_take, if_pos (by omega), List.getElem?_map, List.getElem?_eq_getElem (show i < xs.length by omega)] at h1
      rw [iAt_eq (by omega)]
      have h2 : i < cur.size := by omega
      rw [Array.getElem?_toList, Array.getElem?_eq_getElem h2] at h1
      simp [Array.getD, h2]
      simpa using h1
theorem ownEmpty (w : World) : (w.alloc (.cells #[] 3)).ownsRow w.heap.size 3 1 (.slice (some ⟨w.heap.size, 0, none⟩) 0 0) 0 (([] : List Int).map (Value.int .i64)) :=
  World.ownsRow_made w #[] 0 (Nat.le_refl _) (by simp [maxLen]) rfl
end Go.Proofs.Ytaeddcnakilnlaa
/- append onto rows whose elements need only be readable. -/
namespace Go.Proofs.Ytaeddcnakilnlaa
open Go.RowKit

theorem Rd.one {w : World} {D : Nat → Prop} {d : Dat} {v : Value} (h : Rd w D d v) : v.oneCell' = true := by cases h <;> rfl

/-- The cells of a slice that can be read. -/
theorem Rd.holds {w : World} {D : Nat → Prop} {s : Nat} {rs : List (List Dat)} {A : Option Addr} {m c : Nat} (h : Rd w D (.arr s rs) (.slice A m c)) (hs0 : 0 < s) :
    ∃ news, HoldsC w s A m news ∧ (∀ u ∈ news, u.oneCell' = true) ∧ (∀ i, i < rs.length → (rGet rs i).length = s) ∧ ∀ i j, i < rs.length → j < s → ∃ u, news[i * s + j]? = some u ∧ Rd w D (rAt rs i j) u := by
  cases h with
  | nil => exact ⟨[], ⟨by simp, fun h => absurd h (by omega)⟩, by simp, by simp, by simp⟩
  | arr s rows b o c vs hD h0 hs0' hc hm hs hcell hr =>
    have hget : ∀ k, k < rs.length * s → ((List.range (rs.length * s)).map fun k => vs (k / s) (k % s))[k]? = some (vs (k / s) (k % s)) := by
      intro k hk
      rw [List.getElem?_map, List.getElem?_range hk]; rfl
    have hq : ∀ k, k < rs.length * s → k / s < rs.length ∧ k % s < s ∧ k / s * s + k % s = k := by
      intro k hk
      refine ⟨(Nat.div_lt_iff_lt_mul hs0).2 hk, Nat.mod_lt _ hs0, ?_⟩
      rw [Nat.mul_comm]; exact Nat.div_add_mod k s
    refine ⟨(List.range (rs.length * s)).map fun k => vs (k / s) (k % s), ⟨by simp, fun _ => ⟨b, o, rfl, fun k u hk => ?_⟩⟩, ?_, hs, fun i j hi hj => ?_⟩
    · have hlt : k < rs.length * s := by
        rcases Nat.lt_or_ge k (rs.length * s) with h | h
        · exact h
        · rw [List.getElem?_eq_none (by simpa using h)] at hk; cases hk
      rw [hget k hlt] at hk
      injection hk with hk
      subst hk
      obtain ⟨q1, q2, q3⟩ := hq k hlt
      have := hcell (k / s) (k % s) q1 q2
      rw [Nat.add_assoc, q3] at this
      exact this
    · intro u hu
      obtain ⟨k, hk, rfl⟩ := List.mem_map.1 hu
      obtain ⟨q1, q2, _⟩ := hq k (by simpa using hk)
      exact (hr _ _ q1 q2).one
    · have hlt := idx_lt hi hj
      have h1 : (i * s + j) / s = i := by rw [Nat.mul_comm, Nat.mul_add_div (by omega), Nat.div_eq_of_lt hj, Nat.add_zero]
      have h2 : (i * s + j) % s = j := by rw [Nat.mul_comm, Nat.mul_add_mod, Nat.mod_eq_of_lt hj]
      have := hget _ hlt
      rw [h1, h2] at this
      exact ⟨_, this, hr i j hi hj⟩

theorem AccR.bound {w : World} {base : Nat} {D : Nat → Prop} {T : TypeId} {s : Nat} {v : Value} {rows : List (List Dat)} (h : AccR w base D T s v rows) : ∀ k, v.ownBlock = some k → base ≤ k ∧ k < w.heap.size := by
  obtain ⟨xs, h1, _⟩ := h
  exact h1.lt

theorem wpList_appR {P : Program} (w : World) {ops : Array Oper} {rest : List Oper} {o : Oper} {a : Act} {Q : Exit → Act → World → Prop} (hgd : o.guard = none) (s x : Operand) (t : TypeId)
    (ho : o.op = .call { callee := .builtin .append, args := #[s, x], argTypes := #[t, t] })
    (base : Nat) (e : TypeId) (z : Value) (size bytes : Nat) (ht : P.underlying t = some (.slice e)) (hinfo : (P.info? e).map (fun i => (i.zero, i.size, i.bytes)) = some (some z, size, bytes))
    (hzs : z.cells.size = size) (hsz : 0 < size)
    (D : Nat → Prop) (v : Value) (rows : List (List Dat)) (hs : a.eval s = v) (hacc : AccR w base D e size v rows)
    (A : Option Addr) (m c : Nat) (rs : List (List Dat)) (D2 : Nat → Prop) (hx : a.eval x = .slice A m c) (hr : Rd w D2 (.arr size rs) (.slice A m c)) (hD2 : ∀ k, k < w.heap.size → D2 k → D k ∧ v.ownBlock ≠ some k)
    (hbytes : (rows.length + m) * bytes ≤ 140737488355328) (h63 : rows.length + m ≤ 9223372036854775807) (hbase : base ≤ w.heap.size)
    (h : ∀ v' w', AccR w' base D e size v' (rows ++ rs) → Ext (fun k => base ≤ k) w w' → w.heap.size ≤ w'.heap.size → wpList P ops Q rest (a.put o.dst v') w') : wpList P ops Q (o :: rest) a w := by
  have hr' := hr.lt
  obtain ⟨news, n1, n2, n3, n4⟩ := hr'.holds hsz
  have hm : m = rs.length := by obtain ⟨a', c', e, _⟩ := hr.arr_inv; injection e
  obtain ⟨xs, h1, _, _⟩ := id hacc
  refine wpList_app w hgd s x t ho base e z size bytes ht hinfo hzs hsz v rows.length xs hs h1 A m c news hx n1 n2 hbytes h63 hbase (fun v' w' q1 q2 q3 => ?_)
  refine h v' w' ?_ ⟨q2.os, q2.tape, q2.output, q2.size, fun k hk hn => q2.block k hk (fun e => hn (h1.lt k e.symm).1)⟩ q2.size
  refine hacc.push (rs := rs) (news := news) n3 (fun i j hi hj => ?_) (fun xs' hxs' => ?_) q2 q3
  · obtain ⟨u, hu, hu2⟩ := n4 i j hi hj
    exact ⟨u, hu, hu2.mono (fun k hk => hD2 k hk.2 hk.1)⟩
  · have : xs' = xs := by
      rcases hxs'.2 with ⟨e1, e2⟩ | ⟨g, cap, cur, e1, _, hg, _, _, _, htake⟩
      · have l1 := hxs'.1
        have l2 := h1.1
        rw [e2, Nat.zero_mul] at l1 l2
        rw [List.eq_nil_of_length_eq_zero l1, List.eq_nil_of_length_eq_zero l2]
      · rcases h1.2 with ⟨f1, f2⟩ | ⟨g', cap', cur', f1, _, hg', _, _, _, htake'⟩
        · have l1 := hxs'.1
          have l2 := h1.1
          rw [f2, Nat.zero_mul] at l1 l2
          rw [List.eq_nil_of_length_eq_zero l1, List.eq_nil_of_length_eq_zero l2]
        · rw [e1] at f1
          injection f1 with f1
          injection f1 with f1
          injection f1 with f1
          subst f1
          rw [hg] at hg'
          injection hg' with hg'
          injection hg' with hg'
          rw [← htake, ← htake', hg']
    subst this
    rw [← hm]; exact q1

end Go.Proofs.Ytaeddcnakilnlaa
/- A whole element written into a slice of the call's own; rows that are filled one by one. -/
namespace Go.Proofs.Ytaeddcnakilnlaa
open Go.RowKit

/-- The cells from o on are written over. -/
def setAll (w : World) (b o : Nat) : List Value → World
  | [] => w
  | u :: us => setAll (w.setCell ⟨b, o, none⟩ u) b (o + 1) us
section
variable {D : Nat → Prop} {w : World}
end

/-- The values us hold the data ds in rows of the call's own, whose blocks lie from lo on and below hi. -/
def ToS (lo hi : Nat) (w : World) (ds : List Dat) (us : List Value) : Prop := ∃ E : Nat → Nat → Prop, (∀ i k, E i k → lo ≤ k ∧ k < hi) ∧ (∀ i i' k, E i k → E i' k → i = i') ∧ us.length = ds.length ∧
  ∀ i, i < ds.length → ∃ u, us[i]? = some u ∧ Own w (E i) (dGet ds i) u
theorem ToS.int (lo hi : Nat) (w : World) (z : Int) : ToS lo hi w [.num z] [.int .i64 z] := by
  refine ⟨fun _ _ => False, by simp, by simp, rfl, fun i hi => ?_⟩
  obtain rfl : i = 0 := by simpa using hi
  exact ⟨_, rfl, .num _ z⟩
theorem ToS.app {lo m hi : Nat} {w : World} {ds ds2 : List Dat} {us us2 : List Value} (h : ToS lo m w ds us) (h2 : ToS m hi w ds2 us2) (hlo : lo ≤ m) (hhi : m ≤ hi) : ToS lo hi w (ds ++ ds2) (us ++ us2) := by
  obtain ⟨E, q1, q2, q3, q4⟩ := h
  obtain ⟨E', r1, r2, r3, r4⟩ := h2
  refine ⟨fun i => if i < ds.length then E i else E' (i - ds.length), fun i k hk => ?_, fun i i' k hk hk' => ?_, by simp [q3, r3], fun i hi => ?_⟩
  · by_cases e : i < ds.length
    · simp only [if_pos e] at hk; have := q1 i k hk; omega
    · simp only [if_neg e] at hk; have := r1 _ k hk; omega
  · by_cases e : i < ds.length <;> by_cases e' : i' < ds.length
    · simp only [if_pos e] at hk; simp only [if_pos e'] at hk'; exact q2 i i' k hk hk'
    · simp only [if_pos e] at hk; simp only [if_neg e'] at hk'
      have := q1 i k hk; have := r1 _ k hk'; omega
    · simp only [if_neg e] at hk; simp only [if_pos e'] at hk'
      have := q1 i' k hk'; have := r1 _ k hk; omega
    · simp only [if_neg e] at hk; simp only [if_neg e'] at hk'
      have := r2 _ _ k hk hk'; omega
  · by_cases e : i < ds.length
    · obtain ⟨u, hu, ho⟩ := q4 i e
      refine ⟨u, by rw [List.getElem?_append_left (by omega)]; exact hu, ?_⟩
      show Own w (if i < ds.length then E i else E' (i - ds.length)) _ _
      rw [if_pos e]
      have : dGet (ds ++ ds2) i = dGet ds i := by simp [dGet, List.getD, List.getElem?_append_left e]
      rw [this]; exact ho
    · have hl : i - ds.length < ds2.length := by simp at hi; omega
      obtain ⟨u, hu, ho⟩ := r4 _ hl
      refine ⟨u, by rw [List.getElem?_append_right (by omega), q3]; exact hu, ?_⟩
      show Own w (if i < ds.length then E i else E' (i - ds.length)) _ _
      rw [if_neg e]
      have : dGet (ds ++ ds2) i = dGet ds2 (i - ds.length) := by simp [dGet, List.getD, List.getElem?_append_right (Nat.le_of_not_lt e)]
      rw [this]; exact ho
theorem rowOf (w : World) (c : Array Value) (T : TypeId) : (w.alloc (.cells c T)).rowIs w.heap.size T c.size (fun i => c.getD i undef) := World.rowIs_alloc w c T _ (fun i hi => by simp [Array.getD, hi])

/-- The first j of rows, then z. -/
def rowsTo (rows : List (List Dat)) (z : List Dat) (j : Nat) : List (List Dat) := rows.take j ++ List.replicate (rows.length - j) z
end Go.Proofs.Ytaeddcnakilnlaa
/- append as one step of a region that draws; rows of the call's own that grow by one element. -/
namespace Go.Proofs.Ytaeddcnakilnlaa
open Go.RowKit

theorem step_app {P : Program} {ops : Array Oper} {o : Oper} {a : Act} {w : World} {K : Act → World → Prop} {Q : Exit → Act → World → Prop} {E : Prop} (hgd : o.guard = none) (s x : Operand) (t : TypeId)
    (ho : o.op = .call { callee := .builtin .append, args := #[s, x], argTypes := #[t, t] })
    (base : Nat) (e : TypeId) (z : Value) (size bytes : Nat) (ht : P.underlying t = some (.slice e)) (hinfo : (P.info? e).map (fun i => (i.zero, i.size, i.bytes)) = some (some z, size, bytes))
    (hzs : z.cells.size = size) (hsz : 0 < size)
    (v : Value) (n : Nat) (xs : List Value) (hs : a.eval s = v) (hown : w.ownsRow base e size v n xs)
    (A : Option Addr) (m c : Nat) (news : List Value) (hx : a.eval x = .slice A m c) (hr : HoldsC w size A m news) (h1 : ∀ u ∈ news, u.oneCell' = true)
    (hbytes : (n + m) * bytes ≤ 140737488355328) (h63 : n + m ≤ 9223372036854775807) (hbase : base ≤ w.heap.size)
    (h : ∀ v' w', w'.ownsRow base e size v' (n + m) (xs ++ news) → w.grownBy w' v.ownBlock → (v'.ownBlock = v.ownBlock ∨ v'.ownBlock = some w.heap.size) → K (a.put o.dst v') w') :
    if Region.wanted o (yielded ops a.tmps) = true then Oper.wp P o a w K Q else E := by
  have hw : Region.wanted o (yielded ops a.tmps) = true := by simp [Region.wanted, hgd]
  rw [if_pos hw]
  obtain ⟨i, hi, hzz⟩ := Option.map_eq_some_iff.1 hinfo
  simp only [Prod.mk.injEq] at hzz
  obtain ⟨hz, hsize, hby⟩ := hzz
  obtain ⟨v', w', hrun, h2, h3, h4⟩ := run_append_c (P := P) w base t o.type e i z size bytes ht hi hz hsize hby hzs hsz v n xs hown A m c news hr h1 (by simp only [maxLen]; omega) hbytes hbase
  unfold Oper.wp
  simp [execOp, ho, resolve, invoke, builtin, hs, hx, hrun, Result.andThen]
  exact h v' w' h2 h3 h4
/-- The cells of a row that is owned are what they are. -/
theorem ownsRow_same {w : World} {base : Nat} {e : TypeId} {size : Nat} {v : Value} {n : Nat} {xs xs' : List Value} (h1 : w.ownsRow base e size v n xs) (hxs' : w.ownsRow base e size v n xs') : xs' = xs := by
  rcases hxs'.2 with ⟨e1, e2⟩ | ⟨g, cap, cur, e1, _, hg, _, _, _, htake⟩
  · have l1 := hxs'.1
    have l2 := h1.1
    rw [e2, Nat.zero_mul] at l1 l2
    rw [List.eq_nil_of_length_eq_zero l1, List.eq_nil_of_length_eq_zero l2]
  · rcases h1.2 with ⟨f1, f2⟩ | ⟨g', cap', cur', f1, _, hg', _, _, _, htake'⟩
    · have l1 := hxs'.1
      have l2 := h1.1
      rw [f2, Nat.zero_mul] at l1 l2
      rw [List.eq_nil_of_length_eq_zero l1, List.eq_nil_of_length_eq_zero l2]
    · rw [e1] at f1
      injection f1 with f1
      injection f1 with f1
      injection f1 with f1
      subst f1
      rw [hg] at hg'
      injection hg' with hg'
      injection hg' with hg'
      rw [← htake, ← htake', hg']

/-- append of one element, laid into block g, onto a row of the call's own. -/
theorem step_appO {P : Program} {ops : Array Oper} {o : Oper} {a : Act} {w : World} {K : Act → World → Prop} {Q : Exit → Act → World → Prop} {E : Prop} (hgd : o.guard = none) (s x : Operand) (t : TypeId)
    (ho : o.op = .call { callee := .builtin .append, args := #[s, x], argTypes := #[t, t] })
    (base : Nat) (e : TypeId) (z : Value) (size bytes : Nat) (ht : P.underlying t = some (.slice e)) (hinfo : (P.info? e).map (fun i => (i.zero, i.size, i.bytes)) = some (some z, size, bytes))
    (hzs : z.cells.size = size) (hsz : 0 < size)
    (D D' : Nat → Prop) (D2 : Nat → Nat → Prop) (v : Value) (rows : List (List Dat)) (hs : a.eval s = v) (hacc : Acc w base D e size v rows)
    (g c : Nat) (news : List Value) (r : List Dat) (hx : a.eval x = .slice (some ⟨g, 0, none⟩) 1 c) (hcells : ∀ j u, news[j]? = some u → w.cell? ⟨g, j, none⟩ = some u) (hone : ∀ u ∈ news, u.oneCell' = true)
    (hr : r.length = size) (hn : news.length = size) (hnew : ∀ j u, news[j]? = some u → Own w (D2 j) (dGet r j) u)
    (hD2 : ∀ j k, j < size → D2 j k → D' k ∧ ¬ D k ∧ v.ownBlock ≠ some k ∧ k < w.heap.size) (hdis : ∀ j j' k, j < size → j' < size → D2 j k → D2 j' k → j = j') (hD : ∀ k, D k → D' k)
    (hbytes : (rows.length + 1) * bytes ≤ 140737488355328) (h63 : rows.length + 1 ≤ 9223372036854775807) (hbase : base ≤ w.heap.size)
    (h : ∀ v' w', Acc w' base D' e size v' (rows ++ [r]) → Ext (fun k => v.ownBlock = some k) w w' → w.heap.size ≤ w'.heap.size → K (a.put o.dst v') w') :
    if Region.wanted o (yielded ops a.tmps) = true then Oper.wp P o a w K Q else E := by
  obtain ⟨xs, E', h1, _⟩ := id hacc
  refine step_app hgd s x t ho base e z size bytes ht hinfo hzs hsz v rows.length xs hs h1 (some ⟨g, 0, none⟩) 1 c news hx ⟨by rw [hn, Nat.one_mul], fun _ => ⟨g, 0, rfl, fun j u hj => by rw [Nat.zero_add]; exact hcells j u hj⟩⟩ hone hbytes h63 hbase (fun v' w' q1 q2 q3 => h v' w' ?_ ⟨q2.os, q2.tape, q2.output, q2.size, fun k hk hn => q2.block k hk (fun e => hn e.symm)⟩ q2.size)
  refine hacc.push hr hn hnew hD2 hdis hD (fun xs' hxs' => ?_) q2 q3
  rw [ownsRow_same h1 hxs']
  exact q1
theorem Acc.bound {w : World} {base : Nat} {D : Nat → Prop} {T : TypeId} {s : Nat} {v : Value} {rows : List (List Dat)} (h : Acc w base D T s v rows) : ∀ k, v.ownBlock = some k → base ≤ k ∧ k < w.heap.size := by
  obtain ⟨xs, E, h1, _⟩ := h
  exact h1.lt
end Go.Proofs.Ytaeddcnakilnlaa
/- append of one element of the call's own, told by what the element holds: as a step of a region that draws, and plain. -/
namespace Go.Proofs.Ytaeddcnakilnlaa
open Go.RowKit

theorem Acc.lt {w : World} {base : Nat} {D : Nat → Prop} {T : TypeId} {s : Nat} {v : Value} {rows : List (List Dat)} (h : Acc w base D T s v rows) : Acc w base (fun k => D k ∧ k < w.heap.size) T s v rows := by
  obtain ⟨xs, E, h1, h2, h3, h4, h5⟩ := h
  exact ⟨xs, E, h1, h2, fun i j k hi hj hk => ⟨⟨(h3 i j k hi hj hk).1, (h3 i j k hi hj hk).2.1⟩, (h3 i j k hi hj hk).2⟩, h4, h5⟩

theorem step_appT {P : Program} {ops : Array Oper} {o : Oper} {a : Act} {w : World} {K : Act → World → Prop} {Q : Exit → Act → World → Prop} {E : Prop} (hgd : o.guard = none) (s x : Operand) (t : TypeId)
    (ho : o.op = .call { callee := .builtin .append, args := #[s, x], argTypes := #[t, t] })
    (base : Nat) (e : TypeId) (z : Value) (size bytes : Nat) (ht : P.underlying t = some (.slice e)) (hinfo : (P.info? e).map (fun i => (i.zero, i.size, i.bytes)) = some (some z, size, bytes))
    (hzs : z.cells.size = size) (hsz : 0 < size)
    (D D' : Nat → Prop) (lo hi : Nat) (v : Value) (rows : List (List Dat)) (hs : a.eval s = v) (hacc : Acc w base D e size v rows)
    (g c : Nat) (news : List Value) (r : List Dat) (hx : a.eval x = .slice (some ⟨g, 0, none⟩) 1 c) (hcells : ∀ j u, news[j]? = some u → w.cell? ⟨g, j, none⟩ = some u) (hone : ∀ u ∈ news, u.oneCell' = true)
    (hr : r.length = size) (hT : ToS lo hi w r news)
    (hlo : ∀ k, lo ≤ k → k < hi → D' k ∧ ¬ D k ∧ v.ownBlock ≠ some k ∧ k < w.heap.size) (hD : ∀ k, D k → D' k)
    (hbytes : (rows.length + 1) * bytes ≤ 140737488355328) (h63 : rows.length + 1 ≤ 9223372036854775807) (hbase : base ≤ w.heap.size)
    (h : ∀ v' w', Acc w' base D' e size v' (rows ++ [r]) → Ext (fun k => v.ownBlock = some k) w w' → w.heap.size ≤ w'.heap.size → K (a.put o.dst v') w') :
    if Region.wanted o (yielded ops a.tmps) = true then Oper.wp P o a w K Q else E := by
  obtain ⟨D2, t1, t2, t3, t4⟩ := hT
  exact step_appO hgd s x t ho base e z size bytes ht hinfo hzs hsz D D' D2 v rows hs hacc g c news r hx hcells hone hr (by omega)
    (fun j u hj => by
      obtain ⟨hl, _⟩ := List.getElem?_eq_some_iff.1 hj
      obtain ⟨u', hu, ho⟩ := t4 j (by omega)
      rw [hj] at hu; injection hu with hu; subst hu; exact ho)
    (fun j k hj hk => hlo k (t1 j k hk).1 (t1 j k hk).2) (fun j j' k _ _ => t2 j j' k) hD hbytes h63 hbase h

/-- The cells of a value list that has just been laid. -/
theorem cells_lit (w : World) (us : List Value) (T : TypeId) : ∀ (j : Nat) (u : Value), us[j]? = some u → (w.alloc (.cells us.toArray T)).cell? ⟨w.heap.size, j, none⟩ = some u := by
  intro j u hj
  rw [boxk (Ext.refl _ _) j]
  simpa using hj
theorem ToS.consI {lo hi : Nat} {w : World} {z : Int} {ds2 : List Dat} {us2 : List Value} (h2 : ToS lo hi w ds2 us2) (hhi : lo ≤ hi) : ToS lo hi w (.num z :: ds2) (.int .i64 z :: us2) := (ToS.int lo lo w z).app h2 (Nat.le_refl _) hhi
/-- What a slice of the call's own holds, between two worlds. -/
theorem ToS.one {lo hi : Nat} {w : World} {D : Nat → Prop} {d : Dat} {u : Value} (h : Own w D d u) (hD : ∀ k, D k → k < w.heap.size → lo ≤ k ∧ k < hi) : ToS lo hi w [d] [u] := by
  refine ⟨fun i k => i = 0 ∧ lo ≤ k ∧ k < hi, fun i k hk => hk.2, fun i i' k hk hk' => by omega, rfl, fun i hi => ?_⟩
  obtain rfl : i = 0 := by simpa using hi
  exact ⟨u, rfl, h.lt.mono (fun k hk => ⟨rfl, hD k hk.1 hk.2⟩)⟩

/-- A call of a function of the program as one step of a region that draws. -/
theorem step_call {P : Program} {ops : Array Oper} {o : Oper} {a : Act} {w : World} {K : Act → World → Prop} {Q : Exit → Act → World → Prop} {E : Prop} (hg : o.guard = none) (F : FuncId) (xs : List Operand) (ts : Array TypeId)
    (hop : o.op = Op.call { callee := .value (.func F), args := xs.toArray, argTypes := ts }) (vals : Array Value) (hv : (xs.map a.eval).toArray = vals) (hF : (callFunc F vals).run P w = .ok (.enter F vals) w)
    {R : Ending → World → Prop} (hc : Calls P F vals w R) (hK : ∀ e w', R e w' → ∃ v, e = .returned v ∧ K (a.put o.dst v) w') :
    if Region.wanted o (yielded ops a.tmps) = true then Oper.wp P o a w K Q else E := by
  have hw : Region.wanted o (yielded ops a.tmps) = true := by simp [Region.wanted, hg]
  rw [if_pos hw]
  unfold Oper.wp execOp
  subst hv
  have e1 : a.eval (.func F) = .func (.func F) #[] #[] := rfl
  have hd : (Deferred.ofValue (.func (.func F) #[] #[]) (xs.map a.eval).toArray).run P w = .ok { target := .fn (.func F) #[], args := (xs.map a.eval).toArray } w := by simp [Deferred.ofValue]
  simp only [hop, resolve, invoke, Sem.run_bind, e1, List.map_toArray, hd, Result.andThen_ok, Array.append_empty, hF, Oper.upon_enter]
  exact hc.mono (fun e w' hr => by
    obtain ⟨v, rfl, hk⟩ := hK e w' hr
    exact hk)
end Go.Proofs.Ytaeddcnakilnlaa
/- Expressions in plain Lean: nodes, mentions. -/
namespace Go.Proofs.Ytaeddcnakilnlaa

mutual
/-- The number of nodes. -/
def nE : ExprL → Nat
  | .mk _ _ ks => nEs ks + 1
def nEs : List ExprL → Nat
  | [] => 0
  | k :: ks => nE k + nEs ks
end
theorem nE_eq (e : ExprL) : nE e = nEs e.kids + 1 := by cases e; rfl
theorem nE_pos (e : ExprL) : 1 ≤ nE e := by rw [nE_eq]; omega
theorem nEs_append (a b : List ExprL) : nEs (a ++ b) = nEs a + nEs b := by induction a <;> simp_all [nEs, Nat.add_assoc]
theorem take_succ_eAt (es : List ExprL) {j : Nat} (h : j < es.length) : es.take (j + 1) = es.take j ++ [eAt es j] := by rw [List.take_succ_eq_append_getElem h, eAt_get h]
theorem nEs_take (es : List ExprL) {j : Nat} (h : j < es.length) : nEs (es.take (j + 1)) = nEs (es.take j) + nE (eAt es j) := by rw [take_succ_eAt es h, nEs_append]; simp [nEs]
theorem nEs_take_le (es : List ExprL) (j : Nat) : nEs (es.take j) ≤ nEs es := by
  rw [← List.take_append_drop j es, nEs_append]; simp
theorem nE_le (es : List ExprL) {j : Nat} (h : j < es.length) : nE (eAt es j) ≤ nEs es := by
  have h1 := nEs_take es h
  have h2 := nEs_take_le es (j + 1)
  omega
theorem nEs_len (es : List ExprL) : es.length ≤ nEs es := by
  induction es with
  | nil => simp
  | cons e es ih => have := nE_pos e; simp only [List.length_cons, nEs]; omega

mutual
/-- How often a variable is mentioned. -/
def mE (v : Int) : ExprL → Nat
  | .mk op num ks => (if op = 12 ∧ num = v then 1 else 0) + mEs v ks
def mEs (v : Int) : List ExprL → Nat
  | [] => 0
  | k :: ks => mE v k + mEs v ks
end
theorem mEs_append (v : Int) (a b : List ExprL) : mEs v (a ++ b) = mEs v a + mEs v b := by induction a <;> simp_all [mEs, Nat.add_assoc]
theorem mEs_take (v : Int) (es : List ExprL) {j : Nat} (h : j < es.length) : mEs v (es.take (j + 1)) = mEs v (es.take j) + mE v (eAt es j) := by rw [take_succ_eAt es h, mEs_append]; simp [mEs]
mutual
theorem mE_le (v : Int) : ∀ e : ExprL, mE v e ≤ nE e
  | .mk op num ks => by
    have := mEs_le v ks
    rw [mE, nE]
    split <;> omega
theorem mEs_le (v : Int) : ∀ es : List ExprL, mEs v es ≤ nEs es
  | [] => Nat.le_refl _
  | k :: ks => by
    have := mE_le v k
    have := mEs_le v ks
    rw [mEs, nEs]
    omega
end
theorem mEs_take_le (v : Int) (es : List ExprL) (j : Nat) : mEs v (es.take j) ≤ mEs v es := by
  conv => rhs; rw [← List.take_append_drop j es, mEs_append]
  omega
end Go.Proofs.Ytaeddcnakilnlaa
