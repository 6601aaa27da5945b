/- Literals: integers, constructors, declarations that have just been written down. -/
import Derived.Test.YtmekdccgjgfiaaaQAB
import Derived.Deep.OwnRows
import Derived.Maps.AppendAt
import Derived.Deep.AppendLies
import Derived.RegionTactic
import Derived.OwnWalk
namespace Go.Proofs.Ytmekdccgjgfiaaa
open Go.RowKit

theorem Rd.litD (w : World) (D : Nat → Prop) (T : TypeId) (s : Nat) (cs : Array Value) (rows : List (List Dat)) (n : Nat) (hB : D w.heap.size) (hn : n = rows.length) (hm : n ≤ 9223372036854775807) (hs0 : 0 < s) (hcs : cs.size = n * s)
    (hl : ∀ i, i < rows.length → (rGet rows i).length = s) (hr : ∀ i j, i < rows.length → j < s → ∃ u, cs[i * s + j]? = some u ∧ Rd w D (rAt rows i j) u) :
    Rd (w.alloc (.cells cs T)) D (.arr s rows) (.slice (some ⟨w.heap.size, 0, none⟩) n n) := by
  subst hn
  rcases Nat.eq_zero_or_pos rows.length with h0 | h0
  · have : rows = [] := List.eq_nil_of_length_eq_zero h0
    subst this
    exact .nil s _ _
  refine .arr s rows w.heap.size 0 rows.length (fun i j => cs.getD (i * s + j) undef) hB h0 hs0 (Nat.le_refl _) hm hl (fun i j hi hj => ?_) (fun i j hi hj => ?_)
  · obtain ⟨u, hu, _⟩ := hr i j hi hj
    rw [cell_of_row _ w.heap.size _ cs T (0, 0) (heap_alloc_new w _), Nat.zero_add]
    obtain ⟨hlt, e⟩ := Array.getElem?_eq_some_iff.1 hu
    simp [Array.getD, hlt]
  · obtain ⟨u, hu, ho⟩ := hr i j hi hj
    obtain ⟨hlt, e⟩ := Array.getElem?_eq_some_iff.1 hu
    have : cs.getD (i * s + j) undef = u := by simp [Array.getD, hlt, e]
    show Rd _ _ _ (cs.getD (i * s + j) undef)
    rw [this]
    exact ho.ext ((Ext.refl (fun _ => False) w).alloc _) (fun _ _ h => h)

theorem lit_intsD (w : World) (D : Nat → Prop) (T : TypeId) (xs : List Int) (cs : Array Value) (n : Nat) (hB : D w.heap.size) (hc : cs = (xs.map (Value.int .i64)).toArray) (hn : n = xs.length) (hm : n ≤ 1000) :
    Rd (w.alloc (.cells cs T)) D (encInts xs) (.slice (some ⟨w.heap.size, 0, none⟩) n n) := by
  subst hc hn
  refine Rd.litD w D T 1 _ (xs.map rowI) _ hB (by simp) (by omega) (by omega) (by simp) (fun i hi => by rw [ints_row xs i (by simpa using hi)]; rfl) (fun i j hi hj => ?_)
  obtain rfl : j = 0 := by omega
  have hi' : i < xs.length := by simpa using hi
  refine ⟨.int .i64 (iAt xs i), by simp [hi', iAt], ?_⟩
  rw [rAt, ints_row xs i hi']
  exact .num _

theorem lit_ints (w : World) (B : Nat) (T : TypeId) (xs : List Int) (cs : Array Value) (n : Nat) (hB : B ≤ w.heap.size) (hc : cs = (xs.map (Value.int .i64)).toArray) (hn : n = xs.length) (hm : n ≤ 1000) :
    Rd (w.alloc (.cells cs T)) (fun k => B ≤ k) (encInts xs) (.slice (some ⟨w.heap.size, 0, none⟩) n n) := lit_intsD w _ T xs cs n hB hc hn hm

/-- The values us read as the lists cs. -/
def AllC (w : World) (D : Nat → Prop) : List (List Int) → List Value → Prop
  | [], us => us = []
  | c :: cs, us => ∃ u us', us = u :: us' ∧ Rd w D (encInts c) u ∧ AllC w D cs us'
theorem AllC.len {w : World} {D : Nat → Prop} {cs : List (List Int)} {us : List Value} (h : AllC w D cs us) : us.length = cs.length := by
  induction cs generalizing us with
  | nil => have : us = [] := h; simp [this]
  | cons c cs ih => obtain ⟨u, us', rfl, _, h2⟩ := h; simp [ih h2]
theorem AllC.at {w : World} {D : Nat → Prop} {cs : List (List Int)} {us : List Value} (h : AllC w D cs us) (i : Nat) (hi : i < cs.length) : ∃ u, us[i]? = some u ∧ Rd w D (encInts (cAt cs i)) u := by
  induction cs generalizing us i with
  | nil => simp at hi
  | cons c cs ih =>
    obtain ⟨u, us', rfl, h1, h2⟩ := h
    rcases i with _ | i
    · exact ⟨u, rfl, h1⟩
    · obtain ⟨u', e, h3⟩ := ih h2 i (by simpa using hi)
      exact ⟨u', by simpa using e, h3⟩
theorem lit_consD (w : World) (D : Nat → Prop) (T : TypeId) (xs : List (List Int)) (us : List Value) (n : Nat) (hB : D w.heap.size) (h : AllC w D xs us) (hn : n = xs.length) (hm : n ≤ 1000) :
    Rd (w.alloc (.cells us.toArray T)) D (encCons xs) (.slice (some ⟨w.heap.size, 0, none⟩) n n) := by
  subst hn
  refine Rd.litD w D T 1 _ (xs.map rowC) _ hB (by simp) (by omega) (by omega) (by simp [h.len]) (fun i hi => by rw [cons_row xs i (by simpa using hi)]; rfl) (fun i j hi hj => ?_)
  obtain rfl : j = 0 := by omega
  have hi' : i < xs.length := by simpa using hi
  obtain ⟨u, hu, hr⟩ := h.at i hi'
  refine ⟨u, by simpa using hu, ?_⟩
  rw [rAt, cons_row xs i hi']
  exact hr

theorem lit_cons (w : World) (B : Nat) (T : TypeId) (xs : List (List Int)) (us : List Value) (n : Nat) (hB : B ≤ w.heap.size) (h : AllC w (fun k => B ≤ k) xs us) (hn : n = xs.length) (hm : n ≤ 1000) :
    Rd (w.alloc (.cells us.toArray T)) (fun k => B ≤ k) (encCons xs) (.slice (some ⟨w.heap.size, 0, none⟩) n n) := lit_consD w _ T xs us n hB h hn hm

/-- The cells us, three each, read as declarations. -/
def AllD (w : World) (D : Nat → Prop) : List DeclL → List Value → Prop
  | [], us => us = []
  | d :: ds, us => ∃ u us', us = .int .i64 d.from_ :: .int .i64 d.to_ :: u :: us' ∧ Rd w D (encCons d.cons) u ∧ AllD w D ds us'
theorem AllD.len {w : World} {D : Nat → Prop} {cs : List DeclL} {us : List Value} (h : AllD w D cs us) : us.length = cs.length * 3 := by
  induction cs generalizing us with
  | nil => have : us = [] := h; simp [this]
  | cons c cs ih => obtain ⟨u, us', rfl, _, h2⟩ := h; simp [ih h2, Nat.add_mul]
theorem AllD.at {w : World} {D : Nat → Prop} {cs : List DeclL} {us : List Value} (h : AllD w D cs us) (i : Nat) (hi : i < cs.length) : us[i * 3]? = some (.int .i64 (dAt cs i).from_) ∧ us[i * 3 + 1]? = some (.int .i64 (dAt cs i).to_) ∧ ∃ u, us[i * 3 + 2]? = some u ∧ Rd w D (encCons (dAt cs i).cons) u := by
  induction cs generalizing us i with
  | nil => simp at hi
  | cons c cs ih =>
    obtain ⟨u, us', rfl, h1, h2⟩ := h
    rcases i with _ | i
    · exact ⟨rfl, rfl, u, rfl, h1⟩
    · obtain ⟨e0, e1, u', e, h3⟩ := ih h2 i (by simpa using hi)
      have q : (i + 1) * 3 = i * 3 + 3 := by omega
      have qd : dAt (c :: cs) (i + 1) = dAt cs i := by simp [dAt, List.getD]
      rw [qd]
      refine ⟨?_, ?_, u', ?_, h3⟩
      · rw [q]; simpa using e0
      · rw [q, show i * 3 + 3 + 1 = i * 3 + 1 + 3 by omega]; simpa using e1
      · rw [q, show i * 3 + 3 + 2 = i * 3 + 2 + 3 by omega]; simpa using e
theorem AllD.rd {w : World} {D : Nat → Prop} {cs : List DeclL} {us : List Value} (h : AllD w D cs us) : ∀ i j, i < (cs.map rowD).length → j < 3 → ∃ u, us.toArray[i * 3 + j]? = some u ∧ Rd w D (rAt (cs.map rowD) i j) u := by
  intro i j hi hj
  have hi' : i < cs.length := by simpa using hi
  obtain ⟨e0, e1, u, e2, hr⟩ := h.at i hi'
  rw [rAt, decls_row cs i hi']
  rcases j with _ | _ | _ | j
  · exact ⟨_, by simpa using e0, .num _⟩
  · exact ⟨_, by simpa using e1, .num _⟩
  · exact ⟨u, by simpa using e2, hr⟩
  · omega
theorem lit_declsD (w : World) (D : Nat → Prop) (T : TypeId) (ds : List DeclL) (us : List Value) (n : Nat) (hB : D w.heap.size) (h : AllD w D ds us) (hn : n = ds.length) (hm : n ≤ 1000) :
    Rd (w.alloc (.cells us.toArray T)) D (encDecls ds) (.slice (some ⟨w.heap.size, 0, none⟩) n n) := by
  subst hn
  exact Rd.litD w D T 3 us.toArray (ds.map rowD) ds.length hB (by simp) (by omega) (by omega) (by simp [h.len]) (fun i hi => by rw [decls_row ds i (by simpa using hi)]; rfl) h.rd
theorem lit_decls (w : World) (B : Nat) (T : TypeId) (ds : List DeclL) (us : List Value) (n : Nat) (hB : B ≤ w.heap.size) (h : AllD w (fun k => B ≤ k) ds us) (hn : n = ds.length) (hm : n ≤ 1000) :
    AccR (w.alloc (.cells us.toArray T)) B (fun k => B ≤ k) T 3 (.slice (some ⟨w.heap.size, 0, none⟩) n n) (ds.map rowD) := by
  subst hn
  exact (AccR.lit w (fun k => B ≤ k) T 3 us.toArray (ds.map rowD) ds.length (by simp) (by omega) (by simp [h.len]) (fun i hi => by rw [decls_row ds i (by simpa using hi)]; rfl) h.rd).lower hB
theorem Rd.nilC (w : World) (D : Nat → Prop) (a : Option Addr) (c : Nat) : Rd w D (encCons []) (.slice a 0 c) := .nil 1 a c
theorem Rd.nilI (w : World) (D : Nat → Prop) (a : Option Addr) (c : Nat) : Rd w D (encInts []) (.slice a 0 c) := .nil 1 a c
theorem Rd.k {w w' : World} {D : Nat → Prop} {d : Dat} {v : Value} (h : Rd w D d v) (hx : Keep w w') : Rd w' D d v := h.ext hx (fun _ _ h => h)
theorem boxk {w w2 : World} {cs : Array Value} {T : TypeId} (h : Keep (w.alloc (.cells cs T)) w2) (i : Nat) : w2.cell? ⟨w.heap.size, i, none⟩ = cs[i]? := by
  rw [h.cell (by simp) (fun h => h), cell_of_row _ w.heap.size i cs T (0, 0) (heap_alloc_new w _)]
theorem Keep.at {w w' : World} (k : Keep w.drew w') {p : Addr} {v : Value} (h : w.cell? p = some v) : w'.cell? p = some v := by
  have hb : p.block < w.drew.heap.size := World.block_lt_of_cell? _ _ h
  rw [k.cell hb (fun h => h)]; exact h
theorem Keep.al (w : World) (o : Obj) : Keep w (w.alloc o) := (Ext.refl _ w).alloc o
end Go.Proofs.Ytmekdccgjgfiaaa
/- Types, in plain Lean: what valid declarations are, and lemmas on lists. No program. -/
namespace Go.Proofs.Ytmekdccgjgfiaaa

theorem iAt_eq {xs : List Int} {i : Nat} (h : i < xs.length) : iAt xs i = xs[i] := by simp [iAt, List.getElem?_eq_getElem h]
theorem cAt_eq {xs : List (List Int)} {i : Nat} (h : i < xs.length) : cAt xs i = xs[i] := by simp [cAt, List.getElem?_eq_getElem h]
theorem dAt_eq {xs : List DeclL} {i : Nat} (h : i < xs.length) : dAt xs i = xs[i] := by simp [dAt, List.getElem?_eq_getElem h]
theorem iAll {xs : List Int} {p : Int → Bool} : xs.all p = true ↔ ∀ i, i < xs.length → p (iAt xs i) = true := by
  rw [List.all_eq_true]
  constructor
  · intro h i hi; rw [iAt_eq hi]; exact h _ (List.getElem_mem _)
  · intro h x hx
    obtain ⟨i, hi, rfl⟩ := List.getElem_of_mem hx
    rw [← iAt_eq hi]; exact h i hi
theorem cAll {xs : List (List Int)} {p : List Int → Bool} : xs.all p = true ↔ ∀ i, i < xs.length → p (cAt xs i) = true := by
  rw [List.all_eq_true]
  constructor
  · intro h i hi; rw [cAt_eq hi]; exact h _ (List.getElem_mem _)
  · intro h x hx
    obtain ⟨i, hi, rfl⟩ := List.getElem_of_mem hx
    rw [← cAt_eq hi]; exact h i hi
theorem nAll {n : Nat} {p : Nat → Bool} : (List.range n).all p = true ↔ ∀ i, i < n → p i = true := by
  simp [List.all_eq_true]
theorem iAll_false {xs : List Int} {p : Int → Bool} {i : Nat} (hi : i < xs.length) (h : p (iAt xs i) = false) : xs.all p = false := by
  cases hx : xs.all p
  · rfl
  · rw [iAll] at hx; rw [hx i hi] at h; cases h
theorem cAll_false {xs : List (List Int)} {p : List Int → Bool} {i : Nat} (hi : i < xs.length) (h : p (cAt xs i) = false) : xs.all p = false := by
  cases hx : xs.all p
  · rfl
  · rw [cAll] at hx; rw [hx i hi] at h; cases h
theorem nAll_false {n : Nat} {p : Nat → Bool} {i : Nat} (hi : i < n) (h : p i = false) : (List.range n).all p = false := by
  cases hx : (List.range n).all p
  · rfl
  · rw [nAll] at hx; rw [hx i hi] at h; cases h

def isT (n : Nat) (t : Int) : Bool := decide (0 ≤ t ∧ t ≤ (n : Int))
def allT (n : Nat) (xs : List Int) : Bool := xs.all (isT n)
/-- The fields of a constructor are right. -/
def conOk (n : Nat) (c : List Int) : Bool := decide (c.length ≤ 3) && allT n c
def sameArrow (d e : DeclL) : Bool := decide (d.cons.length = 0) && decide (d.from_ = e.from_) && decide (d.to_ = e.to_)
def declOk (ds : List DeclL) (k : Nat) : Bool :=
  if 0 < (dAt ds k).cons.length then decide ((dAt ds k).cons.length ≤ 3 ∧ (dAt ds k).from_ = 0 ∧ (dAt ds k).to_ = 0) && (dAt ds k).cons.all (conOk ds.length)
  else isT ds.length (dAt ds k).from_ && isT ds.length (dAt ds k).to_ && (List.range k).all fun i => !sameArrow (dAt ds i) (dAt ds k)
def typesOk (ds : List DeclL) : Bool := decide (ds.length ≤ 4) && (List.range ds.length).all (declOk ds)
end Go.Proofs.Ytmekdccgjgfiaaa
/- Slices of the call's own: rows of cells that are known whole; integers, constructors and declarations in them; make. -/
namespace Go.Proofs.Ytmekdccgjgfiaaa
open Go.RowKit

section
variable {S D D' : Nat → Prop} {w w' : World} {b N : Nat} {T : TypeId} {f : Nat → Value}
theorem row_ext (h : w.rowIs b T N f) (hx : Ext S w w') (hs : ¬ S b) : w'.rowIs b T N f := h.of_block (hx.block b h.lt hs)
theorem row_below {B : Nat} (h : w.rowIs b T N f) (hx : Below B w w') (hb : b < B) : w'.rowIs b T N f := h.of_block (hx.block b hb)
theorem row_drewN (h : w.rowIs b T N f) (k : Nat) : (w.drewN k).rowIs b T N f := h
end

/-- make of n elements of s cells each: a new row of zero values; of the world behind it no more is said than what a walk wants. -/
theorem wpList_makeN {P : Program} (w : World) {ops : Array Oper} {rest : List Oper} {o : Oper} {a : Act} {Q : Exit → Act → World → Prop}
    (hg : o.guard = none) (l c : Operand) (t : TypeId) (hop : o.op = Op.makeSlice t l c)
    (e : TypeId) (z : Value) (zs : Array Value) (s bytes : Nat) (h1 : P.underlying t = some (.slice e)) (hinfo : (P.info? e).map (fun i => (i.zero, i.size, i.bytes)) = some (some z, s, bytes)) (hzs : z.cells = zs) (hsz : zs.size = s)
    (n : Nat) (hl : a.eval l = .int .i64 (n : Int)) (hc : a.eval c = .int .i64 (n : Int)) (b2 : bytes * n ≤ 281474976710656) (b3 : n ≤ 9223372036854775807)
    (hK : ∀ w', w'.rowIs w.heap.size e (n * s) (fun i => zs.getD (i % s) undef) → Keep w w' → w'.heap.size = w.heap.size + 1 → wpList P ops Q rest (a.put o.dst (.slice (some ⟨w.heap.size, 0, none⟩) n n)) w') :
    wpList P ops Q (o :: rest) a w := by
  refine wpList_plain hg fun K hK' => ?_
  obtain ⟨i, hi, hzz⟩ := Option.map_eq_some_iff.1 hinfo
  simp only [Prod.mk.injEq] at hzz
  obtain ⟨hz, hs, hb⟩ := hzz
  have hb' : (i.bytes : Int) * (n : Int) ≤ 281474976710656 := by
    have h : ((bytes * n : Nat) : Int) ≤ 281474976710656 := by omega
    rw [Int.natCast_mul] at h
    rw [hb]; exact h
  have hrun := run_make (P := P) w t e i z h1 hi hz .i64 .i64 n n (by omega) (Int.le_refl _) hb' (by omega)
  simp only [Int.toNat_natCast, hs, hzs] at hrun
  unfold Oper.wp
  simp [execOp, hop, hl, hc, hrun, Result.andThen]
  refine hK' _ _ (hK _ ?_ ((Ext.refl _ w).alloc _) (by simp))
  refine ⟨_, heap_alloc_new w _, size_madeCells _ _, fun j hj => ?_⟩
  have hs0 : 0 < s := by
    rcases Nat.eq_zero_or_pos s with h | h
    · rw [h] at hj; omega
    · exact h
  have hjs : j % s < zs.size := by rw [hsz]; exact Nat.mod_lt _ hs0
  have e1 : zs[j % s]! = zs.getD (j % s) undef := by
    rw [getElem!_pos zs (j % s) hjs]
    simp [Array.getD, hjs]
  simp only [madeCells, hsz]
  rw [Array.getElem?_map, Array.getElem?_range]
  simp only [hj, if_true, Option.map_some]
  rw [e1]

/-- A slice of integers of the call's own, in a block of D. -/
def OwnInts (w : World) (D : Nat → Prop) (a : Option Addr) (n : Nat) (xs : List Int) : Prop :=
  xs.length = n ∧ (0 < n → ∃ b N f, a = some ⟨b, 0, none⟩ ∧ D b ∧ n ≤ N ∧ w.rowIs b 3 N f ∧ ∀ i, i < n → f i = .int .i64 (iAt xs i))
def OwnCons (w : World) (D : Nat → Prop) (a : Option Addr) (n : Nat) (cs : List (List Int)) : Prop :=
  cs.length = n ∧ (0 < n → ∃ b N f, a = some ⟨b, 0, none⟩ ∧ D b ∧ n ≤ N ∧ w.rowIs b 134 N f ∧ ∀ i, i < n → ∃ a' m c, f i = .slice a' m c ∧ m ≤ c ∧ OwnInts w D a' m (cAt cs i))
def OwnDecls (w : World) (D : Nat → Prop) (a : Option Addr) (n : Nat) (ds : List DeclL) : Prop :=
  ds.length = n ∧ (0 < n → ∃ b N f, a = some ⟨b, 0, none⟩ ∧ D b ∧ n * 3 ≤ N ∧ w.rowIs b 93 N f ∧ ∀ i, i < n → f (i * 3) = .int .i64 (dAt ds i).from_ ∧ f (i * 3 + 1) = .int .i64 (dAt ds i).to_ ∧
    ∃ a' m c, f (i * 3 + 2) = .slice a' m c ∧ m ≤ c ∧ OwnCons w D a' m (dAt ds i).cons)

section
variable {S D D' : Nat → Prop} {w w' : World} {a : Option Addr} {n : Nat}
theorem OwnInts.ext {xs : List Int} (h : OwnInts w D a n xs) (hx : Ext S w w') (hs : ∀ k, D k → ¬ S k) : OwnInts w' D a n xs := by
  refine ⟨h.1, fun hn => ?_⟩
  obtain ⟨b, N, f, rfl, hd, hN, hr, hc⟩ := h.2 hn
  exact ⟨b, N, f, rfl, hd, hN, row_ext hr hx (hs _ hd), hc⟩
theorem OwnInts.mono {xs : List Int} (h : OwnInts w D a n xs) (hs : ∀ k, D k → D' k) : OwnInts w D' a n xs := by
  refine ⟨h.1, fun hn => ?_⟩
  obtain ⟨b, N, f, rfl, hd, hN, hr, hc⟩ := h.2 hn
  exact ⟨b, N, f, rfl, hs _ hd, hN, hr, hc⟩
theorem OwnInts.read {xs : List Int} (h : OwnInts w D a n xs) : IntsL w D a n xs := by
  refine ⟨h.1, fun hn => ?_⟩
  obtain ⟨b, N, f, rfl, hd, hN, hr, hc⟩ := h.2 hn
  exact ⟨b, 0, rfl, hd, fun i hi => by rw [Nat.zero_add, hr.cell (by omega), hc i hi]⟩
theorem OwnCons.ext {cs : List (List Int)} (h : OwnCons w D a n cs) (hx : Ext S w w') (hs : ∀ k, D k → ¬ S k) : OwnCons w' D a n cs := by
  refine ⟨h.1, fun hn => ?_⟩
  obtain ⟨b, N, f, rfl, hd, hN, hr, hc⟩ := h.2 hn
  refine ⟨b, N, f, rfl, hd, hN, row_ext hr hx (hs _ hd), fun i hi => ?_⟩
  obtain ⟨a', m, c, h1, h2, h3⟩ := hc i hi
  exact ⟨a', m, c, h1, h2, h3.ext hx hs⟩
theorem OwnCons.mono {cs : List (List Int)} (h : OwnCons w D a n cs) (hs : ∀ k, D k → D' k) : OwnCons w D' a n cs := by
  refine ⟨h.1, fun hn => ?_⟩
  obtain ⟨b, N, f, rfl, hd, hN, hr, hc⟩ := h.2 hn
  refine ⟨b, N, f, rfl, hs _ hd, hN, hr, fun i hi => ?_⟩
  obtain ⟨a', m, c, h1, h2, h3⟩ := hc i hi
  exact ⟨a', m, c, h1, h2, h3.mono hs⟩
theorem OwnCons.read {cs : List (List Int)} (h : OwnCons w D a n cs) : ConsR w D a n cs := by
  refine ⟨h.1, fun hn => ?_⟩
  obtain ⟨b, N, f, rfl, hd, hN, hr, hc⟩ := h.2 hn
  refine ⟨b, 0, rfl, hd, fun i hi => ?_⟩
  obtain ⟨a', m, c, h1, h2, h3⟩ := hc i hi
  exact ⟨a', m, c, by rw [Nat.zero_add, hr.cell (by omega), h1], h2, h3.read⟩
theorem OwnDecls.ext {ds : List DeclL} (h : OwnDecls w D a n ds) (hx : Ext S w w') (hs : ∀ k, D k → ¬ S k) : OwnDecls w' D a n ds := by
  refine ⟨h.1, fun hn => ?_⟩
  obtain ⟨b, N, f, rfl, hd, hN, hr, hc⟩ := h.2 hn
  refine ⟨b, N, f, rfl, hd, hN, row_ext hr hx (hs _ hd), fun i hi => ?_⟩
  obtain ⟨h0, h1, a', m, c, h2, h3, h4⟩ := hc i hi
  exact ⟨h0, h1, a', m, c, h2, h3, h4.ext hx hs⟩
theorem OwnDecls.mono {ds : List DeclL} (h : OwnDecls w D a n ds) (hs : ∀ k, D k → D' k) : OwnDecls w D' a n ds := by
  refine ⟨h.1, fun hn => ?_⟩
  obtain ⟨b, N, f, rfl, hd, hN, hr, hc⟩ := h.2 hn
  refine ⟨b, N, f, rfl, hs _ hd, hN, hr, fun i hi => ?_⟩
  obtain ⟨h0, h1, a', m, c, h2, h3, h4⟩ := hc i hi
  exact ⟨h0, h1, a', m, c, h2, h3, h4.mono hs⟩
theorem OwnDecls.read {ds : List DeclL} (h : OwnDecls w D a n ds) : DeclsR w D a n ds := by
  refine ⟨h.1, fun hn => ?_⟩
  obtain ⟨b, N, f, rfl, hd, hN, hr, hc⟩ := h.2 hn
  refine ⟨b, 0, rfl, hd, fun i hi => ?_⟩
  obtain ⟨h0, h1, a', m, c, h2, h3, h4⟩ := hc i hi
  exact ⟨by rw [Nat.zero_add, hr.cell (by omega), h0], by rw [Nat.zero_add, hr.cell (by omega), h1], a', m, c, by rw [Nat.zero_add, hr.cell (by omega), h2], h3, h4.read⟩
end
end Go.Proofs.Ytmekdccgjgfiaaa
/- append onto a row of the call's own: elements that can be read; integers. -/
namespace Go.Proofs.Ytmekdccgjgfiaaa
open Go.RowKit

/-- A slice of m elements of s cells each that holds the cells xs. -/
def HoldsC (w : World) (s : Nat) (A : Option Addr) (m : Nat) (xs : List Value) : Prop :=
  xs.length = m * s ∧ (0 < m → ∃ b o, A = some ⟨b, o, none⟩ ∧ ∀ j u, xs[j]? = some u → w.cell? ⟨b, o + j, none⟩ = some u)

section
variable {P : Program} (w : World)

theorem run_append_nil0 (base : Nat) (t ty e : TypeId) (i : TypeInfo) (size : Nat) (ht : P.underlying t = some (.slice e)) (hi : P.info? e = some i)
    (v : Value) (n : Nat) (xs : List Value) (hown : w.ownsRow base e size v n xs) (c : Nat) : (Builtin.append_ #[t, t] ty #[v, .slice none 0 c]).run P w = .ok v w := by
  rcases hown.2 with ⟨rfl, rfl⟩ | ⟨g, cap, cur, rfl, _, _, hnc, _⟩
  · simp [Builtin.append_, run_underlying ht, sizeOf, typeInfo, hi, Builtin.lenOf, Builtin.firstCells]
  · simp [Builtin.append_, run_underlying ht, sizeOf, typeInfo, hi, Builtin.lenOf, Builtin.firstCells, hnc, storeCells]

theorem run_append_c (base : Nat) (t ty e : TypeId) (i : TypeInfo) (z : Value) (size bytes : Nat) (ht : P.underlying t = some (.slice e)) (hi : P.info? e = some i) (hz : i.zero = some z)
    (hsize : i.size = size) (hby : i.bytes = bytes) (hzs : z.cells.size = size) (hsz : 0 < size)
    (v : Value) (n : Nat) (xs : List Value) (hown : w.ownsRow base e size v n xs)
    (A : Option Addr) (m c : Nat) (news : List Value) (hr : HoldsC w size A m news) (h1 : ∀ u ∈ news, u.oneCell' = true)
    (h63 : n + m ≤ maxLen) (hbytes : (n + m) * bytes ≤ 140737488355328) (hbase : base ≤ w.heap.size) :
    ∃ v' w', (Builtin.append_ #[t, t] ty #[v, .slice A m c]).run P w = .ok v' w' ∧ w'.ownsRow base e size v' (n + m) (xs ++ news) ∧ w.grownBy w' v.ownBlock ∧
      (v'.ownBlock = v.ownBlock ∨ v'.ownBlock = some w.heap.size) := by
  rcases A with _ | ad
  · have hm : m = 0 := by
      rcases Nat.eq_zero_or_pos m with h0 | h0
      · exact h0
      · obtain ⟨b, o, h, _⟩ := hr.2 h0
        cases h
    subst hm
    have hn : news = [] := List.eq_nil_of_length_eq_zero (by simpa using hr.1)
    subst hn
    exact ⟨v, w, run_append_nil0 w base t ty e i size ht hi v n xs hown c, by simpa using hown, World.grownBy.refl w _, .inl rfl⟩
  · have hcells : ∀ j u, news[j]? = some u → w.cell? (ad.add j) = some u := by
      intro j u hu
      rcases Nat.eq_zero_or_pos m with h0 | h0
      · subst h0
        have hn : news = [] := List.eq_nil_of_length_eq_zero (by simpa using hr.1)
        subst hn
        simp at hu
      · obtain ⟨b, o, h, hc⟩ := hr.2 h0
        injection h with h
        subst h
        rw [Addr.add_lit]
        exact hc j u hu
    obtain ⟨v', w', hrun, h2, h3, _, h5⟩ := run_append_own_at (P := P) w base t ty e i z size bytes ht hi hz hsize hby hzs hsz v n xs hown ad m c news hr.1 hcells h1 h63 hbytes hbase
    exact ⟨v', w', hrun, h2, h3, h5⟩

theorem wpList_app {ops : Array Oper} {rest : List Oper} {o : Oper} {a : Act} {Q : Exit → Act → World → Prop} (hgd : o.guard = none) (s x : Operand) (t : TypeId)
    (ho : o.op = .call { callee := .builtin .append, args := #[s, x], argTypes := #[t, t] })
    (base : Nat) (e : TypeId) (z : Value) (size bytes : Nat) (ht : P.underlying t = some (.slice e)) (hinfo : (P.info? e).map (fun i => (i.zero, i.size, i.bytes)) = some (some z, size, bytes))
    (hzs : z.cells.size = size) (hsz : 0 < size)
    (v : Value) (n : Nat) (xs : List Value) (hs : a.eval s = v) (hown : w.ownsRow base e size v n xs)
    (A : Option Addr) (m c : Nat) (news : List Value) (hx : a.eval x = .slice A m c) (hr : HoldsC w size A m news) (h1 : ∀ u ∈ news, u.oneCell' = true)
    (hbytes : (n + m) * bytes ≤ 140737488355328) (h63 : n + m ≤ 9223372036854775807) (hbase : base ≤ w.heap.size)
    (h : ∀ v' w', w'.ownsRow base e size v' (n + m) (xs ++ news) → w.grownBy w' v.ownBlock → (v'.ownBlock = v.ownBlock ∨ v'.ownBlock = some w.heap.size) → wpList P ops Q rest (a.put o.dst v') w') : wpList P ops Q (o :: rest) a w := by
  obtain ⟨i, hi, hzz⟩ := Option.map_eq_some_iff.1 hinfo
  simp only [Prod.mk.injEq] at hzz
  obtain ⟨hz, hsize, hby⟩ := hzz
  refine wpList_plain hgd fun K hK => ?_
  obtain ⟨v', w', hrun, h2, h3, h4⟩ := run_append_c (P := P) w base t o.type e i z size bytes ht hi hz hsize hby hzs hsz v n xs hown A m c news hr h1 (by simp only [maxLen]; omega) hbytes hbase
  unfold Oper.wp execOp
  simp only [ho, resolve, invoke, builtin, Sem.run_bind, Sem.run_pure, Result.andThen_ok, List.map_toArray, List.map_cons, List.map_nil, hs, hx, hrun]
  exact hK _ _ (h v' w' h2 h3 h4)
end

/-- An integer behind a row of integers of the call's own. -/
theorem wpList_appInt (w : World) {ops : Array Oper} {rest : List Oper} {o : Oper} {a : Act} {Q : Exit → Act → World → Prop} (hgd : o.guard = none) (s x : Operand)
    (ho : o.op = .call { callee := .builtin .append, args := #[s, x], argTypes := #[26, 26] })
    (base : Nat) (v : Value) (n : Nat) (xs : List Int) (hs : a.eval s = v) (hown : w.ownsRow base 3 1 v n (xs.map (Value.int .i64)))
    (g c : Nat) (y : Int) (hx : a.eval x = .slice (some ⟨g, 0, none⟩) 1 c) (hc : w.cell? ⟨g, 0, none⟩ = some (.int .i64 y)) (hn : n ≤ 1099511627776) (hbase : base ≤ w.heap.size)
    (h : ∀ v' w', w'.ownsRow base 3 1 v' (n + 1) ((xs ++ [y]).map (Value.int .i64)) → w.grownBy w' v.ownBlock → wpList Try.prog ops Q rest (a.put o.dst v') w') : wpList Try.prog ops Q (o :: rest) a w := by
  refine wpList_app w hgd s x 26 ho base 3 (.int .i64 0) 1 8 Try.underlying26 (by kernel_rfl) rfl (by omega) v n _ hs hown (some ⟨g, 0, none⟩) 1 c [.int .i64 y] hx ⟨rfl, fun _ => ⟨g, 0, rfl, fun j u hj => ?_⟩⟩ (by simp [Value.oneCell']) (by omega) (by omega) hbase
    (fun v' w' h1 h2 _ => h v' w' (by simpa using h1) h2)
  rcases j with _ | j
  · simp at hj; subst hj; simpa using hc
  · simp at hj

/-- Integers that can be read behind a row of integers of the call's own. -/
theorem wpList_appInts (w : World) {ops : Array Oper} {rest : List Oper} {o : Oper} {a : Act} {Q : Exit → Act → World → Prop} (hgd : o.guard = none) (s x : Operand)
    (ho : o.op = .call { callee := .builtin .append, args := #[s, x], argTypes := #[26, 26] })
    (base : Nat) (v : Value) (n : Nat) (xs : List Int) (hs : a.eval s = v) (hown : w.ownsRow base 3 1 v n (xs.map (Value.int .i64)))
    (A : Option Addr) (m c : Nat) (ys : List Int) (D : Nat → Prop) (hx : a.eval x = .slice A m c) (hr : IntsL w D A m ys) (hn : n + m ≤ 1099511627776) (hbase : base ≤ w.heap.size)
    (h : ∀ v' w', w'.ownsRow base 3 1 v' (n + m) ((xs ++ ys).map (Value.int .i64)) → w.grownBy w' v.ownBlock → wpList Try.prog ops Q rest (a.put o.dst v') w') : wpList Try.prog ops Q (o :: rest) a w := by
  refine wpList_app w hgd s x 26 ho base 3 (.int .i64 0) 1 8 Try.underlying26 (by kernel_rfl) rfl (by omega) v n _ hs hown A m c (ys.map (Value.int .i64)) hx ⟨by simp [hr.1], fun hm => ?_⟩ (by simp [Value.oneCell']) (by omega) (by omega) hbase
    (fun v' w' h1 h2 _ => h v' w' (by simpa using h1) h2)
  obtain ⟨b, o, rfl, _, hc⟩ := hr.2 hm
  refine ⟨b, o, rfl, fun j u hj => ?_⟩
  have hjl : j < ys.length := by
    rcases Nat.lt_or_ge j ys.length with h | h
    · exact h
    · rw [List.getElem?_eq_none (by simpa using h)] at hj; cases hj
  rw [hc j (by have := hr.1; omega), iAt_eq hjl]
  simpa [List.getElem?_eq_getElem hjl] using hj

/-- A row of integers of the call's own, as the other words have it. -/
theorem own_of_row {w : World} {base : Nat} {v : Value} {n : Nat} {xs : List Int} (h : w.ownsRow base 3 1 v n (xs.map (Value.int .i64))) :
    ∃ a c, v = .slice a n c ∧ n ≤ c ∧ OwnInts w (fun k => base ≤ k) a n xs := by
  have hl : xs.length = n := by simpa using h.1
  rcases h.2 with ⟨rfl, rfl⟩ | ⟨g, cap, cur, rfl, hb, hg, hnc, _, hsz, htake⟩
  · exact ⟨none, 0, rfl, Nat.le_refl _, hl, fun h => absurd h (by omega)⟩
  · refine ⟨_, cap, rfl, hnc, hl, fun hn => ⟨g, cap, fun i => cur.getD i undef, rfl, hb, hnc, ⟨cur, hg, by omega, fun i hi => ?_⟩, fun i hi => ?_⟩⟩
    · simp [Array.getD, show i < cur.size by omega]
    · have h1 : (cur.toList.take (n * 1))[i]? = (xs.map (Value.int .i64))[i]? := by rw [htake]
      rw [List.getElem?_take, if_pos (by omega), List.getElem?_map, List.getElem?_eq_getElem (show i < xs.length by omega)] at h1
      rw [iAt_eq (by omega)]
      have h2 : i < cur.size := by omega
      rw [Array.getElem?_toList, Array.getElem?_eq_getElem h2] at h1
      simp [Array.getD, h2]
      simpa using h1
theorem ownEmpty (w : World) : (w.alloc (.cells #[] 3)).ownsRow w.heap.size 3 1 (.slice (some ⟨w.heap.size, 0, none⟩) 0 0) 0 (([] : List Int).map (Value.int .i64)) :=
  World.ownsRow_made w #[] 0 (Nat.le_refl _) (by simp [maxLen]) rfl
end Go.Proofs.Ytmekdccgjgfiaaa
/- append onto rows whose elements need only be readable. -/
namespace Go.Proofs.Ytmekdccgjgfiaaa
open Go.RowKit

theorem Rd.one {w : World} {D : Nat → Prop} {d : Dat} {v : Value} (h : Rd w D d v) : v.oneCell' = true := by cases h <;> rfl

/-- The cells of a slice that can be read. -/
theorem Rd.holds {w : World} {D : Nat → Prop} {s : Nat} {rs : List (List Dat)} {A : Option Addr} {m c : Nat} (h : Rd w D (.arr s rs) (.slice A m c)) (hs0 : 0 < s) :
    ∃ news, HoldsC w s A m news ∧ (∀ u ∈ news, u.oneCell' = true) ∧ (∀ i, i < rs.length → (rGet rs i).length = s) ∧ ∀ i j, i < rs.length → j < s → ∃ u, news[i * s + j]? = some u ∧ Rd w D (rAt rs i j) u := by
  cases h with
  | nil => exact ⟨[], ⟨by simp, fun h => absurd h (by omega)⟩, by simp, by simp, by simp⟩
  | arr s rows b o c vs hD h0 hs0' hc hm hs hcell hr =>
    have hget : ∀ k, k < rs.length * s → ((List.range (rs.length * s)).map fun k => vs (k / s) (k % s))[k]? = some (vs (k / s) (k % s)) := by
      intro k hk
      rw [List.getElem?_map, List.getElem?_range hk]; rfl
    have hq : ∀ k, k < rs.length * s → k / s < rs.length ∧ k % s < s ∧ k / s * s + k % s = k := by
      intro k hk
      refine ⟨(Nat.div_lt_iff_lt_mul hs0).2 hk, Nat.mod_lt _ hs0, ?_⟩
      rw [Nat.mul_comm]; exact Nat.div_add_mod k s
    refine ⟨(List.range (rs.length * s)).map fun k => vs (k / s) (k % s), ⟨by simp, fun _ => ⟨b, o, rfl, fun k u hk => ?_⟩⟩, ?_, hs, fun i j hi hj => ?_⟩
    · have hlt : k < rs.length * s := by
        rcases Nat.lt_or_ge k (rs.length * s) with h | h
        · exact h
        · rw [List.getElem?_eq_none (by simpa using h)] at hk; cases hk
      rw [hget k hlt] at hk
      injection hk with hk
      subst hk
      obtain ⟨q1, q2, q3⟩ := hq k hlt
      have := hcell (k / s) (k % s) q1 q2
      rw [Nat.add_assoc, q3] at this
      exact this
    · intro u hu
      obtain ⟨k, hk, rfl⟩ := List.mem_map.1 hu
      obtain ⟨q1, q2, _⟩ := hq k (by simpa using hk)
      exact (hr _ _ q1 q2).one
    · have hlt := idx_lt hi hj
      have h1 : (i * s + j) / s = i := by rw [Nat.mul_comm, Nat.mul_add_div (by omega), Nat.div_eq_of_lt hj, Nat.add_zero]
      have h2 : (i * s + j) % s = j := by rw [Nat.mul_comm, Nat.mul_add_mod, Nat.mod_eq_of_lt hj]
      have := hget _ hlt
      rw [h1, h2] at this
      exact ⟨_, this, hr i j hi hj⟩

theorem AccR.bound {w : World} {base : Nat} {D : Nat → Prop} {T : TypeId} {s : Nat} {v : Value} {rows : List (List Dat)} (h : AccR w base D T s v rows) : ∀ k, v.ownBlock = some k → base ≤ k ∧ k < w.heap.size := by
  obtain ⟨xs, h1, _⟩ := h
  exact h1.lt

theorem wpList_appR {P : Program} (w : World) {ops : Array Oper} {rest : List Oper} {o : Oper} {a : Act} {Q : Exit → Act → World → Prop} (hgd : o.guard = none) (s x : Operand) (t : TypeId)
    (ho : o.op = .call { callee := .builtin .append, args := #[s, x], argTypes := #[t, t] })
    (base : Nat) (e : TypeId) (z : Value) (size bytes : Nat) (ht : P.underlying t = some (.slice e)) (hinfo : (P.info? e).map (fun i => (i.zero, i.size, i.bytes)) = some (some z, size, bytes))
    (hzs : z.cells.size = size) (hsz : 0 < size)
    (D : Nat → Prop) (v : Value) (rows : List (List Dat)) (hs : a.eval s = v) (hacc : AccR w base D e size v rows)
    (A : Option Addr) (m c : Nat) (rs : List (List Dat)) (D2 : Nat → Prop) (hx : a.eval x = .slice A m c) (hr : Rd w D2 (.arr size rs) (.slice A m c)) (hD2 : ∀ k, k < w.heap.size → D2 k → D k ∧ v.ownBlock ≠ some k)
    (hbytes : (rows.length + m) * bytes ≤ 140737488355328) (h63 : rows.length + m ≤ 9223372036854775807) (hbase : base ≤ w.heap.size)
    (h : ∀ v' w', AccR w' base D e size v' (rows ++ rs) → Ext (fun k => base ≤ k) w w' → w.heap.size ≤ w'.heap.size → wpList P ops Q rest (a.put o.dst v') w') : wpList P ops Q (o :: rest) a w := by
  have hr' := hr.lt
  obtain ⟨news, n1, n2, n3, n4⟩ := hr'.holds hsz
  have hm : m = rs.length := by obtain ⟨a', c', e, _⟩ := hr.arr_inv; injection e
  obtain ⟨xs, h1, _, _⟩ := id hacc
  refine wpList_app w hgd s x t ho base e z size bytes ht hinfo hzs hsz v rows.length xs hs h1 A m c news hx n1 n2 hbytes h63 hbase (fun v' w' q1 q2 q3 => ?_)
  refine h v' w' ?_ ⟨q2.os, q2.tape, q2.output, q2.size, fun k hk hn => q2.block k hk (fun e => hn (h1.lt k e.symm).1)⟩ q2.size
  refine hacc.push (rs := rs) (news := news) n3 (fun i j hi hj => ?_) (fun xs' hxs' => ?_) q2 q3
  · obtain ⟨u, hu, hu2⟩ := n4 i j hi hj
    exact ⟨u, hu, hu2.mono (fun k hk => hD2 k hk.2 hk.1)⟩
  · have : xs' = xs := by
      rcases hxs'.2 with ⟨e1, e2⟩ | ⟨g, cap, cur, e1, _, hg, _, _, _, htake⟩
      · have l1 := hxs'.1
        have l2 := h1.1
        rw [e2, Nat.zero_mul] at l1 l2
        rw [List.eq_nil_of_length_eq_zero l1, List.eq_nil_of_length_eq_zero l2]
      · rcases h1.2 with ⟨f1, f2⟩ | ⟨g', cap', cur', f1, _, hg', _, _, _, htake'⟩
        · have l1 := hxs'.1
          have l2 := h1.1
          rw [f2, Nat.zero_mul] at l1 l2
          rw [List.eq_nil_of_length_eq_zero l1, List.eq_nil_of_length_eq_zero l2]
        · rw [e1] at f1
          injection f1 with f1
          injection f1 with f1
          injection f1 with f1
          subst f1
          rw [hg] at hg'
          injection hg' with hg'
          injection hg' with hg'
          rw [← htake, ← htake', hg']
    subst this
    rw [← hm]; exact q1

/-- The same, what comes of it said as a slice of N elements. -/
theorem wpList_appS {P : Program} (w : World) {ops : Array Oper} {rest : List Oper} {o : Oper} {a : Act} {Q : Exit → Act → World → Prop} (hgd : o.guard = none) (s x : Operand) (t : TypeId)
    (ho : o.op = .call { callee := .builtin .append, args := #[s, x], argTypes := #[t, t] })
    (base : Nat) (e : TypeId) (z : Value) (size bytes : Nat) (ht : P.underlying t = some (.slice e)) (hinfo : (P.info? e).map (fun i => (i.zero, i.size, i.bytes)) = some (some z, size, bytes))
    (hzs : z.cells.size = size) (hsz : 0 < size)
    (D : Nat → Prop) (v : Value) (rows : List (List Dat)) (hs : a.eval s = v) (hacc : AccR w base D e size v rows)
    (A : Option Addr) (m c : Nat) (rs : List (List Dat)) (D2 : Nat → Prop) (hx : a.eval x = .slice A m c) (hr : Rd w D2 (.arr size rs) (.slice A m c)) (hD2 : ∀ k, k < w.heap.size → D2 k → D k ∧ v.ownBlock ≠ some k)
    (N : Nat) (hN : rows.length + m = N) (hbytes : N * bytes ≤ 140737488355328) (h63 : N ≤ 9223372036854775807) (hbase : base ≤ w.heap.size)
    (h : ∀ a' c' w', N ≤ c' → AccR w' base D e size (.slice a' N c') (rows ++ rs) → Ext (fun k => base ≤ k) w w' → w.heap.size ≤ w'.heap.size → wpList P ops Q rest (a.put o.dst (.slice a' N c')) w') : wpList P ops Q (o :: rest) a w := by
  have hm : m = rs.length := by obtain ⟨a', c', e, _⟩ := hr.arr_inv; injection e
  refine wpList_appR w hgd s x t ho base e z size bytes ht hinfo hzs hsz D v rows hs hacc A m c rs D2 hx hr hD2 (by rw [hN]; exact hbytes) (by rw [hN]; exact h63) hbase (fun v' w' h1 h2 h3 => ?_)
  obtain ⟨a', c', e', hc, _, _⟩ := h1.read hsz
  have hlen : (rows ++ rs).length = N := by rw [List.length_append]; omega
  rw [hlen] at e' hc
  subst e'
  exact h a' c' w' hc h1 h2 h3
end Go.Proofs.Ytmekdccgjgfiaaa
/- isType, inRange and allTypes, of the program and of the reference. -/
namespace Go.Proofs.Ytmekdccgjgfiaaa
open Go.RowKit

theorem specInRange (n lo hi : Int) (w : World) :
    Calls Try.prog 41 #[.int .i64 n, .int .i64 lo, .int .i64 hi] w fun e w' => e = .returned (.bool (decide (lo ≤ n ∧ n ≤ hi))) ∧ w = w' := by
  by_cases h1 : lo ≤ n
  all_goals by_cases h2 : n ≤ hi
  all_goals
    go_enter Try.func41, Try.ntmps41
    go_wp2
    all_goals (go_ret; exact ⟨by simp [*], rfl⟩)

theorem implIsType (a : Option Addr) (n c : Nat) (t : Int) (w : World) :
    Calls Try.prog 50 #[.slice a n c, .int .i64 t] w fun e w' => e = .returned (.bool (isT n t)) ∧ w = w' := by
  refine calls_k fun Q hQ => ?_
  by_cases h1 : 0 ≤ t
  all_goals by_cases h2 : t ≤ n
  all_goals
    go_enter Try.func50, Try.ntmps50
    go_wp2
    exact fin_ hQ ⟨by simp [isT, *], rfl⟩

/-- One contract for one outcome, so that a walk need not part. -/
theorem implIsType_yes (a : Option Addr) (n c : Nat) (t : Int) (w : World) (h : isT n t = true) :
    Calls Try.prog 50 #[.slice a n c, .int .i64 t] w fun e w' => e = .returned (.bool true) ∧ w = w' := by
  rw [← h]; exact implIsType a n c t w
theorem implIsType_no (a : Option Addr) (n c : Nat) (t : Int) (w : World) (h : isT n t = false) :
    Calls Try.prog 50 #[.slice a n c, .int .i64 t] w fun e w' => e = .returned (.bool false) ∧ w = w' := by
  rw [← h]; exact implIsType a n c t w

theorem implAllTypes (a : Option Addr) (n c : Nat) (a' : Option Addr) (m c' : Nat) (xs : List Int) (D : Nat → Prop) (w : World) (h : IntsL w D a' m xs) (hm : m ≤ 1099511627776) :
    Calls Try.prog 28 #[.slice a n c, .slice a' m c'] w fun e w' => e = .returned (.bool (allT n xs)) ∧ w = w' := by
  refine calls_k fun Q hQ => ?_
  go_enter Try.func28, Try.ntmps28
  go_wp2
  go_loop [9] (fun i => ∃ k : Nat, k ≤ m ∧ i = .int .i64 k ∧ Hid (∀ j, j < k → isT n (iAt xs j) = true)) (fun i => m - (intOf i).toNat)
  case atStart => exact ⟨0, Nat.zero_le _, rfl, fun j hj => absurd hj (by omega)⟩
  case round =>
    obtain ⟨k, hk, rfl, H⟩ := hrel
    obtain ⟨hlen, hcell⟩ := h
    by_cases hlt : k < m
    · obtain ⟨b, o, rfl, hd, hc⟩ := hcell (by omega)
      have h1 := hc k hlt
      clear hc hcell
      cases hv : isT n (iAt xs k)
      · have V := Lib.hid hv
        go_wp2_with (go_at_call 50; refine (implIsType_no _ _ _ _ _ V.out).mono ?_; rintro e w1 ⟨rfl, rfl⟩)
        exact fin_ hQ ⟨ret_b (iAll_false (by omega) V.out).symm, rfl⟩
      · have V := Lib.hid hv
        go_wp2_with (go_at_call 50; refine (implIsType_yes _ _ _ _ _ V.out).mono ?_; rintro e w1 ⟨rfl, rfl⟩)
        go_round
        case rel => exact ⟨k + 1, by omega, by go_num, fun j hj => by rcases Nat.lt_succ_iff_lt_or_eq.1 hj with h | rfl; exact H.out j h; exact V.out⟩
        case measure => simp [intOf]; omega
    · go_wp2
      exact fin_ hQ ⟨ret_b (iAll.2 (fun j hj => H.out j (by omega))).symm, rfl⟩

theorem specAllTypes (a : Option Addr) (n c : Nat) (a' : Option Addr) (m c' : Nat) (xs : List Int) (D : Nat → Prop) (w : World) (h : IntsL w D a' m xs) (hm : m ≤ 1099511627776) :
    Calls Try.prog 21 #[.slice a n c, .slice a' m c'] w fun e w' => e = .returned (.bool (allT n xs)) ∧ w = w' := by
  refine calls_k fun Q hQ => ?_
  go_enter Try.func21, Try.ntmps21
  go_wp2
  go_loop [5] (fun i => ∃ k : Nat, k ≤ m ∧ i = .int .i64 k ∧ Hid (∀ j, j < k → isT n (iAt xs j) = true)) (fun i => m - (intOf i).toNat)
  case atStart => exact ⟨0, Nat.zero_le _, rfl, fun j hj => absurd hj (by omega)⟩
  case round =>
    obtain ⟨k, hk, rfl, H⟩ := hrel
    obtain ⟨hlen, hcell⟩ := h
    by_cases hlt : k < m
    · obtain ⟨b, o, rfl, hd, hc⟩ := hcell (by omega)
      have h1 := hc k hlt
      clear hc hcell
      cases hv : isT n (iAt xs k)
      · have hv' : decide (0 ≤ iAt xs k ∧ iAt xs k ≤ (n : Int)) = false := hv
        have V := Lib.hid hv
        clear hv
        go_wp2_with (go_at_call 41; refine (specInRange _ _ _ _).mono ?_; rintro e w1 ⟨rfl, rfl⟩)
        exact fin_ hQ ⟨ret_b (iAll_false (by omega) V.out).symm, rfl⟩
      · have hv' : decide (0 ≤ iAt xs k ∧ iAt xs k ≤ (n : Int)) = true := hv
        have V := Lib.hid hv
        clear hv
        go_wp2_with (go_at_call 41; refine (specInRange _ _ _ _).mono ?_; rintro e w1 ⟨rfl, rfl⟩)
        go_round
        case rel => exact ⟨k + 1, by omega, by go_num, fun j hj => by rcases Nat.lt_succ_iff_lt_or_eq.1 hj with h | rfl; exact H.out j h; exact V.out⟩
        case measure => simp [intOf]; omega
    · go_wp2
      exact fin_ hQ ⟨ret_b (iAll.2 (fun j hj => H.out j (by omega))).symm, rfl⟩
end Go.Proofs.Ytmekdccgjgfiaaa
