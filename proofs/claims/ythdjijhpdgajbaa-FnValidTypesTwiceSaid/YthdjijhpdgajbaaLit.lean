/- Literals: integers, constructors, declarations that have just been written down. -/
import Derived.Test.YthdjijhpdgajbaaDat3
namespace Go.Proofs.Ythdjijhpdgajbaa
open Go.RowKit

theorem Rd.litD (w : World) (D : Nat → Prop) (T : TypeId) (s : Nat) (cs : Array Value) (rows : List (List Dat)) (n : Nat) (hB : D w.heap.size) (hn : n = rows.length) (hm : n ≤ 9223372036854775807) (hs0 : 0 < s) (hcs : cs.size = n * s)
    (hl : ∀ i, i < rows.length → (rGet rows i).length = s) (hr : ∀ i j, i < rows.length → j < s → ∃ u, cs[i * s + j]? = some u ∧ Rd w D (rAt rows i j) u) :
    Rd (w.alloc (.cells cs T)) D (.arr s rows) (.slice (some ⟨w.heap.size, 0, none⟩) n n) := by
  subst hn
  rcases Nat.eq_zero_or_pos rows.length with h0 | h0
  · have : rows = [] := List.eq_nil_of_length_eq_zero h0
    subst this
    exact .nil s _ _
  refine .arr s rows w.heap.size 0 rows.length (fun i j => cs.getD (i * s + j) undef) hB h0 hs0 (Nat.le_refl _) hm hl (fun i j hi hj => ?_) (fun i j hi hj => ?_)
  · obtain ⟨u, hu, _⟩ := hr i j hi hj
    rw [cell_of_row _ w.heap.size _ cs T (0, 0) (heap_alloc_new w _), Nat.zero_add]
    obtain ⟨hlt, e⟩ := Array.getElem?_eq_some_iff.1 hu
    simp [Array.getD, hlt]
  · obtain ⟨u, hu, ho⟩ := hr i j hi hj
    obtain ⟨hlt, e⟩ := Array.getElem?_eq_some_iff.1 hu
    have : cs.getD (i * s + j) undef = u := by simp [Array.getD, hlt, e]
    show Rd _ _ _ (cs.getD (i * s + j) undef)
    rw [this]
    exact ho.ext ((Ext.refl (fun _ => False) w).alloc _) (fun _ _ h => h)

theorem lit_intsD (w : World) (D : Nat → Prop) (T : TypeId) (xs : List Int) (cs : Array Value) (n : Nat) (hB : D w.heap.size) (hc : cs = (xs.map (Value.int .i64)).toArray) (hn : n = xs.length) (hm : n ≤ 1000) :
    Rd (w.alloc (.cells cs T)) D (encInts xs) (.slice (some ⟨w.heap.size, 0, none⟩) n n) := by
  subst hc hn
  refine Rd.litD w D T 1 _ (xs.map rowI) _ hB (by simp) (by omega) (by omega) (by simp) (fun i hi => by rw [ints_row xs i (by simpa using hi)]; rfl) (fun i j hi hj => ?_)
  obtain rfl : j = 0 := by omega
  have hi' : i < xs.length := by simpa using hi
  refine ⟨.int .i64 (iAt xs i), by simp [hi', iAt], ?_⟩
  rw [rAt, ints_row xs i hi']
  exact .num _

theorem lit_ints (w : World) (B : Nat) (T : TypeId) (xs : List Int) (cs : Array Value) (n : Nat) (hB : B ≤ w.heap.size) (hc : cs = (xs.map (Value.int .i64)).toArray) (hn : n = xs.length) (hm : n ≤ 1000) :
    Rd (w.alloc (.cells cs T)) (fun k => B ≤ k) (encInts xs) (.slice (some ⟨w.heap.size, 0, none⟩) n n) := lit_intsD w _ T xs cs n hB hc hn hm

/-- The values us read as the lists cs. -/
def AllC (w : World) (D : Nat → Prop) : List (List Int) → List Value → Prop
  | [], us => us = []
  | c :: cs, us => ∃ u us', us = u :: us' ∧ Rd w D (encInts c) u ∧ AllC w D cs us'
theorem AllC.len {w : World} {D : Nat → Prop} {cs : List (List Int)} {us : List Value} (h : AllC w D cs us) : us.length = cs.length := by
  induction cs generalizing us with
  | nil => have : us = [] := h; simp [this]
  | cons c cs ih => obtain ⟨u, us', rfl, _, h2⟩ := h; simp [ih h2]
theorem AllC.at {w : World} {D : Nat → Prop} {cs : List (List Int)} {us : List Value} (h : AllC w D cs us) (i : Nat) (hi : i < cs.length) : ∃ u, us[i]? = some u ∧ Rd w D (encInts (cAt cs i)) u := by
  induction cs generalizing us i with
  | nil => simp at hi
  | cons c cs ih =>
    obtain ⟨u, us', rfl, h1, h2⟩ := h
    rcases i with _ | i
    · exact ⟨u, rfl, h1⟩
    · obtain ⟨u', e, h3⟩ := ih h2 i (by simpa using hi)
      exact ⟨u', by simpa using e, h3⟩
theorem lit_consD (w : World) (D : Nat → Prop) (T : TypeId) (xs : List (List Int)) (us : List Value) (n : Nat) (hB : D w.heap.size) (h : AllC w D xs us) (hn : n = xs.length) (hm : n ≤ 1000) :
    Rd (w.alloc (.cells us.toArray T)) D (encCons xs) (.slice (some ⟨w.heap.size, 0, none⟩) n n) := by
  subst hn
  refine Rd.litD w D T 1 _ (xs.map rowC) _ hB (by simp) (by omega) (by omega) (by simp [h.len]) (fun i hi => by rw [cons_row xs i (by simpa using hi)]; rfl) (fun i j hi hj => ?_)
  obtain rfl : j = 0 := by omega
  have hi' : i < xs.length := by simpa using hi
  obtain ⟨u, hu, hr⟩ := h.at i hi'
  refine ⟨u, by simpa using hu, ?_⟩
  rw [rAt, cons_row xs i hi']
  exact hr

theorem lit_cons (w : World) (B : Nat) (T : TypeId) (xs : List (List Int)) (us : List Value) (n : Nat) (hB : B ≤ w.heap.size) (h : AllC w (fun k => B ≤ k) xs us) (hn : n = xs.length) (hm : n ≤ 1000) :
    Rd (w.alloc (.cells us.toArray T)) (fun k => B ≤ k) (encCons xs) (.slice (some ⟨w.heap.size, 0, none⟩) n n) := lit_consD w _ T xs us n hB h hn hm

/-- The cells us, three each, read as declarations. -/
def AllD (w : World) (D : Nat → Prop) : List DeclL → List Value → Prop
  | [], us => us = []
  | d :: ds, us => ∃ u us', us = .int .i64 d.from_ :: .int .i64 d.to_ :: u :: us' ∧ Rd w D (encCons d.cons) u ∧ AllD w D ds us'
theorem AllD.len {w : World} {D : Nat → Prop} {cs : List DeclL} {us : List Value} (h : AllD w D cs us) : us.length = cs.length * 3 := by
  induction cs generalizing us with
  | nil => have : us = [] := h; simp [this]
  | cons c cs ih => obtain ⟨u, us', rfl, _, h2⟩ := h; simp [ih h2, Nat.add_mul]
theorem AllD.at {w : World} {D : Nat → Prop} {cs : List DeclL} {us : List Value} (h : AllD w D cs us) (i : Nat) (hi : i < cs.length) : us[i * 3]? = some (.int .i64 (dAt cs i).from_) ∧ us[i * 3 + 1]? = some (.int .i64 (dAt cs i).to_) ∧ ∃ u, us[i * 3 + 2]? = some u ∧ Rd w D (encCons (dAt cs i).cons) u := by
  induction cs generalizing us i with
  | nil => simp at hi
  | cons c cs ih =>
    obtain ⟨u, us', rfl, h1, h2⟩ := h
    rcases i with _ | i
    · exact ⟨rfl, rfl, u, rfl, h1⟩
    · obtain ⟨e0, e1, u', e, h3⟩ := ih h2 i (by simpa using hi)
      have q : (i + 1) * 3 = i * 3 + 3 := by omega
      have qd : dAt (c :: cs) (i + 1) = dAt cs i := by simp [dAt, List.getD]
      rw [qd]
      refine ⟨?_, ?_, u', ?_, h3⟩
      · rw [q]; simpa using e0
      · rw [q, show i * 3 + 3 + 1 = i * 3 + 1 + 3 by omega]; simpa using e1
      · rw [q, show i * 3 + 3 + 2 = i * 3 + 2 + 3 by omega]; simpa using e
theorem AllD.rd {w : World} {D : Nat → Prop} {cs : List DeclL} {us : List Value} (h : AllD w D cs us) : ∀ i j, i < (cs.map rowD).length → j < 3 → ∃ u, us.toArray[i * 3 + j]? = some u ∧ Rd w D (rAt (cs.map rowD) i j) u := by
  intro i j hi hj
  have hi' : i < cs.length := by simpa using hi
  obtain ⟨e0, e1, u, e2, hr⟩ := h.at i hi'
  rw [rAt, decls_row cs i hi']
  rcases j with _ | _ | _ | j
  · exact ⟨_, by simpa using e0, .num _⟩
  · exact ⟨_, by simpa using e1, .num _⟩
  · exact ⟨u, by simpa using e2, hr⟩
  · omega
theorem lit_declsD (w : World) (D : Nat → Prop) (T : TypeId) (ds : List DeclL) (us : List Value) (n : Nat) (hB : D w.heap.size) (h : AllD w D ds us) (hn : n = ds.length) (hm : n ≤ 1000) :
    Rd (w.alloc (.cells us.toArray T)) D (encDecls ds) (.slice (some ⟨w.heap.size, 0, none⟩) n n) := by
  subst hn
  exact Rd.litD w D T 3 us.toArray (ds.map rowD) ds.length hB (by simp) (by omega) (by omega) (by simp [h.len]) (fun i hi => by rw [decls_row ds i (by simpa using hi)]; rfl) h.rd
theorem lit_decls (w : World) (B : Nat) (T : TypeId) (ds : List DeclL) (us : List Value) (n : Nat) (hB : B ≤ w.heap.size) (h : AllD w (fun k => B ≤ k) ds us) (hn : n = ds.length) (hm : n ≤ 1000) :
    AccR (w.alloc (.cells us.toArray T)) B (fun k => B ≤ k) T 3 (.slice (some ⟨w.heap.size, 0, none⟩) n n) (ds.map rowD) := by
  subst hn
  exact (AccR.lit w (fun k => B ≤ k) T 3 us.toArray (ds.map rowD) ds.length (by simp) (by omega) (by simp [h.len]) (fun i hi => by rw [decls_row ds i (by simpa using hi)]; rfl) h.rd).lower hB
theorem Rd.nilC (w : World) (D : Nat → Prop) (a : Option Addr) (c : Nat) : Rd w D (encCons []) (.slice a 0 c) := .nil 1 a c
theorem Rd.nilI (w : World) (D : Nat → Prop) (a : Option Addr) (c : Nat) : Rd w D (encInts []) (.slice a 0 c) := .nil 1 a c
theorem Rd.k {w w' : World} {D : Nat → Prop} {d : Dat} {v : Value} (h : Rd w D d v) (hx : Keep w w') : Rd w' D d v := h.ext hx (fun _ _ h => h)
theorem boxk {w w2 : World} {cs : Array Value} {T : TypeId} (h : Keep (w.alloc (.cells cs T)) w2) (i : Nat) : w2.cell? ⟨w.heap.size, i, none⟩ = cs[i]? := by
  rw [h.cell (by simp) (fun h => h), cell_of_row _ w.heap.size i cs T (0, 0) (heap_alloc_new w _)]
theorem Keep.at {w w' : World} (k : Keep w.drew w') {p : Addr} {v : Value} (h : w.cell? p = some v) : w'.cell? p = some v := by
  have hb : p.block < w.drew.heap.size := World.block_lt_of_cell? _ _ h
  rw [k.cell hb (fun h => h)]; exact h
theorem Keep.al (w : World) (o : Obj) : Keep w (w.alloc o) := (Ext.refl _ w).alloc o
end Go.Proofs.Ythdjijhpdgajbaa
