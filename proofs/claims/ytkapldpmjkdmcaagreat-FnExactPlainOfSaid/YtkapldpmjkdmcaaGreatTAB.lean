/- Data in memory, whatever its type: trees of integers and slices; reading them, owning them, writing into them. -/
import Derived.Test.YtkapldpmjkdmcaaGreatTAA
import Derived.Deep.OwnRows
import Derived.Maps.AppendAt
import Derived.Deep.AppendLies
import Derived.RegionTactic
import Derived.OwnWalk
namespace Go.Proofs.YtkapldpmjkdmcaaGreat
open Go.RowKit

/-- A datum: an integer, or a slice of elements of s cells each. -/
inductive Dat where
  | num (z : Int)
  | arr (s : Nat) (rows : List (List Dat))

def dGet (r : List Dat) (j : Nat) : Dat := r.getD j (.num 0)
def rGet (rows : List (List Dat)) (i : Nat) : List Dat := rows.getD i []
def rAt (rows : List (List Dat)) (i j : Nat) : Dat := dGet (rGet rows i) j
/-- Cell (i, j) is another datum. -/
def upd (rows : List (List Dat)) (i j : Nat) (d : Dat) : List (List Dat) := rows.set i ((rGet rows i).set j d)

theorem rGet_lt {rows : List (List Dat)} {i : Nat} (h : i < rows.length) : rGet rows i = rows[i] := by simp [rGet, List.getD, h]
theorem dGet_lt {r : List Dat} {i : Nat} (h : i < r.length) : dGet r i = r[i] := by simp [dGet, List.getD, h]
theorem upd_len {rows : List (List Dat)} {i j : Nat} {d : Dat} : (upd rows i j d).length = rows.length := by simp [upd]
theorem rGet_set {rows : List (List Dat)} {i k : Nat} {r : List Dat} (h : i < rows.length) : rGet (rows.set i r) k = if k = i then r else rGet rows k := by
  by_cases e : k = i
  · subst e; simp [rGet, List.getD, h]
  · rw [if_neg e]; simp [rGet, List.getD, List.getElem?_set_ne (fun h => e h.symm)]
theorem dGet_set {r : List Dat} {i k : Nat} {d : Dat} (h : i < r.length) : dGet (r.set i d) k = if k = i then d else dGet r k := by
  by_cases e : k = i
  · subst e; simp [dGet, List.getD, h]
  · rw [if_neg e]; simp [dGet, List.getD, List.getElem?_set_ne (fun h => e h.symm)]
theorem rGet_upd {rows : List (List Dat)} {i j k : Nat} {d : Dat} (h : i < rows.length) : rGet (upd rows i j d) k = if k = i then (rGet rows i).set j d else rGet rows k := rGet_set h
theorem rAt_upd {rows : List (List Dat)} {i j k l : Nat} {d : Dat} (h : i < rows.length) (hj : j < (rGet rows i).length) : rAt (upd rows i j d) k l = if k = i ∧ l = j then d else rAt rows k l := by
  unfold rAt
  rw [rGet_upd h]
  by_cases e : k = i
  · subst e
    rw [if_pos rfl, dGet_set hj]
    by_cases e2 : l = j <;> simp [e2]
  · rw [if_neg e, if_neg (fun h => e h.1)]
theorem rGet_map {α : Type} (f : α → List Dat) (l : List α) (i : Nat) (h : i < l.length) : rGet (l.map f) i = f l[i] := by rw [rGet_lt (by simpa using h)]; simp

/-- The value v reads as the datum d; what it reads lies in blocks of D. -/
inductive Rd (w : World) (D : Nat → Prop) : Dat → Value → Prop where
  | num (z : Int) : Rd w D (.num z) (.int .i64 z)
  | nil (s : Nat) (a : Option Addr) (c : Nat) : Rd w D (.arr s []) (.slice a 0 c)
  | arr (s : Nat) (rows : List (List Dat)) (b o c : Nat) (vs : Nat → Nat → Value) (hD : D b) (h0 : 0 < rows.length) (hs0 : 0 < s) (hc : rows.length ≤ c) (hm : rows.length ≤ 9223372036854775807)
      (hs : ∀ i, i < rows.length → (rGet rows i).length = s)
      (hcell : ∀ i j, i < rows.length → j < s → w.cell? ⟨b, o + i * s + j, none⟩ = some (vs i j))
      (hr : ∀ i j, i < rows.length → j < s → Rd w D (rAt rows i j) (vs i j)) : Rd w D (.arr s rows) (.slice (some ⟨b, o, none⟩) rows.length c)

section
variable {S D D' : Nat → Prop} {w w' : World} {d : Dat} {v : Value}
theorem Rd.ext (h : Rd w D d v) (hx : Ext S w w') (hs : ∀ k, D k → ¬ S k) : Rd w' D d v := by
  induction h with
  | num z => exact .num z
  | nil s a c => exact .nil s a c
  | arr s rows b o c vs hD h0 hs0 hc hm hs' hcell hr ih =>
    exact .arr s rows b o c vs hD h0 hs0 hc hm hs' (fun i j hi hj => (hx.cell (World.block_lt_of_cell? w _ (hcell i j hi hj)) (hs _ hD)).trans (hcell i j hi hj)) ih
theorem Rd.mono (h : Rd w D d v) (hs : ∀ k, D k → D' k) : Rd w D' d v := by
  induction h with
  | num z => exact .num z
  | nil s a c => exact .nil s a c
  | arr s rows b o c vs hD h0 hs0 hc hm hs' hcell hr ih => exact .arr s rows b o c vs (hs _ hD) h0 hs0 hc hm hs' hcell ih
theorem Rd.lt (h : Rd w D d v) : Rd w (fun k => D k ∧ k < w.heap.size) d v := by
  induction h with
  | num z => exact .num z
  | nil s a c => exact .nil s a c
  | arr s rows b o c vs hD h0 hs0 hc hm hs' hcell hr ih =>
    exact .arr s rows b o c vs ⟨hD, World.block_lt_of_cell? w _ (hcell 0 0 h0 hs0)⟩ h0 hs0 hc hm hs' hcell ih
theorem Rd.num_inv {z : Int} (h : Rd w D (.num z) v) : v = .int .i64 z := by cases h; rfl
/-- A slice that can be read: its length, and where its cells lie. -/
theorem Rd.arr_inv {s : Nat} {rows : List (List Dat)} (h : Rd w D (.arr s rows) v) : ∃ a c, v = .slice a rows.length c ∧ rows.length ≤ c ∧ rows.length ≤ 9223372036854775807 ∧
    (0 < rows.length → ∃ b o, a = some ⟨b, o, none⟩ ∧ D b ∧ ∀ i, i < rows.length → (rGet rows i).length = s ∧ ∀ j, j < s → ∃ u, w.cell? ⟨b, o + i * s + j, none⟩ = some u ∧ Rd w D (rAt rows i j) u) := by
  cases h with
  | nil s a c => exact ⟨a, c, rfl, Nat.zero_le _, by simp, fun h => absurd h (by simp)⟩
  | arr s rows b o c vs hD h0 hs0 hc hm hs hcell hr =>
    exact ⟨_, c, rfl, hc, hm, fun _ => ⟨b, o, rfl, hD, fun i hi => ⟨hs i hi, fun j hj => ⟨_, hcell i j hi hj, hr i j hi hj⟩⟩⟩⟩

/-- The value v holds the datum d in rows of the call's own: the set of these rows' blocks is D, and no two slices share one. -/
inductive Own (w : World) : (Nat → Prop) → Dat → Value → Prop where
  | num (D : Nat → Prop) (z : Int) : Own w D (.num z) (.int .i64 z)
  | nil (D : Nat → Prop) (s : Nat) (a : Option Addr) (c : Nat) : Own w D (.arr s []) (.slice a 0 c)
  | arr (D : Nat → Prop) (E : Nat → Nat → Nat → Prop) (s : Nat) (rows : List (List Dat)) (b c : Nat) (T : TypeId) (N : Nat) (f : Nat → Value) (hD : D b) (h0 : 0 < rows.length) (hs0 : 0 < s) (hc : rows.length ≤ c) (hm : rows.length ≤ 9223372036854775807)
      (hs : ∀ i, i < rows.length → (rGet rows i).length = s) (hN : rows.length * s ≤ N) (hrow : w.rowIs b T N f)
      (hE : ∀ i j k, i < rows.length → j < s → E i j k → D k ∧ k ≠ b)
      (hdis : ∀ i j i' j' k, i < rows.length → j < s → i' < rows.length → j' < s → E i j k → E i' j' k → i = i' ∧ j = j')
      (hr : ∀ i j, i < rows.length → j < s → Own w (E i j) (rAt rows i j) (f (i * s + j))) : Own w D (.arr s rows) (.slice (some ⟨b, 0, none⟩) rows.length c)

theorem Own.mono (h : Own w D d v) (hs : ∀ k, D k → D' k) : Own w D' d v := by
  cases h with
  | num D z => exact .num _ z
  | nil D s a c => exact .nil _ s a c
  | arr D E s rows b c T N f hD h0 hs0 hc hm hs' hN hrow hE hdis hr => exact .arr D' E s rows b c T N f (hs _ hD) h0 hs0 hc hm hs' hN hrow (fun i j k hi hj hk => ⟨hs _ (hE i j k hi hj hk).1, (hE i j k hi hj hk).2⟩) hdis hr
theorem Own.ext (h : Own w D d v) (hx : Ext S w w') (hs : ∀ k, D k → ¬ S k) : Own w' D d v := by
  induction h with
  | num D z => exact .num _ z
  | nil D s a c => exact .nil _ s a c
  | arr D E s rows b c T N f hD h0 hs0 hc hm hs' hN hrow hE hdis hr ih =>
    exact .arr D E s rows b c T N f hD h0 hs0 hc hm hs' hN (hrow.of_block (hx.block b hrow.lt (hs _ hD))) hE hdis (fun i j hi hj => ih i j hi hj (fun k hk => hs k (hE i j k hi hj hk).1))
theorem Own.read (h : Own w D d v) : Rd w D d v := by
  induction h with
  | num D z => exact .num z
  | nil D s a c => exact .nil s a c
  | arr D E s rows b c T N f hD h0 hs0 hc hm hs' hN hrow hE hdis hr ih =>
    refine .arr s rows b 0 c (fun i j => f (i * s + j)) hD h0 hs0 hc hm hs' (fun i j hi hj => ?_) (fun i j hi hj => (ih i j hi hj).mono fun k hk => (hE i j k hi hj hk).1)
    rw [Nat.zero_add]
    refine hrow.cell (Nat.lt_of_lt_of_le ?_ hN)
    calc i * s + j < i * s + s := by omega
      _ = (i + 1) * s := by rw [Nat.succ_mul]
      _ ≤ rows.length * s := Nat.mul_le_mul_right s hi
theorem Own.lt (h : Own w D d v) : Own w (fun k => D k ∧ k < w.heap.size) d v := by
  induction h with
  | num D z => exact .num _ z
  | nil D s a c => exact .nil _ s a c
  | arr D E s rows b c T N f hD h0 hs0 hc hm hs' hN hrow hE hdis hr ih =>
    exact .arr _ (fun i j k => E i j k ∧ k < w.heap.size) s rows b c T N f ⟨hD, hrow.lt⟩ h0 hs0 hc hm hs' hN hrow (fun i j k hi hj hk => ⟨⟨(hE i j k hi hj hk.1).1, hk.2⟩, (hE i j k hi hj hk.1).2⟩) (fun i j i' j' k a1 a2 a3 a4 a5 a6 => hdis i j i' j' k a1 a2 a3 a4 a5.1 a6.1) ih

theorem idx_lt {i j n s : Nat} (hi : i < n) (hj : j < s) : i * s + j < n * s :=
  calc i * s + j < i * s + s := by omega
    _ = (i + 1) * s := by rw [Nat.succ_mul]
    _ ≤ n * s := Nat.mul_le_mul_right s hi
theorem idx_inj {i j i' j' s : Nat} (hj : j < s) (hj' : j' < s) (h : i * s + j = i' * s + j') : i = i' ∧ j = j' := by
  have h1 : (i * s + j) / s = i := by rw [Nat.mul_comm, Nat.mul_add_div (by omega), Nat.div_eq_of_lt hj, Nat.add_zero]
  have h2 : (i' * s + j') / s = i' := by rw [Nat.mul_comm, Nat.mul_add_div (by omega), Nat.div_eq_of_lt hj', Nat.add_zero]
  have h3 : (i * s + j) % s = j := by rw [Nat.mul_comm, Nat.mul_add_mod, Nat.mod_eq_of_lt hj]
  have h4 : (i' * s + j') % s = j' := by rw [Nat.mul_comm, Nat.mul_add_mod, Nat.mod_eq_of_lt hj']
  rw [h] at h1 h3
  exact ⟨h1.symm.trans h2, h3.symm.trans h4⟩

/-- A cell (i, j) of a slice of the call's own: where it lies, and what becomes of the whole if it, or what it leads to, is written. -/
theorem Own.at {s : Nat} {rows : List (List Dat)} {a : Option Addr} {n c : Nat} (h : Own w D (.arr s rows) (.slice a n c)) {i j : Nat} (hi : i < n) (hj : j < s) :
    ∃ b u E, a = some ⟨b, 0, none⟩ ∧ D b ∧ w.cell? ⟨b, i * s + j, none⟩ = some u ∧ (∀ o, w.frozen? ⟨b, o, none⟩ = false) ∧ Own w E (rAt rows i j) u ∧ (∀ k, E k → D k ∧ k ≠ b) ∧
      (∀ w' d', Ext E w w' → Own w' E d' u → Own w' D (.arr s (upd rows i j d')) (.slice a n c)) ∧
      (∀ u' d' D2, Own w D2 d' u' → (∀ k, D2 k → ¬ D k) → Own (w.setCell ⟨b, i * s + j, none⟩ u') (fun k => D k ∨ D2 k) (.arr s (upd rows i j d')) (.slice a n c)) ∧
      (∀ z, Own (w.setCell ⟨b, i * s + j, none⟩ (.int .i64 z)) D (.arr s (upd rows i j (.num z))) (.slice a n c)) := by
  cases h with
  | nil => omega
  | arr D E s rows b c T N f hD h0 hs0 hc hm hs' hN hrow hE hdis hr =>
    have hlen : j < (rGet rows i).length := by rw [hs' i hi]; exact hj
    have hsl : ∀ d' k, k < (upd rows i j d').length → (rGet (upd rows i j d') k).length = s := by
      intro d' k hk
      rw [upd_len] at hk
      rw [rGet_upd hi]
      by_cases e : k = i
      · rw [if_pos e, List.length_set, hs' i hi]
      · rw [if_neg e, hs' k hk]
    refine ⟨b, _, E i j, rfl, hD, hrow.cell (Nat.lt_of_lt_of_le (idx_lt hi hj) hN), hrow.frozen, hr i j hi hj, fun k hk => hE i j k hi hj hk, ?_, ?_, ?_⟩
    · intro w' d' hx ho
      have hrow' : w'.rowIs b T N f := hrow.of_block (hx.block b hrow.lt (fun hk => (hE i j b hi hj hk).2 rfl))
      have q := Own.arr (w := w') D E s (upd rows i j d') b c T N f hD (by rw [upd_len]; exact h0) hs0 (by rw [upd_len]; exact hc) (by rw [upd_len]; exact hm) (hsl d') (by rw [upd_len]; exact hN) hrow'
        (by rw [upd_len]; exact hE) (by rw [upd_len]; exact hdis) (fun k l hk hl => by
          rw [upd_len] at hk
          rw [rAt_upd hi hlen]
          by_cases e : k = i ∧ l = j
          · rw [if_pos e]; obtain ⟨rfl, rfl⟩ := e; exact ho
          · rw [if_neg e]
            exact (hr k l hk hl).ext hx (fun m hm hm' => e (hdis k l i j m hk hl hi hj hm hm')))
      rw [upd_len] at q
      exact q
    · intro u' d' D2 ho hdd
      have hb2 : ¬ D2 b := fun h => hdd b h hD
      have q := Own.arr (w := w.setCell ⟨b, i * s + j, none⟩ u') (fun k => D k ∨ D2 k) (fun k l => if k = i ∧ l = j then D2 else E k l) s (upd rows i j d') b c T N _ (.inl hD) (by rw [upd_len]; exact h0) hs0 (by rw [upd_len]; exact hc) (by rw [upd_len]; exact hm) (hsl d') (by rw [upd_len]; exact hN) (hrow.set (i * s + j) u')
        (by
          rw [upd_len]
          intro k l m hk hl hm'
          by_cases e : k = i ∧ l = j
          · rw [if_pos e] at hm'; exact ⟨.inr hm', fun h => hb2 (h ▸ hm')⟩
          · rw [if_neg e] at hm'; exact ⟨.inl (hE k l m hk hl hm').1, (hE k l m hk hl hm').2⟩)
        (by
          rw [upd_len]
          intro k l k' l' m hk hl hk' hl' h1 h2
          by_cases e : k = i ∧ l = j <;> by_cases e' : k' = i ∧ l' = j
          · exact ⟨e.1.trans e'.1.symm, e.2.trans e'.2.symm⟩
          · rw [if_pos e] at h1; rw [if_neg e'] at h2
            exact absurd (hE k' l' m hk' hl' h2).1 (hdd m h1)
          · rw [if_neg e] at h1; rw [if_pos e'] at h2
            exact absurd (hE k l m hk hl h1).1 (hdd m h2)
          · rw [if_neg e] at h1; rw [if_neg e'] at h2
            exact hdis k l k' l' m hk hl hk' hl' h1 h2)
        (fun k l hk hl => by
          rw [upd_len] at hk
          rw [rAt_upd hi hlen]
          by_cases e : k = i ∧ l = j
          · rw [if_pos e, if_pos e, if_pos (by rw [e.1, e.2])]
            exact ho.ext (S := fun k => k = b) ((Ext.refl (fun k => k = b) w).setCell (p := ⟨b, i * s + j, none⟩) (.inr rfl) _) (fun m hm h => hb2 (h ▸ hm))
          · rw [if_neg e, if_neg e, if_neg (fun h => e (idx_inj hl hj h))]
            exact (hr k l hk hl).ext (S := fun k => k = b) ((Ext.refl (fun k => k = b) w).setCell (p := ⟨b, i * s + j, none⟩) (.inr rfl) _) (fun m hm h => (hE k l m hk hl hm).2 h))
      rw [upd_len] at q
      exact q
    · intro z
      have q := Own.arr (w := w.setCell ⟨b, i * s + j, none⟩ (.int .i64 z)) D (fun k l => if k = i ∧ l = j then (fun _ => False) else E k l) s (upd rows i j (.num z)) b c T N _ hD (by rw [upd_len]; exact h0) hs0 (by rw [upd_len]; exact hc) (by rw [upd_len]; exact hm) (hsl _) (by rw [upd_len]; exact hN) (hrow.set (i * s + j) _)
        (by
          rw [upd_len]
          intro k l m hk hl hm'
          by_cases e : k = i ∧ l = j
          · rw [if_pos e] at hm'; exact hm'.elim
          · rw [if_neg e] at hm'; exact hE k l m hk hl hm')
        (by
          rw [upd_len]
          intro k l k' l' m hk hl hk' hl' h1 h2
          by_cases e : k = i ∧ l = j <;> by_cases e' : k' = i ∧ l' = j
          · exact ⟨e.1.trans e'.1.symm, e.2.trans e'.2.symm⟩
          · rw [if_pos e] at h1; exact h1.elim
          · rw [if_pos e'] at h2; exact h2.elim
          · rw [if_neg e] at h1; rw [if_neg e'] at h2
            exact hdis k l k' l' m hk hl hk' hl' h1 h2)
        (fun k l hk hl => by
          rw [upd_len] at hk
          rw [rAt_upd hi hlen]
          by_cases e : k = i ∧ l = j
          · rw [if_pos e, if_pos e, if_pos (by rw [e.1, e.2])]
            exact .num _ z
          · rw [if_neg e, if_neg e, if_neg (fun h => e (idx_inj hl hj h))]
            exact (hr k l hk hl).ext (S := fun k => k = b) ((Ext.refl (fun k => k = b) w).setCell (p := ⟨b, i * s + j, none⟩) (.inr rfl) _) (fun m hm h => (hE k l m hk hl hm).2 h))
      rw [upd_len] at q
      exact q

/-! ### Rows that grow by append -/

/-- The slice v, that grows by append, holds n elements; its own row lies from base on, all else that it leads to lies in blocks of D. -/
def Acc (w : World) (base : Nat) (D : Nat → Prop) (T : TypeId) (s : Nat) (v : Value) (rows : List (List Dat)) : Prop :=
  ∃ (xs : List Value) (E : Nat → Nat → Nat → Prop), w.ownsRow base T s v rows.length xs ∧ (∀ i, i < rows.length → (rGet rows i).length = s) ∧
    (∀ i j k, i < rows.length → j < s → E i j k → D k ∧ k < w.heap.size ∧ v.ownBlock ≠ some k) ∧
    (∀ i j i' j' k, i < rows.length → j < s → i' < rows.length → j' < s → E i j k → E i' j' k → i = i' ∧ j = j') ∧
    ∀ i j, i < rows.length → j < s → ∃ u, xs[i * s + j]? = some u ∧ Own w (E i j) (rAt rows i j) u

theorem Acc.nil (w : World) (base : Nat) (D : Nat → Prop) (T : TypeId) (s : Nat) : Acc w base D T s (.slice none 0 0) [] :=
  ⟨[], fun _ _ _ => False, World.ownsRow_nil w base T s, by simp, by simp, by simp, by simp⟩
theorem Acc.made (w : World) (D : Nat → Prop) (T : TypeId) (s : Nat) : Acc (w.alloc (.cells #[] T)) w.heap.size D T s (.slice (some ⟨w.heap.size, 0, none⟩) 0 0) [] :=
  ⟨[], fun _ _ _ => False, World.ownsRow_made w #[] 0 (Nat.le_refl _) (by simp [maxLen]) (by simp), by simp, by simp, by simp, by simp⟩
theorem Acc.mono {base : Nat} {T : TypeId} {s : Nat} {rows : List (List Dat)} (h : Acc w base D T s v rows) (hs : ∀ k, D k → D' k) : Acc w base D' T s v rows := by
  obtain ⟨xs, E, h1, h2, h3, h4, h5⟩ := h
  exact ⟨xs, E, h1, h2, fun i j k hi hj hk => ⟨hs _ (h3 i j k hi hj hk).1, (h3 i j k hi hj hk).2⟩, h4, h5⟩
theorem Acc.ext {base : Nat} {T : TypeId} {s : Nat} {rows : List (List Dat)} (h : Acc w base D T s v rows) (hx : Ext S w w') (hs : ∀ k, k < w.heap.size → (D k ∨ base ≤ k) → ¬ S k) : Acc w' base D T s v rows := by
  obtain ⟨xs, E, h1, h2, h3, h4, h5⟩ := h
  refine ⟨xs, E, ⟨h1.1, ?_⟩, h2, fun i j k hi hj hk => ⟨(h3 i j k hi hj hk).1, Nat.lt_of_lt_of_le (h3 i j k hi hj hk).2.1 hx.size, (h3 i j k hi hj hk).2.2⟩, h4, fun i j hi hj => ?_⟩
  · rcases h1.2 with h | ⟨g, cap, cur, e, hb, hg, rest⟩
    · exact .inl h
    · have hlt : g < w.heap.size := (Array.getElem?_eq_some_iff.1 hg).1
      exact .inr ⟨g, cap, cur, e, hb, (hx.block g hlt (hs g hlt (.inr hb))).trans hg, rest⟩
  · obtain ⟨u, hu, ho⟩ := h5 i j hi hj
    exact ⟨u, hu, ho.ext hx (fun k hk => hs k (h3 i j k hi hj hk).2.1 (.inl (h3 i j k hi hj hk).1))⟩
theorem Acc.keep {base : Nat} {T : TypeId} {s : Nat} {rows : List (List Dat)} (h : Acc w base D T s v rows) (hx : Keep w w') : Acc w' base D T s v rows := h.ext hx (fun _ _ _ h => h)

/-- What has grown by append, as a slice of the call's own. -/
theorem Acc.own {base : Nat} {T : TypeId} {s : Nat} {rows : List (List Dat)} (h : Acc w base D T s v rows) (hs0 : 0 < s) (hm : rows.length ≤ 9223372036854775807) :
    ∃ a c, v = .slice a rows.length c ∧ rows.length ≤ c ∧ Own w (fun k => D k ∨ base ≤ k) (.arr s rows) v := by
  obtain ⟨xs, E, h1, h2, h3, h4, h5⟩ := h
  rcases h1.2 with ⟨e, h0⟩ | ⟨g, cap, cur, e, hb, hg, hnc, _, hsz, htake⟩
  · have : rows = [] := List.eq_nil_of_length_eq_zero h0
    subst this
    subst e
    exact ⟨none, 0, rfl, Nat.le_refl _, .nil _ _ _ _⟩
  · subst e
    refine ⟨_, cap, rfl, hnc, ?_⟩
    rcases Nat.eq_zero_or_pos rows.length with h0 | h0
    · have : rows = [] := List.eq_nil_of_length_eq_zero h0
      subst this
      exact .nil _ _ _ _
    refine .arr _ E s rows g cap T (cap * s) (fun i => cur.getD i undef) (.inr hb) h0 hs0 hnc hm h2 (Nat.mul_le_mul_right s hnc) ⟨cur, hg, hsz, fun i hi => ?_⟩ (fun i j k hi hj hk => ⟨.inl (h3 i j k hi hj hk).1, fun e => (h3 i j k hi hj hk).2.2 (by rw [e]; rfl)⟩) h4 (fun i j hi hj => ?_)
    · simp [Array.getD, show i < cur.size by omega]
    · obtain ⟨u, hu, ho⟩ := h5 i j hi hj
      have hlt := idx_lt hi hj
      have hlt2 : i * s + j < cur.size := by rw [hsz]; exact Nat.lt_of_lt_of_le hlt (Nat.mul_le_mul_right s hnc)
      rw [← htake, List.getElem?_take, if_pos hlt, Array.getElem?_toList, Array.getElem?_eq_getElem hlt2] at hu
      have : cur.getD (i * s + j) undef = u := by simp [Array.getD, hlt2]; simpa using hu
      rw [this]; exact ho

/-- Behind an append of one element, whose cells hold the data r. -/
theorem Acc.push {base : Nat} {T : TypeId} {s : Nat} {rows : List (List Dat)} {v' : Value} {r : List Dat} {news : List Value} {D2 : Nat → Nat → Prop} (h : Acc w base D T s v rows)
    (hr : r.length = s) (hn : news.length = s) (hnew : ∀ j u, news[j]? = some u → Own w (D2 j) (dGet r j) u)
    (hD2 : ∀ j k, j < s → D2 j k → D' k ∧ ¬ D k ∧ v.ownBlock ≠ some k ∧ k < w.heap.size) (hdis : ∀ j j' k, j < s → j' < s → D2 j k → D2 j' k → j = j') (hD : ∀ k, D k → D' k)
    (hown' : ∀ xs, w.ownsRow base T s v rows.length xs → w'.ownsRow base T s v' (rows.length + 1) (xs ++ news)) (hg : w.grownBy w' v.ownBlock) (hv : v'.ownBlock = v.ownBlock ∨ v'.ownBlock = some w.heap.size) : Acc w' base D' T s v' (rows ++ [r]) := by
  obtain ⟨xs, E, h1, h2, h3, h4, h5⟩ := h
  have hl : xs.length = rows.length * s := h1.1
  have hx : Ext (fun k => v.ownBlock = some k) w w' := ⟨hg.os, hg.tape, hg.output, hg.size, fun k hk hn => hg.block k hk (fun e => hn e.symm)⟩
  have hblk : ∀ k, k < w.heap.size → v.ownBlock ≠ some k → v'.ownBlock ≠ some k := by
    intro k hk hne
    rcases hv with e | e
    · rw [e]; exact hne
    · rw [e]; intro h; injection h with h; omega
  have hlen : (rows ++ [r]).length = rows.length + 1 := by simp
  have hrg : ∀ i, i < rows.length → rGet (rows ++ [r]) i = rGet rows i := by intro i hi; simp [rGet, List.getD, List.getElem?_append_left hi]
  have hrl : rGet (rows ++ [r]) rows.length = r := by simp [rGet, List.getD]
  refine ⟨xs ++ news, fun i j => if i = rows.length then D2 j else E i j, by rw [hlen]; exact hown' xs h1, ?_, ?_, ?_, ?_⟩
  · intro i hi
    rw [hlen] at hi
    by_cases e : i = rows.length
    · rw [e, hrl, hr]
    · rw [hrg i (by omega), h2 i (by omega)]
  · intro i j k hi hj hk
    rw [hlen] at hi
    by_cases e : i = rows.length
    · rw [if_pos e] at hk
      obtain ⟨q1, q2, q3, q4⟩ := hD2 j k hj hk
      exact ⟨q1, Nat.lt_of_lt_of_le q4 hg.size, hblk k q4 q3⟩
    · rw [if_neg e] at hk
      obtain ⟨q1, q2, q3⟩ := h3 i j k (by omega) hj hk
      exact ⟨hD _ q1, Nat.lt_of_lt_of_le q2 hg.size, hblk k q2 q3⟩
  · intro i j i' j' k hi hj hi' hj' hk hk'
    rw [hlen] at hi hi'
    by_cases e : i = rows.length <;> by_cases e' : i' = rows.length
    · rw [if_pos e] at hk; rw [if_pos e'] at hk'
      exact ⟨by omega, hdis j j' k hj hj' hk hk'⟩
    · rw [if_pos e] at hk; rw [if_neg e'] at hk'
      exact absurd (h3 i' j' k (by omega) hj' hk').1 (hD2 j k hj hk).2.1
    · rw [if_neg e] at hk; rw [if_pos e'] at hk'
      exact absurd (h3 i j k (by omega) hj hk).1 (hD2 j' k hj' hk').2.1
    · rw [if_neg e] at hk; rw [if_neg e'] at hk'
      exact h4 i j i' j' k (by omega) hj (by omega) hj' hk hk'
  · intro i j hi hj
    rw [hlen] at hi
    by_cases e : i = rows.length
    · subst e
      rw [List.getElem?_append_right (by rw [hl]; omega), hl, show rows.length * s + j - rows.length * s = j by omega]
      have hjn : j < news.length := by omega
      refine ⟨news[j], List.getElem?_eq_getElem hjn, ?_⟩
      show Own w' (if rows.length = rows.length then D2 j else E rows.length j) _ _
      rw [if_pos rfl, rAt, hrl]
      exact (hnew j _ (List.getElem?_eq_getElem hjn)).ext hx (fun k hk h => (hD2 j k hj hk).2.2.1 h)
    · obtain ⟨u, hu, ho⟩ := h5 i j (by omega) hj
      refine ⟨u, ?_, ?_⟩
      · rw [List.getElem?_append_left (by rw [hl]; exact idx_lt (by omega) hj)]; exact hu
      · show Own w' (if i = rows.length then D2 j else E i j) _ _
        rw [if_neg e, rAt, hrg i (by omega)]
        exact ho.ext hx (fun k hk h => (h3 i j k (by omega) hj hk).2.2 h)
end
end Go.Proofs.YtkapldpmjkdmcaaGreat
/- Plain functions on data: how many elements, how many integers, the marks. -/
namespace Go.Proofs.YtkapldpmjkdmcaaGreat
open Go.RowKit

mutual
/-- How many elements all slices have. -/
def szD : Dat → Nat
  | .num _ => 0
  | .arr _ rows => rows.length + szRR rows
def szRR : List (List Dat) → Nat
  | [] => 0
  | r :: rs => szR r + szRR rs
def szR : List Dat → Nat
  | [] => 0
  | d :: ds => szD d + szR ds
end
mutual
/-- How many integers there are. -/
def cntD : Dat → Nat
  | .num _ => 1
  | .arr _ rows => cntRR rows
def cntRR : List (List Dat) → Nat
  | [] => 0
  | r :: rs => cntR r + cntRR rs
def cntR : List Dat → Nat
  | [] => 0
  | d :: ds => cntD d + cntR ds
end
mutual
/-- A bound for recursion. -/
def volD : Dat → Nat
  | .num _ => 1
  | .arr _ rows => 1 + volRR rows
def volRR : List (List Dat) → Nat
  | [] => 0
  | r :: rs => volR r + volRR rs
def volR : List Dat → Nat
  | [] => 0
  | d :: ds => volD d + volR ds
end
mutual
/-- The integers are k, k + 1, and so on. -/
def mkD : Dat → Int → Dat
  | .num _, k => .num k
  | .arr s rows, k => .arr s (mkRR rows k)
def mkRR : List (List Dat) → Int → List (List Dat)
  | [], _ => []
  | r :: rs, k => mkR r k :: mkRR rs (k + (cntR r : Int))
def mkR : List Dat → Int → List Dat
  | [], _ => []
  | d :: ds, k => mkD d k :: mkR ds (k + (cntD d : Int))
end

theorem szRR_append (a b : List (List Dat)) : szRR (a ++ b) = szRR a + szRR b := by induction a <;> simp_all [szRR, Nat.add_assoc]
theorem cntRR_append (a b : List (List Dat)) : cntRR (a ++ b) = cntRR a + cntRR b := by induction a <;> simp_all [cntRR, Nat.add_assoc]
theorem mkRR_len (a : List (List Dat)) (k : Int) : (mkRR a k).length = a.length := by
  induction a generalizing k with
  | nil => rfl
  | cons r rs ih => simp [mkRR, ih]
theorem take_succ_rows (rows : List (List Dat)) (i : Nat) (h : i < rows.length) : rows.take (i + 1) = rows.take i ++ [rGet rows i] := by
  rw [List.take_succ_eq_append_getElem h, rGet_lt h]
theorem szRR_take (rows : List (List Dat)) (i : Nat) (h : i < rows.length) : szRR (rows.take (i + 1)) = szRR (rows.take i) + szR (rGet rows i) := by
  rw [take_succ_rows rows i h, szRR_append]; simp [szRR]
theorem cntRR_take (rows : List (List Dat)) (i : Nat) (h : i < rows.length) : cntRR (rows.take (i + 1)) = cntRR (rows.take i) + cntR (rGet rows i) := by
  rw [take_succ_rows rows i h, cntRR_append]; simp [cntRR]
theorem szRR_take_le (rows : List (List Dat)) (i : Nat) : szRR (rows.take i) ≤ szRR rows := by
  rw [← List.take_append_drop i rows, szRR_append]
  simp
theorem cntRR_take_le (rows : List (List Dat)) (i : Nat) : cntRR (rows.take i) ≤ cntRR rows := by
  rw [← List.take_append_drop i rows, cntRR_append]
  simp
theorem szR_le (rows : List (List Dat)) (i : Nat) (h : i < rows.length) : szR (rGet rows i) ≤ szRR rows := by
  have h1 := szRR_take rows i h
  have h2 := szRR_take_le rows (i + 1)
  omega
theorem szD_le (r : List Dat) (j : Nat) : szD (dGet r j) ≤ szR r := by
  induction r generalizing j with
  | nil => simp [dGet, szD, List.getD]
  | cons d ds ih =>
    rcases j with _ | j
    · simp [dGet, szR, List.getD]
    · have := ih j
      simp only [dGet, List.getD, List.getElem?_cons_succ] at this ⊢
      simp only [szR]
      omega
theorem volRR_le (rows : List (List Dat)) (i : Nat) (h : i < rows.length) : volR (rGet rows i) ≤ volRR rows := by
  induction rows generalizing i with
  | nil => simp at h
  | cons r rs ih =>
    rcases i with _ | i
    · simp [rGet, volRR, List.getD]
    · have := ih i (by simpa using h)
      simp only [rGet, List.getD, List.getElem?_cons_succ] at this ⊢
      simp only [volRR]
      omega
theorem volR_le (r : List Dat) (j : Nat) (h : j < r.length) : volD (dGet r j) ≤ volR r := by
  induction r generalizing j with
  | nil => simp at h
  | cons d ds ih =>
    rcases j with _ | j
    · simp [dGet, volR, List.getD]
    · have := ih j (by simpa using h)
      simp only [dGet, List.getD, List.getElem?_cons_succ] at this ⊢
      simp only [volR]
      omega
theorem vol_lt {s : Nat} {rows : List (List Dat)} {i j : Nat} (h : i < rows.length) (hj : j < (rGet rows i).length) : volD (rAt rows i j) < volD (.arr s rows) := by
  have h1 := volRR_le rows i h
  have h2 := volR_le (rGet rows i) j hj
  simp only [volD, rAt]
  omega

/-- Rows of at most s cells: the integers are bounded by the elements. -/
def RowsFit : Nat → Prop := fun _ => True

/-- The rows are marked up to j. -/
def mkTo (rows : List (List Dat)) (k : Int) (j : Nat) : List (List Dat) := (mkRR rows k).take j ++ rows.drop j
theorem mkTo_zero (rows : List (List Dat)) (k : Int) : mkTo rows k 0 = rows := by simp [mkTo]
theorem mkTo_all (rows : List (List Dat)) (k : Int) {n : Nat} (h : n = rows.length) : mkTo rows k n = mkRR rows k := by
  subst h; simp [mkTo, List.take_of_length_le (Nat.le_of_eq (mkRR_len rows k))]
theorem mkTo_get (rows : List (List Dat)) (k : Int) (j : Nat) (h : j < rows.length) : rGet (mkTo rows k j) j = rGet rows j := by
  have h1 : ((mkRR rows k).take j).length = j := by simp [mkRR_len]; omega
  simp [rGet, List.getD, mkTo, List.getElem?_append_right (Nat.le_of_eq h1), h1]
theorem mkRR_get (rows : List (List Dat)) (k : Int) (j : Nat) (h : j < rows.length) : rGet (mkRR rows k) j = mkR (rGet rows j) (k + (cntRR (rows.take j) : Int)) := by
  induction rows generalizing k j with
  | nil => simp at h
  | cons r rs ih =>
    rcases j with _ | j
    · simp [rGet, mkRR, List.getD, cntRR]
    · have := ih (k + (cntR r : Int)) j (by simpa using h)
      simp only [rGet, mkRR, List.getD, List.getElem?_cons_succ] at this ⊢
      rw [this]
      simp only [List.take_succ_cons, cntRR]
      congr 1
      omega
theorem mkTo_succ (rows : List (List Dat)) (k : Int) (j : Nat) (h : j < rows.length) : mkTo rows k (j + 1) = (mkTo rows k j).set j (mkR (rGet rows j) (k + (cntRR (rows.take j) : Int))) := by
  have h1 : ((mkRR rows k).take j).length = j := by simp [mkRR_len]; omega
  rw [← mkRR_get rows k j h]
  simp only [mkTo]
  have hj : j < (mkRR rows k).length := by rw [mkRR_len]; exact h
  rw [List.take_succ_eq_append_getElem hj, List.drop_eq_getElem_cons h, ← rGet_lt hj]
  rw [List.set_append_right _ _ (Nat.le_of_eq h1), h1, Nat.sub_self, List.set_cons_zero, List.append_assoc]
  rfl

theorem made_rows (n : Nat) (r : List Dat) (i : Nat) (h : i < n) : rGet (List.replicate n r) i = r := by simp [rGet, List.getD, h]

/-- Behind make: n elements, all of them the zero value. -/
theorem Own.made {w : World} {b : Nat} {T : TypeId} {n s : Nat} {zs : Array Value} {zd : List Dat} (hrow : w.rowIs b T (n * s) (fun i => zs.getD (i % s) undef)) (hzd : zd.length = s) (hs0 : 0 < s) (hn : n ≤ 9223372036854775807)
    (hz : ∀ j, j < s → Own w (fun _ => False) (dGet zd j) (zs.getD j undef)) : Own w (fun k => k = b) (.arr s (List.replicate n zd)) (.slice (some ⟨b, 0, none⟩) n n) := by
  rcases Nat.eq_zero_or_pos n with rfl | h0
  · exact .nil _ _ _ _
  · have q := Own.arr (w := w) (fun k => k = b) (fun _ _ _ => False) s (List.replicate n zd) b n T (n * s) (fun i => zs.getD (i % s) undef) rfl (by simpa using h0) hs0 (by simp) (by simpa using hn)
      (fun i hi => by rw [made_rows n zd i (by simpa using hi)]; exact hzd) (by simp) hrow (fun _ _ _ _ _ h => h.elim) (fun _ _ _ _ _ _ _ _ _ h => h.elim)
      (fun i j hi hj => by
        show Own w _ _ (zs.getD ((i * s + j) % s) undef)
        rw [Nat.mul_comm, Nat.mul_add_mod, Nat.mod_eq_of_lt hj, rAt, made_rows n zd i (by simpa using hi)]
        exact hz j hj)
    rw [List.length_replicate] at q
    exact q
end Go.Proofs.YtkapldpmjkdmcaaGreat
/- Declarations that can be read in memory: integers, constructors, declarations; what keeps them readable. -/
namespace Go.Proofs.YtkapldpmjkdmcaaGreat
open Go.RowKit

def iAt (xs : List Int) (i : Nat) : Int := xs.getD i 0
def cAt (cs : List (List Int)) (i : Nat) : List Int := cs.getD i []

/-- A slice of integers that reads as xs; what it reads lies in blocks of D. -/
def IntsL (w : World) (D : Nat → Prop) (a : Option Addr) (n : Nat) (xs : List Int) : Prop :=
  xs.length = n ∧ (0 < n → ∃ b o, a = some ⟨b, o, none⟩ ∧ D b ∧ ∀ i, i < n → w.cell? ⟨b, o + i, none⟩ = some (.int .i64 (iAt xs i)))

/-- A slice of constructors that reads as the lists of their fields. -/
def ConsR (w : World) (D : Nat → Prop) (a : Option Addr) (n : Nat) (cs : List (List Int)) : Prop :=
  cs.length = n ∧ (0 < n → ∃ b o, a = some ⟨b, o, none⟩ ∧ D b ∧ ∀ i, i < n → ∃ a' m c, w.cell? ⟨b, o + i, none⟩ = some (.slice a' m c) ∧ m ≤ c ∧ IntsL w D a' m (cAt cs i))

structure DeclL where
  from_ : Int
  to_ : Int
  cons : List (List Int)
instance : Inhabited DeclL := ⟨⟨0, 0, []⟩⟩

def dAt (ds : List DeclL) (i : Nat) : DeclL := ds.getD i default

/-- A slice of declarations. -/
def DeclsR (w : World) (D : Nat → Prop) (a : Option Addr) (n : Nat) (ds : List DeclL) : Prop :=
  ds.length = n ∧ (0 < n → ∃ b o, a = some ⟨b, o, none⟩ ∧ D b ∧ ∀ i, i < n →
    w.cell? ⟨b, o + i * 3, none⟩ = some (.int .i64 (dAt ds i).from_) ∧ w.cell? ⟨b, o + i * 3 + 1, none⟩ = some (.int .i64 (dAt ds i).to_) ∧
    ∃ a' m c, w.cell? ⟨b, o + i * 3 + 2, none⟩ = some (.slice a' m c) ∧ m ≤ c ∧ ConsR w D a' m (dAt ds i).cons)

section
variable {S D D' : Nat → Prop} {w w' : World}
theorem IntsL.ext {a : Option Addr} {n : Nat} {xs : List Int} (h : IntsL w D a n xs) (hx : Ext S w w') (hs : ∀ k, D k → ¬ S k) : IntsL w' D a n xs := by
  refine ⟨h.1, fun hn => ?_⟩
  obtain ⟨b, o, rfl, hd, hc⟩ := h.2 hn
  refine ⟨b, o, rfl, hd, fun i hi => ?_⟩
  have hb := World.block_lt_of_cell? w _ (hc i hi)
  exact (hx.cell hb (hs _ hd)).trans (hc i hi)
theorem IntsL.mono {a : Option Addr} {n : Nat} {xs : List Int} (h : IntsL w D a n xs) (hs : ∀ k, D k → D' k) : IntsL w D' a n xs := by
  refine ⟨h.1, fun hn => ?_⟩
  obtain ⟨b, o, rfl, hd, hc⟩ := h.2 hn
  exact ⟨b, o, rfl, hs _ hd, hc⟩
theorem ConsR.ext {a : Option Addr} {n : Nat} {cs : List (List Int)} (h : ConsR w D a n cs) (hx : Ext S w w') (hs : ∀ k, D k → ¬ S k) : ConsR w' D a n cs := by
  refine ⟨h.1, fun hn => ?_⟩
  obtain ⟨b, o, rfl, hd, hc⟩ := h.2 hn
  refine ⟨b, o, rfl, hd, fun i hi => ?_⟩
  obtain ⟨a', m, c, h1, h2, h3⟩ := hc i hi
  have hb := World.block_lt_of_cell? w _ h1
  exact ⟨a', m, c, (hx.cell hb (hs _ hd)).trans h1, h2, h3.ext hx hs⟩
theorem ConsR.mono {a : Option Addr} {n : Nat} {cs : List (List Int)} (h : ConsR w D a n cs) (hs : ∀ k, D k → D' k) : ConsR w D' a n cs := by
  refine ⟨h.1, fun hn => ?_⟩
  obtain ⟨b, o, rfl, hd, hc⟩ := h.2 hn
  refine ⟨b, o, rfl, hs _ hd, fun i hi => ?_⟩
  obtain ⟨a', m, c, h1, h2, h3⟩ := hc i hi
  exact ⟨a', m, c, h1, h2, h3.mono hs⟩
theorem DeclsR.ext {a : Option Addr} {n : Nat} {ds : List DeclL} (h : DeclsR w D a n ds) (hx : Ext S w w') (hs : ∀ k, D k → ¬ S k) : DeclsR w' D a n ds := by
  refine ⟨h.1, fun hn => ?_⟩
  obtain ⟨b, o, rfl, hd, hc⟩ := h.2 hn
  refine ⟨b, o, rfl, hd, fun i hi => ?_⟩
  obtain ⟨h1, h2, a', m, c, h3, h4, h5⟩ := hc i hi
  have hb1 := World.block_lt_of_cell? w _ h1
  have hb2 := World.block_lt_of_cell? w _ h2
  have hb3 := World.block_lt_of_cell? w _ h3
  exact ⟨(hx.cell hb1 (hs _ hd)).trans h1, (hx.cell hb2 (hs _ hd)).trans h2,
    a', m, c, (hx.cell hb3 (hs _ hd)).trans h3, h4, h5.ext hx hs⟩
theorem DeclsR.mono {a : Option Addr} {n : Nat} {ds : List DeclL} (h : DeclsR w D a n ds) (hs : ∀ k, D k → D' k) : DeclsR w D' a n ds := by
  refine ⟨h.1, fun hn => ?_⟩
  obtain ⟨b, o, rfl, hd, hc⟩ := h.2 hn
  refine ⟨b, o, rfl, hs _ hd, fun i hi => ?_⟩
  obtain ⟨h1, h2, a', m, c, h3, h4, h5⟩ := hc i hi
  exact ⟨h1, h2, a', m, c, h3, h4, h5.mono hs⟩
theorem IntsL.drewN {a : Option Addr} {n : Nat} {xs : List Int} (h : IntsL w D a n xs) (q : Nat) : IntsL (w.drewN q) D a n xs := h
theorem ConsR.drewN {a : Option Addr} {n : Nat} {cs : List (List Int)} (h : ConsR w D a n cs) (q : Nat) : ConsR (w.drewN q) D a n cs := h.ext ((Ext.refl (fun _ => False) w).drewN q) (fun _ _ h => h)
theorem DeclsR.drewN {a : Option Addr} {n : Nat} {ds : List DeclL} (h : DeclsR w D a n ds) (q : Nat) : DeclsR (w.drewN q) D a n ds := h.ext ((Ext.refl (fun _ => False) w).drewN q) (fun _ _ h => h)
end
end Go.Proofs.YtkapldpmjkdmcaaGreat
/- Typed data: integers, constructors, declarations, expressions, functions, steps, blocks, routines; how they lie in memory. -/
namespace Go.Proofs.YtkapldpmjkdmcaaGreat
open Go.RowKit

def rowI (x : Int) : List Dat := [.num x]
def encInts (xs : List Int) : Dat := .arr 1 (xs.map rowI)
def rowC (f : List Int) : List Dat := [encInts f]
def encCons (cs : List (List Int)) : Dat := .arr 1 (cs.map rowC)
def rowD (d : DeclL) : List Dat := [.num d.from_, .num d.to_, encCons d.cons]
def encDecls (ds : List DeclL) : Dat := .arr 3 (ds.map rowD)

/-- An expression. -/
inductive ExprL where
  | mk (op num : Int) (kids : List ExprL)
def ExprL.op : ExprL → Int | .mk o _ _ => o
def ExprL.num : ExprL → Int | .mk _ n _ => n
def ExprL.kids : ExprL → List ExprL | .mk _ _ k => k
instance : Inhabited ExprL := ⟨.mk 0 0 []⟩
def eAt (es : List ExprL) (i : Nat) : ExprL := es.getD i default
mutual
def rowE : ExprL → List Dat
  | .mk op num ks => [.num op, .num num, .arr 3 (rowsE ks)]
def rowsE : List ExprL → List (List Dat)
  | [] => []
  | e :: es => rowE e :: rowsE es
end
def encExprs (es : List ExprL) : Dat := .arr 3 (rowsE es)
theorem rowsE_map (es : List ExprL) : rowsE es = es.map rowE := by induction es <;> simp_all [rowsE]
structure FuncL where
  params : List Int
  result : Int
  body : ExprL
instance : Inhabited FuncL := ⟨⟨[], 0, default⟩⟩
def fAt (fs : List FuncL) (i : Nat) : FuncL := fs.getD i default
def rowF (f : FuncL) : List Dat := [encInts f.params, .num f.result, .num f.body.op, .num f.body.num, encExprs f.body.kids]
def encFuncs (fs : List FuncL) : Dat := .arr 5 (fs.map rowF)
structure ProgL where
  decls : List DeclL
  funcs : List FuncL

mutual
inductive StepL where
  | mk (op num into : Int) (args : List Int) (kids : List BlockL)
inductive BlockL where
  | mk (steps : List StepL) (result : Int)
end
def StepL.op : StepL → Int | .mk o _ _ _ _ => o
def StepL.num : StepL → Int | .mk _ o _ _ _ => o
def StepL.into : StepL → Int | .mk _ _ o _ _ => o
def StepL.args : StepL → List Int | .mk _ _ _ o _ => o
def StepL.kids : StepL → List BlockL | .mk _ _ _ _ o => o
def BlockL.steps : BlockL → List StepL | .mk s _ => s
def BlockL.result : BlockL → Int | .mk _ r => r
instance : Inhabited StepL := ⟨.mk 0 0 0 [] []⟩
instance : Inhabited BlockL := ⟨.mk [] 0⟩
def sAt (es : List StepL) (i : Nat) : StepL := es.getD i default
def bAt (es : List BlockL) (i : Nat) : BlockL := es.getD i default
mutual
def rowS : StepL → List Dat
  | .mk op num into args ks => [.num op, .num num, .num into, encInts args, .arr 2 (rowsB ks)]
def rowB : BlockL → List Dat
  | .mk ss r => [.arr 5 (rowsS ss), .num r]
def rowsS : List StepL → List (List Dat)
  | [] => []
  | e :: es => rowS e :: rowsS es
def rowsB : List BlockL → List (List Dat)
  | [] => []
  | e :: es => rowB e :: rowsB es
end
def encSteps (es : List StepL) : Dat := .arr 5 (rowsS es)
def encBlocks (es : List BlockL) : Dat := .arr 2 (rowsB es)
theorem rowsS_map (es : List StepL) : rowsS es = es.map rowS := by induction es <;> simp_all [rowsS]
theorem rowsB_map (es : List BlockL) : rowsB es = es.map rowB := by induction es <;> simp_all [rowsB]
theorem rowS_eq (e : StepL) : rowS e = [.num e.op, .num e.num, .num e.into, encInts e.args, encBlocks e.kids] := by cases e; rfl
theorem rowB_eq (e : BlockL) : rowB e = [encSteps e.steps, .num e.result] := by cases e; rfl

structure RoutL where
  params : List Int
  lent : List Int
  result : Int
  body : BlockL
instance : Inhabited RoutL := ⟨⟨[], [], 0, default⟩⟩
def rtAt (fs : List RoutL) (i : Nat) : RoutL := fs.getD i default
def rowR (f : RoutL) : List Dat := [encInts f.params, encInts f.lent, .num f.result, encSteps f.body.steps, .num f.body.result]
def encRouts (fs : List RoutL) : Dat := .arr 5 (fs.map rowR)
structure NormL where
  decls : List DeclL
  routs : List RoutL

/-- The signature of a function, with the parameters that are lent. -/
structure SigL where
  params : List Int
  lent : List Int
  result : Int
instance : Inhabited SigL := ⟨⟨[], [], 0⟩⟩
def sgAt (fs : List SigL) (i : Nat) : SigL := fs.getD i default
def rowG (f : SigL) : List Dat := [encInts f.params, encInts f.lent, .num f.result]
def encSigs (fs : List SigL) : Dat := .arr 3 (fs.map rowG)
def rowII (f : List Int) : List Dat := [encInts f]

theorem iAt_get {xs : List Int} {i : Nat} (h : i < xs.length) : iAt xs i = xs[i] := by simp [iAt, List.getD, h]
theorem cAt_get {xs : List (List Int)} {i : Nat} (h : i < xs.length) : cAt xs i = xs[i] := by simp [cAt, List.getD, h]
theorem dAt_get {xs : List DeclL} {i : Nat} (h : i < xs.length) : dAt xs i = xs[i] := by simp [dAt, List.getD, h]

theorem fAt_get {xs : List FuncL} {i : Nat} (h : i < xs.length) : fAt xs i = xs[i] := by simp [fAt, List.getD, h]
theorem sAt_get {xs : List StepL} {i : Nat} (h : i < xs.length) : sAt xs i = xs[i] := by simp [sAt, List.getD, h]
theorem bAt_get {xs : List BlockL} {i : Nat} (h : i < xs.length) : bAt xs i = xs[i] := by simp [bAt, List.getD, h]
theorem rtAt_get {xs : List RoutL} {i : Nat} (h : i < xs.length) : rtAt xs i = xs[i] := by simp [rtAt, List.getD, h]
theorem sgAt_get {xs : List SigL} {i : Nat} (h : i < xs.length) : sgAt xs i = xs[i] := by simp [sgAt, List.getD, h]

section
variable {D : Nat → Prop} {w : World} {a : Option Addr} {n c : Nat}
theorem rows_at {s : Nat} {rows : List (List Dat)} (h : Rd w D (.arr s rows) (.slice a n c)) : rows.length = n ∧ n ≤ c ∧ n ≤ 9223372036854775807 ∧
    ∀ i, i < n → ∃ b o, a = some ⟨b, o, none⟩ ∧ D b ∧ ∀ j, j < s → ∃ u, w.cell? ⟨b, o + i * s + j, none⟩ = some u ∧ Rd w D (dGet (rGet rows i) j) u := by
  obtain ⟨a', c', e, h1, h2, h3⟩ := h.arr_inv
  injection e with e1 e2 e3
  subst e1 e2 e3
  refine ⟨rfl, h1, h2, fun i hi => ?_⟩
  obtain ⟨b, o, e, hd, hc⟩ := h3 (by omega)
  exact ⟨b, o, e, hd, fun j hj => (hc i hi).2 j hj⟩
theorem arr_slice {s : Nat} {rows : List (List Dat)} {v : Value} (h : Rd w D (.arr s rows) v) : ∃ a n c, v = .slice a n c ∧ n = rows.length ∧ n ≤ c := by
  obtain ⟨a', c', rfl, h1, _⟩ := h.arr_inv
  exact ⟨a', _, c', rfl, rfl, h1⟩

theorem ints_row (xs : List Int) (i : Nat) (h : i < xs.length) : rGet (xs.map rowI) i = [.num (iAt xs i)] := by rw [iAt_get h, rGet_map _ _ _ h]; rfl
theorem ints_len (xs : List Int) : (xs.map rowI).length = xs.length := by simp
theorem ints_at {xs : List Int} (h : Rd w D (encInts xs) (.slice a n c)) : xs.length = n ∧ n ≤ c ∧ n ≤ 9223372036854775807 ∧ ∀ i, i < n → ∃ b o, a = some ⟨b, o, none⟩ ∧ D b ∧
    w.cell? ⟨b, o + i, none⟩ = some (.int .i64 (iAt xs i)) := by
  obtain ⟨h1, h2, h3, h4⟩ := rows_at (s := 1) (rows := (xs.map rowI)) h
  rw [ints_len] at h1
  refine ⟨h1, h2, h3, fun i hi => ?_⟩
  obtain ⟨b, o, e, hd, hc⟩ := h4 i hi
  rw [ints_row xs i (by omega)] at hc
  obtain ⟨u0, d0, r0⟩ := hc 0 (by omega)
  rw [Nat.mul_one, Nat.add_zero] at d0
  obtain rfl := Rd.num_inv (z := iAt xs i) r0
  exact ⟨b, o, e, hd, d0⟩
theorem cons_row (xs : List (List Int)) (i : Nat) (h : i < xs.length) : rGet (xs.map rowC) i = [encInts (cAt xs i)] := by rw [cAt_get h, rGet_map _ _ _ h]; rfl
theorem cons_len (xs : List (List Int)) : (xs.map rowC).length = xs.length := by simp
theorem cons_at {xs : List (List Int)} (h : Rd w D (encCons xs) (.slice a n c)) : xs.length = n ∧ n ≤ c ∧ n ≤ 9223372036854775807 ∧ ∀ i, i < n → ∃ b o, a = some ⟨b, o, none⟩ ∧ D b ∧
    ∃ a0 n0 c0, w.cell? ⟨b, o + i, none⟩ = some (.slice a0 n0 c0) ∧ Rd w D (encInts (cAt xs i)) (.slice a0 n0 c0) := by
  obtain ⟨h1, h2, h3, h4⟩ := rows_at (s := 1) (rows := (xs.map rowC)) h
  rw [cons_len] at h1
  refine ⟨h1, h2, h3, fun i hi => ?_⟩
  obtain ⟨b, o, e, hd, hc⟩ := h4 i hi
  rw [cons_row xs i (by omega)] at hc
  obtain ⟨u0, d0, r0⟩ := hc 0 (by omega)
  rw [Nat.mul_one, Nat.add_zero] at d0
  obtain ⟨a0, n0, c0, rfl, _, _⟩ := arr_slice (rows := _) r0
  exact ⟨b, o, e, hd, a0, n0, c0, d0, r0⟩
theorem decls_row (xs : List DeclL) (i : Nat) (h : i < xs.length) : rGet (xs.map rowD) i = [.num ((dAt xs i).from_), .num ((dAt xs i).to_), encCons (dAt xs i).cons] := by rw [dAt_get h, rGet_map _ _ _ h]; rfl
theorem decls_len (xs : List DeclL) : (xs.map rowD).length = xs.length := by simp
theorem decls_at {xs : List DeclL} (h : Rd w D (encDecls xs) (.slice a n c)) : xs.length = n ∧ n ≤ c ∧ n ≤ 9223372036854775807 ∧ ∀ i, i < n → ∃ b o, a = some ⟨b, o, none⟩ ∧ D b ∧
    ∃ a2 n2 c2, w.cell? ⟨b, o + i * 3, none⟩ = some (.int .i64 ((dAt xs i).from_)) ∧ w.cell? ⟨b, o + i * 3 + 1, none⟩ = some (.int .i64 ((dAt xs i).to_)) ∧ w.cell? ⟨b, o + i * 3 + 2, none⟩ = some (.slice a2 n2 c2) ∧ Rd w D (encCons (dAt xs i).cons) (.slice a2 n2 c2) := by
  obtain ⟨h1, h2, h3, h4⟩ := rows_at (s := 3) (rows := (xs.map rowD)) h
  rw [decls_len] at h1
  refine ⟨h1, h2, h3, fun i hi => ?_⟩
  obtain ⟨b, o, e, hd, hc⟩ := h4 i hi
  rw [decls_row xs i (by omega)] at hc
  obtain ⟨u0, d0, r0⟩ := hc 0 (by omega)
  rw [Nat.add_zero] at d0
  obtain rfl := Rd.num_inv (z := (dAt xs i).from_) r0
  obtain ⟨u1, d1, r1⟩ := hc 1 (by omega)
  obtain rfl := Rd.num_inv (z := (dAt xs i).to_) r1
  obtain ⟨u2, d2, r2⟩ := hc 2 (by omega)
  obtain ⟨a2, n2, c2, rfl, _, _⟩ := arr_slice (rows := _) r2
  exact ⟨b, o, e, hd, a2, n2, c2, d0, d1, d2, r2⟩
theorem funcs_row (xs : List FuncL) (i : Nat) (h : i < xs.length) : rGet (xs.map rowF) i = [encInts (fAt xs i).params, .num ((fAt xs i).result), .num ((fAt xs i).body.op), .num ((fAt xs i).body.num), encExprs (fAt xs i).body.kids] := by rw [fAt_get h, rGet_map _ _ _ h]; rfl
theorem funcs_len (xs : List FuncL) : (xs.map rowF).length = xs.length := by simp
theorem funcs_at {xs : List FuncL} (h : Rd w D (encFuncs xs) (.slice a n c)) : xs.length = n ∧ n ≤ c ∧ n ≤ 9223372036854775807 ∧ ∀ i, i < n → ∃ b o, a = some ⟨b, o, none⟩ ∧ D b ∧
    ∃ a0 n0 c0 a4 n4 c4, w.cell? ⟨b, o + i * 5, none⟩ = some (.slice a0 n0 c0) ∧ w.cell? ⟨b, o + i * 5 + 1, none⟩ = some (.int .i64 ((fAt xs i).result)) ∧ w.cell? ⟨b, o + i * 5 + 2, none⟩ = some (.int .i64 ((fAt xs i).body.op)) ∧ w.cell? ⟨b, o + i * 5 + 3, none⟩ = some (.int .i64 ((fAt xs i).body.num)) ∧ w.cell? ⟨b, o + i * 5 + 4, none⟩ = some (.slice a4 n4 c4) ∧ Rd w D (encInts (fAt xs i).params) (.slice a0 n0 c0) ∧ Rd w D (encExprs (fAt xs i).body.kids) (.slice a4 n4 c4) := by
  obtain ⟨h1, h2, h3, h4⟩ := rows_at (s := 5) (rows := (xs.map rowF)) h
  rw [funcs_len] at h1
  refine ⟨h1, h2, h3, fun i hi => ?_⟩
  obtain ⟨b, o, e, hd, hc⟩ := h4 i hi
  rw [funcs_row xs i (by omega)] at hc
  obtain ⟨u0, d0, r0⟩ := hc 0 (by omega)
  rw [Nat.add_zero] at d0
  obtain ⟨a0, n0, c0, rfl, _, _⟩ := arr_slice (rows := _) r0
  obtain ⟨u1, d1, r1⟩ := hc 1 (by omega)
  obtain rfl := Rd.num_inv (z := (fAt xs i).result) r1
  obtain ⟨u2, d2, r2⟩ := hc 2 (by omega)
  obtain rfl := Rd.num_inv (z := (fAt xs i).body.op) r2
  obtain ⟨u3, d3, r3⟩ := hc 3 (by omega)
  obtain rfl := Rd.num_inv (z := (fAt xs i).body.num) r3
  obtain ⟨u4, d4, r4⟩ := hc 4 (by omega)
  obtain ⟨a4, n4, c4, rfl, _, _⟩ := arr_slice (rows := _) r4
  exact ⟨b, o, e, hd, a0, n0, c0, a4, n4, c4, d0, d1, d2, d3, d4, r0, r4⟩
theorem steps_row (xs : List StepL) (i : Nat) (h : i < xs.length) : rGet (rowsS xs) i = [.num ((sAt xs i).op), .num ((sAt xs i).num), .num ((sAt xs i).into), encInts (sAt xs i).args, encBlocks (sAt xs i).kids] := by rw [sAt_get h, rowsS_map, rGet_map _ _ _ h, rowS_eq]
theorem steps_len (xs : List StepL) : (rowsS xs).length = xs.length := by rw [rowsS_map]; simp
theorem steps_at {xs : List StepL} (h : Rd w D (encSteps xs) (.slice a n c)) : xs.length = n ∧ n ≤ c ∧ n ≤ 9223372036854775807 ∧ ∀ i, i < n → ∃ b o, a = some ⟨b, o, none⟩ ∧ D b ∧
    ∃ a3 n3 c3 a4 n4 c4, w.cell? ⟨b, o + i * 5, none⟩ = some (.int .i64 ((sAt xs i).op)) ∧ w.cell? ⟨b, o + i * 5 + 1, none⟩ = some (.int .i64 ((sAt xs i).num)) ∧ w.cell? ⟨b, o + i * 5 + 2, none⟩ = some (.int .i64 ((sAt xs i).into)) ∧ w.cell? ⟨b, o + i * 5 + 3, none⟩ = some (.slice a3 n3 c3) ∧ w.cell? ⟨b, o + i * 5 + 4, none⟩ = some (.slice a4 n4 c4) ∧ Rd w D (encInts (sAt xs i).args) (.slice a3 n3 c3) ∧ Rd w D (encBlocks (sAt xs i).kids) (.slice a4 n4 c4) := by
  obtain ⟨h1, h2, h3, h4⟩ := rows_at (s := 5) (rows := (rowsS xs)) h
  rw [steps_len] at h1
  refine ⟨h1, h2, h3, fun i hi => ?_⟩
  obtain ⟨b, o, e, hd, hc⟩ := h4 i hi
  rw [steps_row xs i (by omega)] at hc
  obtain ⟨u0, d0, r0⟩ := hc 0 (by omega)
  rw [Nat.add_zero] at d0
  obtain rfl := Rd.num_inv (z := (sAt xs i).op) r0
  obtain ⟨u1, d1, r1⟩ := hc 1 (by omega)
  obtain rfl := Rd.num_inv (z := (sAt xs i).num) r1
  obtain ⟨u2, d2, r2⟩ := hc 2 (by omega)
  obtain rfl := Rd.num_inv (z := (sAt xs i).into) r2
  obtain ⟨u3, d3, r3⟩ := hc 3 (by omega)
  obtain ⟨a3, n3, c3, rfl, _, _⟩ := arr_slice (rows := _) r3
  obtain ⟨u4, d4, r4⟩ := hc 4 (by omega)
  obtain ⟨a4, n4, c4, rfl, _, _⟩ := arr_slice (rows := _) r4
  exact ⟨b, o, e, hd, a3, n3, c3, a4, n4, c4, d0, d1, d2, d3, d4, r3, r4⟩
theorem blocks_row (xs : List BlockL) (i : Nat) (h : i < xs.length) : rGet (rowsB xs) i = [encSteps (bAt xs i).steps, .num ((bAt xs i).result)] := by rw [bAt_get h, rowsB_map, rGet_map _ _ _ h, rowB_eq]
theorem blocks_len (xs : List BlockL) : (rowsB xs).length = xs.length := by rw [rowsB_map]; simp
theorem blocks_at {xs : List BlockL} (h : Rd w D (encBlocks xs) (.slice a n c)) : xs.length = n ∧ n ≤ c ∧ n ≤ 9223372036854775807 ∧ ∀ i, i < n → ∃ b o, a = some ⟨b, o, none⟩ ∧ D b ∧
    ∃ a0 n0 c0, w.cell? ⟨b, o + i * 2, none⟩ = some (.slice a0 n0 c0) ∧ w.cell? ⟨b, o + i * 2 + 1, none⟩ = some (.int .i64 ((bAt xs i).result)) ∧ Rd w D (encSteps (bAt xs i).steps) (.slice a0 n0 c0) := by
  obtain ⟨h1, h2, h3, h4⟩ := rows_at (s := 2) (rows := (rowsB xs)) h
  rw [blocks_len] at h1
  refine ⟨h1, h2, h3, fun i hi => ?_⟩
  obtain ⟨b, o, e, hd, hc⟩ := h4 i hi
  rw [blocks_row xs i (by omega)] at hc
  obtain ⟨u0, d0, r0⟩ := hc 0 (by omega)
  rw [Nat.add_zero] at d0
  obtain ⟨a0, n0, c0, rfl, _, _⟩ := arr_slice (rows := _) r0
  obtain ⟨u1, d1, r1⟩ := hc 1 (by omega)
  obtain rfl := Rd.num_inv (z := (bAt xs i).result) r1
  exact ⟨b, o, e, hd, a0, n0, c0, d0, d1, r0⟩
theorem routs_row (xs : List RoutL) (i : Nat) (h : i < xs.length) : rGet (xs.map rowR) i = [encInts (rtAt xs i).params, encInts (rtAt xs i).lent, .num ((rtAt xs i).result), encSteps (rtAt xs i).body.steps, .num ((rtAt xs i).body.result)] := by rw [rtAt_get h, rGet_map _ _ _ h]; rfl
theorem routs_len (xs : List RoutL) : (xs.map rowR).length = xs.length := by simp
theorem routs_at {xs : List RoutL} (h : Rd w D (encRouts xs) (.slice a n c)) : xs.length = n ∧ n ≤ c ∧ n ≤ 9223372036854775807 ∧ ∀ i, i < n → ∃ b o, a = some ⟨b, o, none⟩ ∧ D b ∧
    ∃ a0 n0 c0 a1 n1 c1 a3 n3 c3, w.cell? ⟨b, o + i * 5, none⟩ = some (.slice a0 n0 c0) ∧ w.cell? ⟨b, o + i * 5 + 1, none⟩ = some (.slice a1 n1 c1) ∧ w.cell? ⟨b, o + i * 5 + 2, none⟩ = some (.int .i64 ((rtAt xs i).result)) ∧ w.cell? ⟨b, o + i * 5 + 3, none⟩ = some (.slice a3 n3 c3) ∧ w.cell? ⟨b, o + i * 5 + 4, none⟩ = some (.int .i64 ((rtAt xs i).body.result)) ∧ Rd w D (encInts (rtAt xs i).params) (.slice a0 n0 c0) ∧ Rd w D (encInts (rtAt xs i).lent) (.slice a1 n1 c1) ∧ Rd w D (encSteps (rtAt xs i).body.steps) (.slice a3 n3 c3) := by
  obtain ⟨h1, h2, h3, h4⟩ := rows_at (s := 5) (rows := (xs.map rowR)) h
  rw [routs_len] at h1
  refine ⟨h1, h2, h3, fun i hi => ?_⟩
  obtain ⟨b, o, e, hd, hc⟩ := h4 i hi
  rw [routs_row xs i (by omega)] at hc
  obtain ⟨u0, d0, r0⟩ := hc 0 (by omega)
  rw [Nat.add_zero] at d0
  obtain ⟨a0, n0, c0, rfl, _, _⟩ := arr_slice (rows := _) r0
  obtain ⟨u1, d1, r1⟩ := hc 1 (by omega)
  obtain ⟨a1, n1, c1, rfl, _, _⟩ := arr_slice (rows := _) r1
  obtain ⟨u2, d2, r2⟩ := hc 2 (by omega)
  obtain rfl := Rd.num_inv (z := (rtAt xs i).result) r2
  obtain ⟨u3, d3, r3⟩ := hc 3 (by omega)
  obtain ⟨a3, n3, c3, rfl, _, _⟩ := arr_slice (rows := _) r3
  obtain ⟨u4, d4, r4⟩ := hc 4 (by omega)
  obtain rfl := Rd.num_inv (z := (rtAt xs i).body.result) r4
  exact ⟨b, o, e, hd, a0, n0, c0, a1, n1, c1, a3, n3, c3, d0, d1, d2, d3, d4, r0, r1, r3⟩
theorem sigs_row (xs : List SigL) (i : Nat) (h : i < xs.length) : rGet (xs.map rowG) i = [encInts (sgAt xs i).params, encInts (sgAt xs i).lent, .num ((sgAt xs i).result)] := by rw [sgAt_get h, rGet_map _ _ _ h]; rfl
theorem sigs_len (xs : List SigL) : (xs.map rowG).length = xs.length := by simp
theorem sigs_at {xs : List SigL} (h : Rd w D (encSigs xs) (.slice a n c)) : xs.length = n ∧ n ≤ c ∧ n ≤ 9223372036854775807 ∧ ∀ i, i < n → ∃ b o, a = some ⟨b, o, none⟩ ∧ D b ∧
    ∃ a0 n0 c0 a1 n1 c1, w.cell? ⟨b, o + i * 3, none⟩ = some (.slice a0 n0 c0) ∧ w.cell? ⟨b, o + i * 3 + 1, none⟩ = some (.slice a1 n1 c1) ∧ w.cell? ⟨b, o + i * 3 + 2, none⟩ = some (.int .i64 ((sgAt xs i).result)) ∧ Rd w D (encInts (sgAt xs i).params) (.slice a0 n0 c0) ∧ Rd w D (encInts (sgAt xs i).lent) (.slice a1 n1 c1) := by
  obtain ⟨h1, h2, h3, h4⟩ := rows_at (s := 3) (rows := (xs.map rowG)) h
  rw [sigs_len] at h1
  refine ⟨h1, h2, h3, fun i hi => ?_⟩
  obtain ⟨b, o, e, hd, hc⟩ := h4 i hi
  rw [sigs_row xs i (by omega)] at hc
  obtain ⟨u0, d0, r0⟩ := hc 0 (by omega)
  rw [Nat.add_zero] at d0
  obtain ⟨a0, n0, c0, rfl, _, _⟩ := arr_slice (rows := _) r0
  obtain ⟨u1, d1, r1⟩ := hc 1 (by omega)
  obtain ⟨a1, n1, c1, rfl, _, _⟩ := arr_slice (rows := _) r1
  obtain ⟨u2, d2, r2⟩ := hc 2 (by omega)
  obtain rfl := Rd.num_inv (z := (sgAt xs i).result) r2
  exact ⟨b, o, e, hd, a0, n0, c0, a1, n1, c1, d0, d1, d2, r0, r1⟩
end

section
variable {D : Nat → Prop} {w : World} {a : Option Addr} {n c : Nat}
theorem Rd.toInts {xs : List Int} (h : Rd w D (encInts xs) (.slice a n c)) : IntsL w D a n xs := by
  obtain ⟨h1, _, _, h4⟩ := ints_at h
  refine ⟨h1, fun hn => ?_⟩
  obtain ⟨b, o, e, hd, _⟩ := h4 0 hn
  subst e
  refine ⟨b, o, rfl, hd, fun i hi => ?_⟩
  obtain ⟨b', o', e, _, hc⟩ := h4 i hi
  injection e with e
  injection e with e1 e2
  subst e1 e2
  exact hc
theorem IntsL.toRd {xs : List Int} (h : IntsL w D a n xs) (hc : n ≤ c) (hm : n ≤ 9223372036854775807) : Rd w D (encInts xs) (.slice a n c) := by
  obtain ⟨h1, h2⟩ := h
  subst h1
  rcases Nat.eq_zero_or_pos xs.length with h0 | h0
  · have : xs = [] := List.eq_nil_of_length_eq_zero h0
    subst this
    exact .nil 1 a c
  · obtain ⟨b, o, rfl, hd, hcell⟩ := h2 h0
    have q := Rd.arr (w := w) (D := D) 1 (xs.map rowI) b o c (fun i _ => .int .i64 (iAt xs i)) hd (by simpa using h0) (by omega) (by simpa using hc) (by simpa using hm)
      (fun i hi => by rw [ints_row xs i (by simpa using hi)]; rfl) (fun i j hi hj => by
        obtain rfl : j = 0 := by omega
        rw [Nat.mul_one, Nat.add_zero]; exact hcell i (by simpa using hi))
      (fun i j hi hj => by
        obtain rfl : j = 0 := by omega
        rw [rAt, ints_row xs i (by simpa using hi)]; exact .num _)
    rw [ints_len] at q
    exact q
theorem Rd.toCons {xs : List (List Int)} (h : Rd w D (encCons xs) (.slice a n c)) : ConsR w D a n xs := by
  obtain ⟨h1, _, _, h4⟩ := cons_at h
  refine ⟨h1, fun hn => ?_⟩
  obtain ⟨b, o, e, hd, _⟩ := h4 0 hn
  subst e
  refine ⟨b, o, rfl, hd, fun i hi => ?_⟩
  obtain ⟨b', o', e, _, a2, n2, c2, hc, hr⟩ := h4 i hi
  injection e with e
  injection e with e1 e2
  subst e1 e2
  exact ⟨a2, n2, c2, hc, (ints_at hr).2.1, hr.toInts⟩
theorem Rd.toDecls {xs : List DeclL} (h : Rd w D (encDecls xs) (.slice a n c)) : DeclsR w D a n xs := by
  obtain ⟨h1, _, _, h4⟩ := decls_at h
  refine ⟨h1, fun hn => ?_⟩
  obtain ⟨b, o, e, hd, _⟩ := h4 0 hn
  subst e
  refine ⟨b, o, rfl, hd, fun i hi => ?_⟩
  obtain ⟨b', o', e, _, a2, n2, c2, hc0, hc1, hc, hr⟩ := h4 i hi
  injection e with e
  injection e with e1 e2
  subst e1 e2
  exact ⟨hc0, hc1, a2, n2, c2, hc, (cons_at hr).2.1, hr.toCons⟩
end
end Go.Proofs.YtkapldpmjkdmcaaGreat
/- Rows that grow by append, whose elements need only be readable; literals. -/
namespace Go.Proofs.YtkapldpmjkdmcaaGreat
open Go.RowKit

/-- The slice v, that grows by append, holds n elements that can be read; its own row lies from base on, all that it leads to lies in other blocks, of D. -/
def AccR (w : World) (base : Nat) (D : Nat → Prop) (T : TypeId) (s : Nat) (v : Value) (rows : List (List Dat)) : Prop :=
  ∃ (xs : List Value), w.ownsRow base T s v rows.length xs ∧ (∀ i, i < rows.length → (rGet rows i).length = s) ∧
    ∀ i j, i < rows.length → j < s → ∃ u, xs[i * s + j]? = some u ∧ Rd w (fun k => D k ∧ v.ownBlock ≠ some k ∧ k < w.heap.size) (rAt rows i j) u

section
variable {S D D' : Nat → Prop} {w w' : World} {v : Value} {base : Nat} {T : TypeId} {s : Nat} {rows : List (List Dat)}
theorem AccR.nil (w : World) (base : Nat) (D : Nat → Prop) (T : TypeId) (s : Nat) : AccR w base D T s (.slice none 0 0) [] :=
  ⟨[], World.ownsRow_nil w base T s, by simp, by simp⟩
theorem AccR.made (w : World) (D : Nat → Prop) (T : TypeId) (s : Nat) : AccR (w.alloc (.cells #[] T)) w.heap.size D T s (.slice (some ⟨w.heap.size, 0, none⟩) 0 0) [] :=
  ⟨[], World.ownsRow_made w #[] 0 (Nat.le_refl _) (by simp [maxLen]) (by simp), by simp, by simp⟩
theorem AccR.mono (h : AccR w base D T s v rows) (hs : ∀ k, D k → D' k) : AccR w base D' T s v rows := by
  obtain ⟨xs, h1, h2, h5⟩ := h
  exact ⟨xs, h1, h2, fun i j hi hj => by obtain ⟨u, hu, ho⟩ := h5 i j hi hj; exact ⟨u, hu, ho.mono (fun k hk => ⟨hs _ hk.1, hk.2⟩)⟩⟩
theorem AccR.lower (h : AccR w base D T s v rows) {base' : Nat} (hb : base' ≤ base) : AccR w base' D T s v rows := by
  obtain ⟨xs, h1, h2, h5⟩ := h
  refine ⟨xs, ⟨h1.1, ?_⟩, h2, h5⟩
  rcases h1.2 with h | ⟨g, cap, cur, e, hg, rest⟩
  · exact .inl h
  · exact .inr ⟨g, cap, cur, e, by omega, rest⟩
theorem AccR.ext (h : AccR w base D T s v rows) (hx : Ext S w w') (hs : ∀ k, k < w.heap.size → (D k ∨ base ≤ k) → ¬ S k) : AccR w' base D T s v rows := by
  obtain ⟨xs, h1, h2, h5⟩ := h
  refine ⟨xs, ⟨h1.1, ?_⟩, h2, fun i j hi hj => ?_⟩
  · rcases h1.2 with h | ⟨g, cap, cur, e, hb, hg, rest⟩
    · exact .inl h
    · have hlt : g < w.heap.size := (Array.getElem?_eq_some_iff.1 hg).1
      exact .inr ⟨g, cap, cur, e, hb, (hx.block g hlt (hs g hlt (.inr hb))).trans hg, rest⟩
  · obtain ⟨u, hu, ho⟩ := h5 i j hi hj
    exact ⟨u, hu, (ho.ext hx (fun k hk => hs k hk.2.2 (.inl hk.1))).mono (fun k hk => ⟨hk.1, hk.2.1, Nat.lt_of_lt_of_le hk.2.2 hx.size⟩)⟩
theorem AccR.keep (h : AccR w base D T s v rows) (hx : Keep w w') : AccR w' base D T s v rows := h.ext hx (fun _ _ _ h => h)
/-- As a slice that can be read. -/
theorem AccR.read (h : AccR w base D T s v rows) (hs0 : 0 < s) : ∃ a c, v = .slice a rows.length c ∧ rows.length ≤ c ∧ rows.length ≤ 9223372036854775807 ∧ Rd w (fun k => D k ∨ base ≤ k) (.arr s rows) v := by
  obtain ⟨xs, h1, h2, h5⟩ := h
  rcases h1.2 with ⟨e, h0⟩ | ⟨g, cap, cur, e, hb, hg, hnc, hmax, hsz, htake⟩
  · have : rows = [] := List.eq_nil_of_length_eq_zero h0
    subst this
    subst e
    exact ⟨none, 0, rfl, Nat.le_refl _, by simp, .nil _ _ _⟩
  · subst e
    have hm : rows.length ≤ 9223372036854775807 := by simp only [maxLen] at hmax; omega
    refine ⟨_, cap, rfl, hnc, hm, ?_⟩
    rcases Nat.eq_zero_or_pos rows.length with h0 | h0
    · have : rows = [] := List.eq_nil_of_length_eq_zero h0
      subst this
      exact .nil _ _ _
    refine .arr s rows g 0 cap (fun i j => xs.getD (i * s + j) undef) (.inr hb) h0 hs0 hnc hm h2 (fun i j hi hj => ?_) (fun i j hi hj => ?_)
    · obtain ⟨u, hu, ho⟩ := h5 i j hi hj
      have := h1.cells (g := g) rfl (i * s + j) u hu
      rw [Addr.add_lit] at this
      rw [Nat.add_assoc, this]
      simp [List.getD, hu]
    · obtain ⟨u, hu, ho⟩ := h5 i j hi hj
      have : xs.getD (i * s + j) undef = u := by simp [List.getD, hu]
      show Rd w _ _ (xs.getD (i * s + j) undef)
      rw [this]
      exact ho.mono (fun k hk => .inl hk.1)

/-- Behind an append of some elements. -/
theorem AccR.push {v' : Value} {rs : List (List Dat)} {news : List Value} (h : AccR w base D T s v rows)
    (hr : ∀ i, i < rs.length → (rGet rs i).length = s) (hnew : ∀ i j, i < rs.length → j < s → ∃ u, news[i * s + j]? = some u ∧ Rd w (fun k => D k ∧ v.ownBlock ≠ some k) (rAt rs i j) u)
    (hown' : ∀ xs, w.ownsRow base T s v rows.length xs → w'.ownsRow base T s v' (rows.length + rs.length) (xs ++ news)) (hg : w.grownBy w' v.ownBlock) (hv : v'.ownBlock = v.ownBlock ∨ v'.ownBlock = some w.heap.size) : AccR w' base D T s v' (rows ++ rs) := by
  obtain ⟨xs, h1, h2, h5⟩ := h
  have hl : xs.length = rows.length * s := h1.1
  have hx : Ext (fun k => v.ownBlock = some k) w w' := ⟨hg.os, hg.tape, hg.output, hg.size, fun k hk hn => hg.block k hk (fun e => hn e.symm)⟩
  have hblk : ∀ k, k < w.heap.size → v.ownBlock ≠ some k → v'.ownBlock ≠ some k := by
    intro k hk hne
    rcases hv with e | e
    · rw [e]; exact hne
    · rw [e]; intro h; injection h with h; omega
  have hlen : (rows ++ rs).length = rows.length + rs.length := by simp
  have hrg : ∀ i, i < rows.length → rGet (rows ++ rs) i = rGet rows i := by intro i hi; simp [rGet, List.getD, List.getElem?_append_left hi]
  have hrl : ∀ i, rows.length ≤ i → rGet (rows ++ rs) i = rGet rs (i - rows.length) := by intro i hi; simp [rGet, List.getD, List.getElem?_append_right hi]
  refine ⟨xs ++ news, by rw [hlen]; exact hown' xs h1, ?_, ?_⟩
  · intro i hi
    rw [hlen] at hi
    by_cases e : i < rows.length
    · rw [hrg i e, h2 i e]
    · rw [hrl i (by omega), hr _ (by omega)]
  · intro i j hi hj
    rw [hlen] at hi
    by_cases e : i < rows.length
    · obtain ⟨u, hu, ho⟩ := h5 i j e hj
      refine ⟨u, ?_, ?_⟩
      · rw [List.getElem?_append_left (by rw [hl]; exact idx_lt e hj)]; exact hu
      · rw [rAt, hrg i e]
        exact (ho.ext hx (fun k hk h => hk.2.1 h)).mono (fun k hk => ⟨hk.1, hblk k hk.2.2 hk.2.1, Nat.lt_of_lt_of_le hk.2.2 hg.size⟩)
    · obtain ⟨i', rfl⟩ : ∃ i', i = rows.length + i' := ⟨i - rows.length, by omega⟩
      obtain ⟨u, hu, ho⟩ := hnew i' j (by omega) hj
      have e1 : (rows.length + i') * s + j = rows.length * s + (i' * s + j) := by rw [Nat.add_mul, Nat.add_assoc]
      refine ⟨u, ?_, ?_⟩
      · rw [e1, List.getElem?_append_right (by rw [hl]; omega), hl, Nat.add_sub_cancel_left]; exact hu
      · rw [rAt, hrl _ (by omega), Nat.add_sub_cancel_left]
        exact (ho.lt.ext hx (fun k hk h => hk.1.2 h)).mono (fun k hk => ⟨hk.1.1, hblk k hk.2 hk.1.2, Nat.lt_of_lt_of_le hk.2 hg.size⟩)

/-- A store into one of its cells. -/
theorem AccR.put {b : Nat} {i j : Nat} {d : Dat} {u : Value} (h : AccR w base D T s v rows) (hb : v.ownBlock = some b) (hi : i < rows.length) (hj : j < s) (hu : Rd w (fun k => D k ∧ k ≠ b) d u) :
    AccR (w.setCell ⟨b, i * s + j, none⟩ u) base D T s v (upd rows i j d) := by
  obtain ⟨xs, h1, h2, h5⟩ := h
  have hlt := idx_lt hi hj
  have hx : Ext (fun k => k = b) w (w.setCell ⟨b, i * s + j, none⟩ u) := (Ext.refl (fun k => k = b) w).setCell (p := ⟨b, i * s + j, none⟩) (.inr rfl) _
  have hsz : w.heap.size ≤ (w.setCell ⟨b, i * s + j, none⟩ u).heap.size := hx.size
  have hlen : j < (rGet rows i).length := by rw [h2 i hi]; exact hj
  rcases h1.2 with ⟨e, h0⟩ | ⟨g, cap, cur, e, hbb, hg, hnc, hmax, hsz2, htake⟩
  · subst e; simp [Value.ownBlock] at hb
  · subst e
    simp only [Value.ownBlock, Option.some.injEq] at hb
    subst hb
    have hle : rows.length * s ≤ cur.size := by rw [hsz2]; exact Nat.mul_le_mul_right s hnc
    refine ⟨xs.set (i * s + j) u, ⟨by rw [upd_len, List.length_set]; exact h1.1, .inr ⟨g, cap, cur.setIfInBounds (i * s + j) u, by rw [upd_len], hbb, ?_, by rw [upd_len]; exact hnc, hmax, by simpa using hsz2, ?_⟩⟩, ?_, ?_⟩
    · simp [World.setCell, Array.getElem?_modify, hg]
    · rw [upd_len, Array.toList_setIfInBounds, ← htake, List.take_set]
    · intro k hk
      rw [upd_len] at hk
      rw [rGet_upd hi]
      by_cases e : k = i
      · rw [if_pos e, List.length_set, h2 i hi]
      · rw [if_neg e, h2 k hk]
    · intro k l hk hl
      rw [upd_len] at hk
      rw [rAt_upd hi hlen]
      by_cases e : k = i ∧ l = j
      · rw [if_pos e]
        obtain ⟨rfl, rfl⟩ := e
        refine ⟨u, by rw [List.getElem?_set_self]; rw [h1.1]; exact hlt, (hu.lt.ext hx (fun m hm h => hm.1.2 h)).mono (fun m hm => ⟨hm.1.1, ?_, by omega⟩)⟩
        intro h; simp only [Value.ownBlock, Option.some.injEq] at h; exact hm.1.2 h.symm
      · rw [if_neg e]
        obtain ⟨u', hu', ho⟩ := h5 k l hk hl
        refine ⟨u', ?_, (ho.ext hx (fun m hm h => hm.2.1 (by rw [h]; rfl))).mono (fun m hm => ⟨hm.1, hm.2.1, by omega⟩)⟩
        rw [List.getElem?_set_ne]
        · exact hu'
        · intro h; exact e (idx_inj hl hj h.symm)
/-- Where a row with elements lies. -/
theorem AccR.open (h : AccR w base D T s v rows) (h0 : 0 < rows.length) : ∃ b c, v = .slice (some ⟨b, 0, none⟩) rows.length c ∧ base ≤ b ∧ b < w.heap.size ∧ rows.length ≤ c ∧ c ≤ 9223372036854775807 ∧ (∀ o, w.frozen? ⟨b, o, none⟩ = false) ∧
    ∀ i j, i < rows.length → j < s → ∃ u, w.cell? ⟨b, i * s + j, none⟩ = some u ∧ Rd w (fun k => D k ∧ k ≠ b ∧ k < w.heap.size) (rAt rows i j) u := by
  obtain ⟨xs, h1, h2, h5⟩ := h
  rcases h1.2 with ⟨e, he⟩ | ⟨g, cap, cur, e, hb, hg, hnc, hmax, hsz, htake⟩
  · omega
  · subst e
    refine ⟨g, cap, rfl, hb, (Array.getElem?_eq_some_iff.1 hg).1, hnc, hmax, fun o => by simp [World.frozen?, hg], fun i j hi hj => ?_⟩
    obtain ⟨u, hu, ho⟩ := h5 i j hi hj
    have := h1.cells (g := g) rfl (i * s + j) u hu
    rw [Addr.add_lit, Nat.zero_add] at this
    refine ⟨u, this, ho.mono (fun k hk => ⟨hk.1, ?_, hk.2.2⟩)⟩
    intro e; exact hk.2.1 (by rw [e]; rfl)
end

end Go.Proofs.YtkapldpmjkdmcaaGreat
/- Literals: integers, constructors, declarations that have just been written down. -/
namespace Go.Proofs.YtkapldpmjkdmcaaGreat
open Go.RowKit

theorem Rd.litD (w : World) (D : Nat → Prop) (T : TypeId) (s : Nat) (cs : Array Value) (rows : List (List Dat)) (n : Nat) (hB : D w.heap.size) (hn : n = rows.length) (hm : n ≤ 9223372036854775807) (hs0 : 0 < s) (hcs : cs.size = n * s)
    (hl : ∀ i, i < rows.length → (rGet rows i).length = s) (hr : ∀ i j, i < rows.length → j < s → ∃ u, cs[i * s + j]? = some u ∧ Rd w D (rAt rows i j) u) :
    Rd (w.alloc (.cells cs T)) D (.arr s rows) (.slice (some ⟨w.heap.size, 0, none⟩) n n) := by
  subst hn
  rcases Nat.eq_zero_or_pos rows.length with h0 | h0
  · have : rows = [] := List.eq_nil_of_length_eq_zero h0
    subst this
    exact .nil s _ _
  refine .arr s rows w.heap.size 0 rows.length (fun i j => cs.getD (i * s + j) undef) hB h0 hs0 (Nat.le_refl _) hm hl (fun i j hi hj => ?_) (fun i j hi hj => ?_)
  · obtain ⟨u, hu, _⟩ := hr i j hi hj
    rw [cell_of_row _ w.heap.size _ cs T (0, 0) (heap_alloc_new w _), Nat.zero_add]
    obtain ⟨hlt, e⟩ := Array.getElem?_eq_some_iff.1 hu
    simp [Array.getD, hlt]
  · obtain ⟨u, hu, ho⟩ := hr i j hi hj
    obtain ⟨hlt, e⟩ := Array.getElem?_eq_some_iff.1 hu
    have : cs.getD (i * s + j) undef = u := by simp [Array.getD, hlt, e]
    show Rd _ _ _ (cs.getD (i * s + j) undef)
    rw [this]
    exact ho.ext ((Ext.refl (fun _ => False) w).alloc _) (fun _ _ h => h)

theorem lit_intsD (w : World) (D : Nat → Prop) (T : TypeId) (xs : List Int) (cs : Array Value) (n : Nat) (hB : D w.heap.size) (hc : cs = (xs.map (Value.int .i64)).toArray) (hn : n = xs.length) (hm : n ≤ 1000) :
    Rd (w.alloc (.cells cs T)) D (encInts xs) (.slice (some ⟨w.heap.size, 0, none⟩) n n) := by
  subst hc hn
  refine Rd.litD w D T 1 _ (xs.map rowI) _ hB (by simp) (by omega) (by omega) (by simp) (fun i hi => by rw [ints_row xs i (by simpa using hi)]; rfl) (fun i j hi hj => ?_)
  obtain rfl : j = 0 := by omega
  have hi' : i < xs.length := by simpa using hi
  refine ⟨.int .i64 (iAt xs i), by simp [hi', iAt], ?_⟩
  rw [rAt, ints_row xs i hi']
  exact .num _

theorem lit_ints (w : World) (B : Nat) (T : TypeId) (xs : List Int) (cs : Array Value) (n : Nat) (hB : B ≤ w.heap.size) (hc : cs = (xs.map (Value.int .i64)).toArray) (hn : n = xs.length) (hm : n ≤ 1000) :
    Rd (w.alloc (.cells cs T)) (fun k => B ≤ k) (encInts xs) (.slice (some ⟨w.heap.size, 0, none⟩) n n) := lit_intsD w _ T xs cs n hB hc hn hm

/-- The values us read as the lists cs. -/
def AllC (w : World) (D : Nat → Prop) : List (List Int) → List Value → Prop
  | [], us => us = []
  | c :: cs, us => ∃ u us', us = u :: us' ∧ Rd w D (encInts c) u ∧ AllC w D cs us'
theorem AllC.len {w : World} {D : Nat → Prop} {cs : List (List Int)} {us : List Value} (h : AllC w D cs us) : us.length = cs.length := by
  induction cs generalizing us with
  | nil => have : us = [] := h; simp [this]
  | cons c cs ih => obtain ⟨u, us', rfl, _, h2⟩ := h; simp [ih h2]
theorem AllC.at {w : World} {D : Nat → Prop} {cs : List (List Int)} {us : List Value} (h : AllC w D cs us) (i : Nat) (hi : i < cs.length) : ∃ u, us[i]? = some u ∧ Rd w D (encInts (cAt cs i)) u := by
  induction cs generalizing us i with
  | nil => simp at hi
  | cons c cs ih =>
    obtain ⟨u, us', rfl, h1, h2⟩ := h
    rcases i with _ | i
    · exact ⟨u, rfl, h1⟩
    · obtain ⟨u', e, h3⟩ := ih h2 i (by simpa using hi)
      exact ⟨u', by simpa using e, h3⟩
theorem lit_consD (w : World) (D : Nat → Prop) (T : TypeId) (xs : List (List Int)) (us : List Value) (n : Nat) (hB : D w.heap.size) (h : AllC w D xs us) (hn : n = xs.length) (hm : n ≤ 1000) :
    Rd (w.alloc (.cells us.toArray T)) D (encCons xs) (.slice (some ⟨w.heap.size, 0, none⟩) n n) := by
  subst hn
  refine Rd.litD w D T 1 _ (xs.map rowC) _ hB (by simp) (by omega) (by omega) (by simp [h.len]) (fun i hi => by rw [cons_row xs i (by simpa using hi)]; rfl) (fun i j hi hj => ?_)
  obtain rfl : j = 0 := by omega
  have hi' : i < xs.length := by simpa using hi
  obtain ⟨u, hu, hr⟩ := h.at i hi'
  refine ⟨u, by simpa using hu, ?_⟩
  rw [rAt, cons_row xs i hi']
  exact hr

theorem lit_cons (w : World) (B : Nat) (T : TypeId) (xs : List (List Int)) (us : List Value) (n : Nat) (hB : B ≤ w.heap.size) (h : AllC w (fun k => B ≤ k) xs us) (hn : n = xs.length) (hm : n ≤ 1000) :
    Rd (w.alloc (.cells us.toArray T)) (fun k => B ≤ k) (encCons xs) (.slice (some ⟨w.heap.size, 0, none⟩) n n) := lit_consD w _ T xs us n hB h hn hm

/-- The cells us, three each, read as declarations. -/
def AllD (w : World) (D : Nat → Prop) : List DeclL → List Value → Prop
  | [], us => us = []
  | d :: ds, us => ∃ u us', us = .int .i64 d.from_ :: .int .i64 d.to_ :: u :: us' ∧ Rd w D (encCons d.cons) u ∧ AllD w D ds us'
theorem AllD.len {w : World} {D : Nat → Prop} {cs : List DeclL} {us : List Value} (h : AllD w D cs us) : us.length = cs.length * 3 := by
  induction cs generalizing us with
  | nil => have : us = [] := h; simp [this]
  | cons c cs ih => obtain ⟨u, us', rfl, _, h2⟩ := h; simp [ih h2, Nat.add_mul]
theorem AllD.at {w : World} {D : Nat → Prop} {cs : List DeclL} {us : List Value} (h : AllD w D cs us) (i : Nat) (hi : i < cs.length) : us[i * 3]? = some (.int .i64 (dAt cs i).from_) ∧ us[i * 3 + 1]? = some (.int .i64 (dAt cs i).to_) ∧ ∃ u, us[i * 3 + 2]? = some u ∧ Rd w D (encCons (dAt cs i).cons) u := by
  induction cs generalizing us i with
  | nil => simp at hi
  | cons c cs ih =>
    obtain ⟨u, us', rfl, h1, h2⟩ := h
    rcases i with _ | i
    · exact ⟨rfl, rfl, u, rfl, h1⟩
    · obtain ⟨e0, e1, u', e, h3⟩ := ih h2 i (by simpa using hi)
      have q : (i + 1) * 3 = i * 3 + 3 := by omega
      have qd : dAt (c :: cs) (i + 1) = dAt cs i := by simp [dAt, List.getD]
      rw [qd]
      refine ⟨?_, ?_, u', ?_, h3⟩
      · rw [q]; simpa using e0
      · rw [q, show i * 3 + 3 + 1 = i * 3 + 1 + 3 by omega]; simpa using e1
      · rw [q, show i * 3 + 3 + 2 = i * 3 + 2 + 3 by omega]; simpa using e
theorem AllD.rd {w : World} {D : Nat → Prop} {cs : List DeclL} {us : List Value} (h : AllD w D cs us) : ∀ i j, i < (cs.map rowD).length → j < 3 → ∃ u, us.toArray[i * 3 + j]? = some u ∧ Rd w D (rAt (cs.map rowD) i j) u := by
  intro i j hi hj
  have hi' : i < cs.length := by simpa using hi
  obtain ⟨e0, e1, u, e2, hr⟩ := h.at i hi'
  rw [rAt, decls_row cs i hi']
  rcases j with _ | _ | _ | j
  · exact ⟨_, by simpa using e0, .num _⟩
  · exact ⟨_, by simpa using e1, .num _⟩
  · exact ⟨u, by simpa using e2, hr⟩
  · omega
theorem Rd.k {w w' : World} {D : Nat → Prop} {d : Dat} {v : Value} (h : Rd w D d v) (hx : Keep w w') : Rd w' D d v := h.ext hx (fun _ _ h => h)
theorem boxk {w w2 : World} {cs : Array Value} {T : TypeId} (h : Keep (w.alloc (.cells cs T)) w2) (i : Nat) : w2.cell? ⟨w.heap.size, i, none⟩ = cs[i]? := by
  rw [h.cell (by simp) (fun h => h), cell_of_row _ w.heap.size i cs T (0, 0) (heap_alloc_new w _)]
theorem Keep.at {w w' : World} (k : Keep w.drew w') {p : Addr} {v : Value} (h : w.cell? p = some v) : w'.cell? p = some v := by
  have hb : p.block < w.drew.heap.size := World.block_lt_of_cell? _ _ h
  rw [k.cell hb (fun h => h)]; exact h
theorem Keep.al (w : World) (o : Obj) : Keep w (w.alloc o) := (Ext.refl _ w).alloc o
end Go.Proofs.YtkapldpmjkdmcaaGreat
/- Types, in plain Lean: what valid declarations are, and lemmas on lists. No program. -/
namespace Go.Proofs.YtkapldpmjkdmcaaGreat

theorem iAt_eq {xs : List Int} {i : Nat} (h : i < xs.length) : iAt xs i = xs[i] := by simp [iAt, List.getElem?_eq_getElem h]
theorem cAt_eq {xs : List (List Int)} {i : Nat} (h : i < xs.length) : cAt xs i = xs[i] := by simp [cAt, List.getElem?_eq_getElem h]
theorem iAll {xs : List Int} {p : Int → Bool} : xs.all p = true ↔ ∀ i, i < xs.length → p (iAt xs i) = true := by
  rw [List.all_eq_true]
  constructor
  · intro h i hi; rw [iAt_eq hi]; exact h _ (List.getElem_mem _)
  · intro h x hx
    obtain ⟨i, hi, rfl⟩ := List.getElem_of_mem hx
    rw [← iAt_eq hi]; exact h i hi
theorem cAll {xs : List (List Int)} {p : List Int → Bool} : xs.all p = true ↔ ∀ i, i < xs.length → p (cAt xs i) = true := by
  rw [List.all_eq_true]
  constructor
  · intro h i hi; rw [cAt_eq hi]; exact h _ (List.getElem_mem _)
  · intro h x hx
    obtain ⟨i, hi, rfl⟩ := List.getElem_of_mem hx
    rw [← cAt_eq hi]; exact h i hi
theorem nAll {n : Nat} {p : Nat → Bool} : (List.range n).all p = true ↔ ∀ i, i < n → p i = true := by
  simp [List.all_eq_true]
theorem iAll_false {xs : List Int} {p : Int → Bool} {i : Nat} (hi : i < xs.length) (h : p (iAt xs i) = false) : xs.all p = false := by
  cases hx : xs.all p
  · rfl
  · rw [iAll] at hx; rw [hx i hi] at h; cases h
theorem cAll_false {xs : List (List Int)} {p : List Int → Bool} {i : Nat} (hi : i < xs.length) (h : p (cAt xs i) = false) : xs.all p = false := by
  cases hx : xs.all p
  · rfl
  · rw [cAll] at hx; rw [hx i hi] at h; cases h
theorem nAll_false {n : Nat} {p : Nat → Bool} {i : Nat} (hi : i < n) (h : p i = false) : (List.range n).all p = false := by
  cases hx : (List.range n).all p
  · rfl
  · rw [nAll] at hx; rw [hx i hi] at h; cases h

def isT (n : Nat) (t : Int) : Bool := decide (0 ≤ t ∧ t ≤ (n : Int))
def allT (n : Nat) (xs : List Int) : Bool := xs.all (isT n)
/-- The fields of a constructor are right. -/
def conOk (n : Nat) (c : List Int) : Bool := decide (c.length ≤ 3) && allT n c
def sameArrow (d e : DeclL) : Bool := decide (d.cons.length = 0) && decide (d.from_ = e.from_) && decide (d.to_ = e.to_)
def declOk (ds : List DeclL) (k : Nat) : Bool :=
  if 0 < (dAt ds k).cons.length then decide ((dAt ds k).cons.length ≤ 3 ∧ (dAt ds k).from_ = 0 ∧ (dAt ds k).to_ = 0) && (dAt ds k).cons.all (conOk ds.length)
  else isT ds.length (dAt ds k).from_ && isT ds.length (dAt ds k).to_ && (List.range k).all fun i => !sameArrow (dAt ds i) (dAt ds k)
def typesOk (ds : List DeclL) : Bool := decide (ds.length ≤ 4) && (List.range ds.length).all (declOk ds)
end Go.Proofs.YtkapldpmjkdmcaaGreat
/- Slices of the call's own: rows of cells that are known whole; integers, constructors and declarations in them; make. -/
namespace Go.Proofs.YtkapldpmjkdmcaaGreat
open Go.RowKit

section
variable {S D D' : Nat → Prop} {w w' : World} {b N : Nat} {T : TypeId} {f : Nat → Value}
theorem row_ext (h : w.rowIs b T N f) (hx : Ext S w w') (hs : ¬ S b) : w'.rowIs b T N f := h.of_block (hx.block b h.lt hs)
end

/-- make of n elements of s cells each: a new row of zero values; of the world behind it no more is said than what a walk wants. -/
theorem wpList_makeN {P : Program} (w : World) {ops : Array Oper} {rest : List Oper} {o : Oper} {a : Act} {Q : Exit → Act → World → Prop}
    (hg : o.guard = none) (l c : Operand) (t : TypeId) (hop : o.op = Op.makeSlice t l c)
    (e : TypeId) (z : Value) (zs : Array Value) (s bytes : Nat) (h1 : P.underlying t = some (.slice e)) (hinfo : (P.info? e).map (fun i => (i.zero, i.size, i.bytes)) = some (some z, s, bytes)) (hzs : z.cells = zs) (hsz : zs.size = s)
    (n : Nat) (hl : a.eval l = .int .i64 (n : Int)) (hc : a.eval c = .int .i64 (n : Int)) (b2 : bytes * n ≤ 281474976710656) (b3 : n ≤ 9223372036854775807)
    (hK : ∀ w', w'.rowIs w.heap.size e (n * s) (fun i => zs.getD (i % s) undef) → Keep w w' → w'.heap.size = w.heap.size + 1 → wpList P ops Q rest (a.put o.dst (.slice (some ⟨w.heap.size, 0, none⟩) n n)) w') :
    wpList P ops Q (o :: rest) a w := by
  refine wpList_plain hg fun K hK' => ?_
  obtain ⟨i, hi, hzz⟩ := Option.map_eq_some_iff.1 hinfo
  simp only [Prod.mk.injEq] at hzz
  obtain ⟨hz, hs, hb⟩ := hzz
  have hb' : (i.bytes : Int) * (n : Int) ≤ 281474976710656 := by
    have h : ((bytes * n : Nat) : Int) ≤ 281474976710656 := by omega
    rw [Int.natCast_mul] at h
    rw [hb]; exact h
  have hrun := run_make (P := P) w t e i z h1 hi hz .i64 .i64 n n (by omega) (Int.le_refl _) hb' (by omega)
  simp only [Int.toNat_natCast, hs, hzs] at hrun
  unfold Oper.wp
  simp [execOp, hop, hl, hc, hrun, Result.andThen]
  refine hK' _ _ (hK _ ?_ ((Ext.refl _ w).alloc _) (by simp))
  refine ⟨_, heap_alloc_new w _, size_madeCells _ _, fun j hj => ?_⟩
  have hs0 : 0 < s := by
    rcases Nat.eq_zero_or_pos s with h | h
    · rw [h] at hj; omega
    · exact h
  have hjs : j % s < zs.size := by rw [hsz]; exact Nat.mod_lt _ hs0
  have e1 : zs[j % s]! = zs.getD (j % s) undef := by
    rw [getElem!_pos zs (j % s) hjs]
    simp [Array.getD, hjs]
  simp only [madeCells, hsz]
  rw [Array.getElem?_map, Array.getElem?_range]
  simp only [hj, if_true, Option.map_some]
  rw [e1]

/-- A slice of integers of the call's own, in a block of D. -/
def OwnInts (w : World) (D : Nat → Prop) (a : Option Addr) (n : Nat) (xs : List Int) : Prop :=
  xs.length = n ∧ (0 < n → ∃ b N f, a = some ⟨b, 0, none⟩ ∧ D b ∧ n ≤ N ∧ w.rowIs b 3 N f ∧ ∀ i, i < n → f i = .int .i64 (iAt xs i))
def OwnCons (w : World) (D : Nat → Prop) (a : Option Addr) (n : Nat) (cs : List (List Int)) : Prop :=
  cs.length = n ∧ (0 < n → ∃ b N f, a = some ⟨b, 0, none⟩ ∧ D b ∧ n ≤ N ∧ w.rowIs b 155 N f ∧ ∀ i, i < n → ∃ a' m c, f i = .slice a' m c ∧ m ≤ c ∧ OwnInts w D a' m (cAt cs i))
def OwnDecls (w : World) (D : Nat → Prop) (a : Option Addr) (n : Nat) (ds : List DeclL) : Prop :=
  ds.length = n ∧ (0 < n → ∃ b N f, a = some ⟨b, 0, none⟩ ∧ D b ∧ n * 3 ≤ N ∧ w.rowIs b 125 N f ∧ ∀ i, i < n → f (i * 3) = .int .i64 (dAt ds i).from_ ∧ f (i * 3 + 1) = .int .i64 (dAt ds i).to_ ∧
    ∃ a' m c, f (i * 3 + 2) = .slice a' m c ∧ m ≤ c ∧ OwnCons w D a' m (dAt ds i).cons)

section
variable {S D D' : Nat → Prop} {w w' : World} {a : Option Addr} {n : Nat}
theorem OwnInts.ext {xs : List Int} (h : OwnInts w D a n xs) (hx : Ext S w w') (hs : ∀ k, D k → ¬ S k) : OwnInts w' D a n xs := by
  refine ⟨h.1, fun hn => ?_⟩
  obtain ⟨b, N, f, rfl, hd, hN, hr, hc⟩ := h.2 hn
  exact ⟨b, N, f, rfl, hd, hN, row_ext hr hx (hs _ hd), hc⟩
theorem OwnInts.mono {xs : List Int} (h : OwnInts w D a n xs) (hs : ∀ k, D k → D' k) : OwnInts w D' a n xs := by
  refine ⟨h.1, fun hn => ?_⟩
  obtain ⟨b, N, f, rfl, hd, hN, hr, hc⟩ := h.2 hn
  exact ⟨b, N, f, rfl, hs _ hd, hN, hr, hc⟩
theorem OwnInts.read {xs : List Int} (h : OwnInts w D a n xs) : IntsL w D a n xs := by
  refine ⟨h.1, fun hn => ?_⟩
  obtain ⟨b, N, f, rfl, hd, hN, hr, hc⟩ := h.2 hn
  exact ⟨b, 0, rfl, hd, fun i hi => by rw [Nat.zero_add, hr.cell (by omega), hc i hi]⟩
theorem OwnCons.ext {cs : List (List Int)} (h : OwnCons w D a n cs) (hx : Ext S w w') (hs : ∀ k, D k → ¬ S k) : OwnCons w' D a n cs := by
  refine ⟨h.1, fun hn => ?_⟩
  obtain ⟨b, N, f, rfl, hd, hN, hr, hc⟩ := h.2 hn
  refine ⟨b, N, f, rfl, hd, hN, row_ext hr hx (hs _ hd), fun i hi => ?_⟩
  obtain ⟨a', m, c, h1, h2, h3⟩ := hc i hi
  exact ⟨a', m, c, h1, h2, h3.ext hx hs⟩
theorem OwnCons.mono {cs : List (List Int)} (h : OwnCons w D a n cs) (hs : ∀ k, D k → D' k) : OwnCons w D' a n cs := by
  refine ⟨h.1, fun hn => ?_⟩
  obtain ⟨b, N, f, rfl, hd, hN, hr, hc⟩ := h.2 hn
  refine ⟨b, N, f, rfl, hs _ hd, hN, hr, fun i hi => ?_⟩
  obtain ⟨a', m, c, h1, h2, h3⟩ := hc i hi
  exact ⟨a', m, c, h1, h2, h3.mono hs⟩
theorem OwnCons.read {cs : List (List Int)} (h : OwnCons w D a n cs) : ConsR w D a n cs := by
  refine ⟨h.1, fun hn => ?_⟩
  obtain ⟨b, N, f, rfl, hd, hN, hr, hc⟩ := h.2 hn
  refine ⟨b, 0, rfl, hd, fun i hi => ?_⟩
  obtain ⟨a', m, c, h1, h2, h3⟩ := hc i hi
  exact ⟨a', m, c, by rw [Nat.zero_add, hr.cell (by omega), h1], h2, h3.read⟩
theorem OwnDecls.ext {ds : List DeclL} (h : OwnDecls w D a n ds) (hx : Ext S w w') (hs : ∀ k, D k → ¬ S k) : OwnDecls w' D a n ds := by
  refine ⟨h.1, fun hn => ?_⟩
  obtain ⟨b, N, f, rfl, hd, hN, hr, hc⟩ := h.2 hn
  refine ⟨b, N, f, rfl, hd, hN, row_ext hr hx (hs _ hd), fun i hi => ?_⟩
  obtain ⟨h0, h1, a', m, c, h2, h3, h4⟩ := hc i hi
  exact ⟨h0, h1, a', m, c, h2, h3, h4.ext hx hs⟩
theorem OwnDecls.mono {ds : List DeclL} (h : OwnDecls w D a n ds) (hs : ∀ k, D k → D' k) : OwnDecls w D' a n ds := by
  refine ⟨h.1, fun hn => ?_⟩
  obtain ⟨b, N, f, rfl, hd, hN, hr, hc⟩ := h.2 hn
  refine ⟨b, N, f, rfl, hs _ hd, hN, hr, fun i hi => ?_⟩
  obtain ⟨h0, h1, a', m, c, h2, h3, h4⟩ := hc i hi
  exact ⟨h0, h1, a', m, c, h2, h3, h4.mono hs⟩
theorem OwnDecls.read {ds : List DeclL} (h : OwnDecls w D a n ds) : DeclsR w D a n ds := by
  refine ⟨h.1, fun hn => ?_⟩
  obtain ⟨b, N, f, rfl, hd, hN, hr, hc⟩ := h.2 hn
  refine ⟨b, 0, rfl, hd, fun i hi => ?_⟩
  obtain ⟨h0, h1, a', m, c, h2, h3, h4⟩ := hc i hi
  exact ⟨by rw [Nat.zero_add, hr.cell (by omega), h0], by rw [Nat.zero_add, hr.cell (by omega), h1], a', m, c, by rw [Nat.zero_add, hr.cell (by omega), h2], h3, h4.read⟩
end
end Go.Proofs.YtkapldpmjkdmcaaGreat
/- append onto a row of the call's own: elements that can be read; integers. -/
namespace Go.Proofs.YtkapldpmjkdmcaaGreat
open Go.RowKit

/-- A slice of m elements of s cells each that holds the cells xs. -/
def HoldsC (w : World) (s : Nat) (A : Option Addr) (m : Nat) (xs : List Value) : Prop :=
  xs.length = m * s ∧ (0 < m → ∃ b o, A = some ⟨b, o, none⟩ ∧ ∀ j u, xs[j]? = some u → w.cell? ⟨b, o + j, none⟩ = some u)

section
variable {P : Program} (w : World)

theorem run_append_nil0 (base : Nat) (t ty e : TypeId) (i : TypeInfo) (size : Nat) (ht : P.underlying t = some (.slice e)) (hi : P.info? e = some i)
    (v : Value) (n : Nat) (xs : List Value) (hown : w.ownsRow base e size v n xs) (c : Nat) : (Builtin.append_ #[t, t] ty #[v, .slice none 0 c]).run P w = .ok v w := by
  rcases hown.2 with ⟨rfl, rfl⟩ | ⟨g, cap, cur, rfl, _, _, hnc, _⟩
  · simp [Builtin.append_, run_underlying ht, sizeOf, typeInfo, hi, Builtin.lenOf, Builtin.firstCells]
  · simp [Builtin.append_, run_underlying ht, sizeOf, typeInfo, hi, Builtin.lenOf, Builtin.firstCells, hnc, storeCells]

theorem run_append_c (base : Nat) (t ty e : TypeId) (i : TypeInfo) (z : Value) (size bytes : Nat) (ht : P.underlying t = some (.slice e)) (hi : P.info? e = some i) (hz : i.zero = some z)
    (hsize : i.size = size) (hby : i.bytes = bytes) (hzs : z.cells.size = size) (hsz : 0 < size)
    (v : Value) (n : Nat) (xs : List Value) (hown : w.ownsRow base e size v n xs)
    (A : Option Addr) (m c : Nat) (news : List Value) (hr : HoldsC w size A m news) (h1 : ∀ u ∈ news, u.oneCell' = true)
    (h63 : n + m ≤ maxLen) (hbytes : (n + m) * bytes ≤ 140737488355328) (hbase : base ≤ w.heap.size) :
    ∃ v' w', (Builtin.append_ #[t, t] ty #[v, .slice A m c]).run P w = .ok v' w' ∧ w'.ownsRow base e size v' (n + m) (xs ++ news) ∧ w.grownBy w' v.ownBlock ∧
      (v'.ownBlock = v.ownBlock ∨ v'.ownBlock = some w.heap.size) := by
  rcases A with _ | ad
  · have hm : m = 0 := by
      rcases Nat.eq_zero_or_pos m with h0 | h0
      · exact h0
      · obtain ⟨b, o, h, _⟩ := hr.2 h0
        cases h
    subst hm
    have hn : news = [] := List.eq_nil_of_length_eq_zero (by simpa using hr.1)
    subst hn
    exact ⟨v, w, run_append_nil0 w base t ty e i size ht hi v n xs hown c, by simpa using hown, World.grownBy.refl w _, .inl rfl⟩
  · have hcells : ∀ j u, news[j]? = some u → w.cell? (ad.add j) = some u := by
      intro j u hu
      rcases Nat.eq_zero_or_pos m with h0 | h0
      · subst h0
        have hn : news = [] := List.eq_nil_of_length_eq_zero (by simpa using hr.1)
        subst hn
        simp at hu
      · obtain ⟨b, o, h, hc⟩ := hr.2 h0
        injection h with h
        subst h
        rw [Addr.add_lit]
        exact hc j u hu
    obtain ⟨v', w', hrun, h2, h3, _, h5⟩ := run_append_own_at (P := P) w base t ty e i z size bytes ht hi hz hsize hby hzs hsz v n xs hown ad m c news hr.1 hcells h1 h63 hbytes hbase
    exact ⟨v', w', hrun, h2, h3, h5⟩

theorem wpList_app {ops : Array Oper} {rest : List Oper} {o : Oper} {a : Act} {Q : Exit → Act → World → Prop} (hgd : o.guard = none) (s x : Operand) (t : TypeId)
    (ho : o.op = .call { callee := .builtin .append, args := #[s, x], argTypes := #[t, t] })
    (base : Nat) (e : TypeId) (z : Value) (size bytes : Nat) (ht : P.underlying t = some (.slice e)) (hinfo : (P.info? e).map (fun i => (i.zero, i.size, i.bytes)) = some (some z, size, bytes))
    (hzs : z.cells.size = size) (hsz : 0 < size)
    (v : Value) (n : Nat) (xs : List Value) (hs : a.eval s = v) (hown : w.ownsRow base e size v n xs)
    (A : Option Addr) (m c : Nat) (news : List Value) (hx : a.eval x = .slice A m c) (hr : HoldsC w size A m news) (h1 : ∀ u ∈ news, u.oneCell' = true)
    (hbytes : (n + m) * bytes ≤ 140737488355328) (h63 : n + m ≤ 9223372036854775807) (hbase : base ≤ w.heap.size)
    (h : ∀ v' w', w'.ownsRow base e size v' (n + m) (xs ++ news) → w.grownBy w' v.ownBlock → (v'.ownBlock = v.ownBlock ∨ v'.ownBlock = some w.heap.size) → wpList P ops Q rest (a.put o.dst v') w') : wpList P ops Q (o :: rest) a w := by
  obtain ⟨i, hi, hzz⟩ := Option.map_eq_some_iff.1 hinfo
  simp only [Prod.mk.injEq] at hzz
  obtain ⟨hz, hsize, hby⟩ := hzz
  refine wpList_plain hgd fun K hK => ?_
  obtain ⟨v', w', hrun, h2, h3, h4⟩ := run_append_c (P := P) w base t o.type e i z size bytes ht hi hz hsize hby hzs hsz v n xs hown A m c news hr h1 (by simp only [maxLen]; omega) hbytes hbase
  unfold Oper.wp execOp
  simp only [ho, resolve, invoke, builtin, Sem.run_bind, Sem.run_pure, Result.andThen_ok, List.map_toArray, List.map_cons, List.map_nil, hs, hx, hrun]
  exact hK _ _ (h v' w' h2 h3 h4)
end

/-- An integer behind a row of integers of the call's own. -/
theorem wpList_appInt (w : World) {ops : Array Oper} {rest : List Oper} {o : Oper} {a : Act} {Q : Exit → Act → World → Prop} (hgd : o.guard = none) (s x : Operand)
    (ho : o.op = .call { callee := .builtin .append, args := #[s, x], argTypes := #[52, 52] })
    (base : Nat) (v : Value) (n : Nat) (xs : List Int) (hs : a.eval s = v) (hown : w.ownsRow base 3 1 v n (xs.map (Value.int .i64)))
    (g c : Nat) (y : Int) (hx : a.eval x = .slice (some ⟨g, 0, none⟩) 1 c) (hc : w.cell? ⟨g, 0, none⟩ = some (.int .i64 y)) (hn : n ≤ 1099511627776) (hbase : base ≤ w.heap.size)
    (h : ∀ v' w', w'.ownsRow base 3 1 v' (n + 1) ((xs ++ [y]).map (Value.int .i64)) → w.grownBy w' v.ownBlock → wpList Tryz.prog ops Q rest (a.put o.dst v') w') : wpList Tryz.prog ops Q (o :: rest) a w := by
  refine wpList_app w hgd s x 52 ho base 3 (.int .i64 0) 1 8 Tryz.underlying52 (by kernel_rfl) rfl (by omega) v n _ hs hown (some ⟨g, 0, none⟩) 1 c [.int .i64 y] hx ⟨rfl, fun _ => ⟨g, 0, rfl, fun j u hj => ?_⟩⟩ (by simp [Value.oneCell']) (by omega) (by omega) hbase
    (fun v' w' h1 h2 _ => h v' w' (by simpa using h1) h2)
  rcases j with _ | j
  · simp at hj; subst hj; simpa using hc
  · simp at hj

/-- Integers that can be read behind a row of integers of the call's own. -/
theorem wpList_appInts (w : World) {ops : Array Oper} {rest : List Oper} {o : Oper} {a : Act} {Q : Exit → Act → World → Prop} (hgd : o.guard = none) (s x : Operand)
    (ho : o.op = .call { callee := .builtin .append, args := #[s, x], argTypes := #[52, 52] })
    (base : Nat) (v : Value) (n : Nat) (xs : List Int) (hs : a.eval s = v) (hown : w.ownsRow base 3 1 v n (xs.map (Value.int .i64)))
    (A : Option Addr) (m c : Nat) (ys : List Int) (D : Nat → Prop) (hx : a.eval x = .slice A m c) (hr : IntsL w D A m ys) (hn : n + m ≤ 1099511627776) (hbase : base ≤ w.heap.size)
    (h : ∀ v' w', w'.ownsRow base 3 1 v' (n + m) ((xs ++ ys).map (Value.int .i64)) → w.grownBy w' v.ownBlock → wpList Tryz.prog ops Q rest (a.put o.dst v') w') : wpList Tryz.prog ops Q (o :: rest) a w := by
  refine wpList_app w hgd s x 52 ho base 3 (.int .i64 0) 1 8 Tryz.underlying52 (by kernel_rfl) rfl (by omega) v n _ hs hown A m c (ys.map (Value.int .i64)) hx ⟨by simp [hr.1], fun hm => ?_⟩ (by simp [Value.oneCell']) (by omega) (by omega) hbase
    (fun v' w' h1 h2 _ => h v' w' (by simpa using h1) h2)
  obtain ⟨b, o, rfl, _, hc⟩ := hr.2 hm
  refine ⟨b, o, rfl, fun j u hj => ?_⟩
  have hjl : j < ys.length := by
    rcases Nat.lt_or_ge j ys.length with h | h
    · exact h
    · rw [List.getElem?_eq_none (by simpa using h)] at hj; cases hj
  rw [hc j (by have := hr.1; omega), iAt_eq hjl]
  simpa [List.getElem?_eq_getElem hjl] using hj

/-- A row of integers of the call's own, as the other words have it. -/
theorem own_of_row {w : World} {base : Nat} {v : Value} {n : Nat} {xs : List Int} (h : w.ownsRow base 3 1 v n (xs.map (Value.int .i64))) :
    ∃ a c, v = .slice a n c ∧ n ≤ c ∧ OwnInts w (fun k => base ≤ k) a n xs := by
  have hl : xs.length = n := by simpa using h.1
  rcases h.2 with ⟨rfl, rfl⟩ | ⟨g, cap, cur, rfl, hb, hg, hnc, _, hsz, htake⟩
  · exact ⟨none, 0, rfl, Nat.le_refl _, hl, fun h => absurd h (by omega)⟩
  · refine ⟨_, cap, rfl, hnc, hl, fun hn => ⟨g, cap, fun i => cur.getD i undef, rfl, hb, hnc, ⟨cur, hg, by omega, fun i hi => ?_⟩, fun i hi => ?_⟩⟩
    · simp [Array.getD, show i < cur.size by omega]
    · have h1 : (cur.toList.take (n * 1))[i]? = (xs.map (Value.int .i64))[i]? := by rw [htake]
      rw [List.getElem?_take, if_pos (by omega), List.getElem?_map, List.getElem?_eq_getElem (show i < xs.length by omega)] at h1
      rw [iAt_eq (by omega)]
      have h2 : i < cur.size := by omega
      rw [Array.getElem?_toList, Array.getElem?_eq_getElem h2] at h1
      simp [Array.getD, h2]
      simpa using h1
theorem ownEmpty (w : World) : (w.alloc (.cells #[] 3)).ownsRow w.heap.size 3 1 (.slice (some ⟨w.heap.size, 0, none⟩) 0 0) 0 (([] : List Int).map (Value.int .i64)) :=
  World.ownsRow_made w #[] 0 (Nat.le_refl _) (by simp [maxLen]) rfl
end Go.Proofs.YtkapldpmjkdmcaaGreat
/- append onto rows whose elements need only be readable. -/
namespace Go.Proofs.YtkapldpmjkdmcaaGreat
open Go.RowKit

theorem Rd.one {w : World} {D : Nat → Prop} {d : Dat} {v : Value} (h : Rd w D d v) : v.oneCell' = true := by cases h <;> rfl

/-- The cells of a slice that can be read. -/
theorem Rd.holds {w : World} {D : Nat → Prop} {s : Nat} {rs : List (List Dat)} {A : Option Addr} {m c : Nat} (h : Rd w D (.arr s rs) (.slice A m c)) (hs0 : 0 < s) :
    ∃ news, HoldsC w s A m news ∧ (∀ u ∈ news, u.oneCell' = true) ∧ (∀ i, i < rs.length → (rGet rs i).length = s) ∧ ∀ i j, i < rs.length → j < s → ∃ u, news[i * s + j]? = some u ∧ Rd w D (rAt rs i j) u := by
  cases h with
  | nil => exact ⟨[], ⟨by simp, fun h => absurd h (by omega)⟩, by simp, by simp, by simp⟩
  | arr s rows b o c vs hD h0 hs0' hc hm hs hcell hr =>
    have hget : ∀ k, k < rs.length * s → ((List.range (rs.length * s)).map fun k => vs (k / s) (k % s))[k]? = some (vs (k / s) (k % s)) := by
      intro k hk
      rw [List.getElem?_map, List.getElem?_range hk]; rfl
    have hq : ∀ k, k < rs.length * s → k / s < rs.length ∧ k % s < s ∧ k / s * s + k % s = k := by
      intro k hk
      refine ⟨(Nat.div_lt_iff_lt_mul hs0).2 hk, Nat.mod_lt _ hs0, ?_⟩
      rw [Nat.mul_comm]; exact Nat.div_add_mod k s
    refine ⟨(List.range (rs.length * s)).map fun k => vs (k / s) (k % s), ⟨by simp, fun _ => ⟨b, o, rfl, fun k u hk => ?_⟩⟩, ?_, hs, fun i j hi hj => ?_⟩
    · have hlt : k < rs.length * s := by
        rcases Nat.lt_or_ge k (rs.length * s) with h | h
        · exact h
        · rw [List.getElem?_eq_none (by simpa using h)] at hk; cases hk
      rw [hget k hlt] at hk
      injection hk with hk
      subst hk
      obtain ⟨q1, q2, q3⟩ := hq k hlt
      have := hcell (k / s) (k % s) q1 q2
      rw [Nat.add_assoc, q3] at this
      exact this
    · intro u hu
      obtain ⟨k, hk, rfl⟩ := List.mem_map.1 hu
      obtain ⟨q1, q2, _⟩ := hq k (by simpa using hk)
      exact (hr _ _ q1 q2).one
    · have hlt := idx_lt hi hj
      have h1 : (i * s + j) / s = i := by rw [Nat.mul_comm, Nat.mul_add_div (by omega), Nat.div_eq_of_lt hj, Nat.add_zero]
      have h2 : (i * s + j) % s = j := by rw [Nat.mul_comm, Nat.mul_add_mod, Nat.mod_eq_of_lt hj]
      have := hget _ hlt
      rw [h1, h2] at this
      exact ⟨_, this, hr i j hi hj⟩

theorem AccR.bound {w : World} {base : Nat} {D : Nat → Prop} {T : TypeId} {s : Nat} {v : Value} {rows : List (List Dat)} (h : AccR w base D T s v rows) : ∀ k, v.ownBlock = some k → base ≤ k ∧ k < w.heap.size := by
  obtain ⟨xs, h1, _⟩ := h
  exact h1.lt

theorem wpList_appR {P : Program} (w : World) {ops : Array Oper} {rest : List Oper} {o : Oper} {a : Act} {Q : Exit → Act → World → Prop} (hgd : o.guard = none) (s x : Operand) (t : TypeId)
    (ho : o.op = .call { callee := .builtin .append, args := #[s, x], argTypes := #[t, t] })
    (base : Nat) (e : TypeId) (z : Value) (size bytes : Nat) (ht : P.underlying t = some (.slice e)) (hinfo : (P.info? e).map (fun i => (i.zero, i.size, i.bytes)) = some (some z, size, bytes))
    (hzs : z.cells.size = size) (hsz : 0 < size)
    (D : Nat → Prop) (v : Value) (rows : List (List Dat)) (hs : a.eval s = v) (hacc : AccR w base D e size v rows)
    (A : Option Addr) (m c : Nat) (rs : List (List Dat)) (D2 : Nat → Prop) (hx : a.eval x = .slice A m c) (hr : Rd w D2 (.arr size rs) (.slice A m c)) (hD2 : ∀ k, k < w.heap.size → D2 k → D k ∧ v.ownBlock ≠ some k)
    (hbytes : (rows.length + m) * bytes ≤ 140737488355328) (h63 : rows.length + m ≤ 9223372036854775807) (hbase : base ≤ w.heap.size)
    (h : ∀ v' w', AccR w' base D e size v' (rows ++ rs) → Ext (fun k => base ≤ k) w w' → w.heap.size ≤ w'.heap.size → wpList P ops Q rest (a.put o.dst v') w') : wpList P ops Q (o :: rest) a w := by
  have hr' := hr.lt
  obtain ⟨news, n1, n2, n3, n4⟩ := hr'.holds hsz
  have hm : m = rs.length := by obtain ⟨a', c', e, _⟩ := hr.arr_inv; injection e
  obtain ⟨xs, h1, _, _⟩ := id hacc
  refine wpList_app w hgd s x t ho base e z size bytes ht hinfo hzs hsz v rows.length xs hs h1 A m c news hx n1 n2 hbytes h63 hbase (fun v' w' q1 q2 q3 => ?_)
  refine h v' w' ?_ ⟨q2.os, q2.tape, q2.output, q2.size, fun k hk hn => q2.block k hk (fun e => hn (h1.lt k e.symm).1)⟩ q2.size
  refine hacc.push (rs := rs) (news := news) n3 (fun i j hi hj => ?_) (fun xs' hxs' => ?_) q2 q3
  · obtain ⟨u, hu, hu2⟩ := n4 i j hi hj
    exact ⟨u, hu, hu2.mono (fun k hk => hD2 k hk.2 hk.1)⟩
  · have : xs' = xs := by
      rcases hxs'.2 with ⟨e1, e2⟩ | ⟨g, cap, cur, e1, _, hg, _, _, _, htake⟩
      · have l1 := hxs'.1
        have l2 := h1.1
        rw [e2, Nat.zero_mul] at l1 l2
        rw [List.eq_nil_of_length_eq_zero l1, List.eq_nil_of_length_eq_zero l2]
      · rcases h1.2 with ⟨f1, f2⟩ | ⟨g', cap', cur', f1, _, hg', _, _, _, htake'⟩
        · have l1 := hxs'.1
          have l2 := h1.1
          rw [f2, Nat.zero_mul] at l1 l2
          rw [List.eq_nil_of_length_eq_zero l1, List.eq_nil_of_length_eq_zero l2]
        · rw [e1] at f1
          injection f1 with f1
          injection f1 with f1
          injection f1 with f1
          subst f1
          rw [hg] at hg'
          injection hg' with hg'
          injection hg' with hg'
          rw [← htake, ← htake', hg']
    subst this
    rw [← hm]; exact q1

end Go.Proofs.YtkapldpmjkdmcaaGreat
/- isType, inRange and allTypes, of the program and of the reference. -/
namespace Go.Proofs.YtkapldpmjkdmcaaGreat
open Go.RowKit

theorem specInRange (n lo hi : Int) (w : World) :
    Calls Tryz.prog 60 #[.int .i64 n, .int .i64 lo, .int .i64 hi] w fun e w' => e = .returned (.bool (decide (lo ≤ n ∧ n ≤ hi))) ∧ w = w' := by
  by_cases h1 : lo ≤ n
  all_goals by_cases h2 : n ≤ hi
  all_goals
    go_enter Tryz.func60, Tryz.ntmps60
    go_wp2
    all_goals (go_ret; exact ⟨by simp [*], rfl⟩)

theorem implIsType (a : Option Addr) (n c : Nat) (t : Int) (w : World) :
    Calls Tryz.prog 160 #[.slice a n c, .int .i64 t] w fun e w' => e = .returned (.bool (isT n t)) ∧ w = w' := by
  refine calls_k fun Q hQ => ?_
  by_cases h1 : 0 ≤ t
  all_goals by_cases h2 : t ≤ n
  all_goals
    go_enter Tryz.func160, Tryz.ntmps160
    go_wp2
    exact fin_ hQ ⟨by simp [isT, *], rfl⟩

/-- One contract for one outcome, so that a walk need not part. -/
theorem implIsType_yes (a : Option Addr) (n c : Nat) (t : Int) (w : World) (h : isT n t = true) :
    Calls Tryz.prog 160 #[.slice a n c, .int .i64 t] w fun e w' => e = .returned (.bool true) ∧ w = w' := by
  rw [← h]; exact implIsType a n c t w
theorem implIsType_no (a : Option Addr) (n c : Nat) (t : Int) (w : World) (h : isT n t = false) :
    Calls Tryz.prog 160 #[.slice a n c, .int .i64 t] w fun e w' => e = .returned (.bool false) ∧ w = w' := by
  rw [← h]; exact implIsType a n c t w

theorem implAllTypes (a : Option Addr) (n c : Nat) (a' : Option Addr) (m c' : Nat) (xs : List Int) (D : Nat → Prop) (w : World) (h : IntsL w D a' m xs) (hm : m ≤ 1099511627776) :
    Calls Tryz.prog 115 #[.slice a n c, .slice a' m c'] w fun e w' => e = .returned (.bool (allT n xs)) ∧ w = w' := by
  refine calls_k fun Q hQ => ?_
  go_enter Tryz.func115, Tryz.ntmps115
  go_wp2
  go_loop [9] (fun i => ∃ k : Nat, k ≤ m ∧ i = .int .i64 k ∧ Hid (∀ j, j < k → isT n (iAt xs j) = true)) (fun i => m - (intOf i).toNat)
  case atStart => exact ⟨0, Nat.zero_le _, rfl, fun j hj => absurd hj (by omega)⟩
  case round =>
    obtain ⟨k, hk, rfl, H⟩ := hrel
    obtain ⟨hlen, hcell⟩ := h
    by_cases hlt : k < m
    · obtain ⟨b, o, rfl, hd, hc⟩ := hcell (by omega)
      have h1 := hc k hlt
      clear hc hcell
      cases hv : isT n (iAt xs k)
      · have V := Lib.hid hv
        go_wp2_with (go_at_call 160; refine (implIsType_no _ _ _ _ _ V.out).mono ?_; rintro e w1 ⟨rfl, rfl⟩)
        exact fin_ hQ ⟨ret_b (iAll_false (by omega) V.out).symm, rfl⟩
      · have V := Lib.hid hv
        go_wp2_with (go_at_call 160; refine (implIsType_yes _ _ _ _ _ V.out).mono ?_; rintro e w1 ⟨rfl, rfl⟩)
        go_round
        case rel => exact ⟨k + 1, by omega, by go_num, fun j hj => by rcases Nat.lt_succ_iff_lt_or_eq.1 hj with h | rfl; exact H.out j h; exact V.out⟩
        case measure => simp [intOf]; omega
    · go_wp2
      exact fin_ hQ ⟨ret_b (iAll.2 (fun j hj => H.out j (by omega))).symm, rfl⟩

theorem specAllTypes (a : Option Addr) (n c : Nat) (a' : Option Addr) (m c' : Nat) (xs : List Int) (D : Nat → Prop) (w : World) (h : IntsL w D a' m xs) (hm : m ≤ 1099511627776) :
    Calls Tryz.prog 143 #[.slice a n c, .slice a' m c'] w fun e w' => e = .returned (.bool (allT n xs)) ∧ w = w' := by
  refine calls_k fun Q hQ => ?_
  go_enter Tryz.func143, Tryz.ntmps143
  go_wp2
  go_loop [5] (fun i => ∃ k : Nat, k ≤ m ∧ i = .int .i64 k ∧ Hid (∀ j, j < k → isT n (iAt xs j) = true)) (fun i => m - (intOf i).toNat)
  case atStart => exact ⟨0, Nat.zero_le _, rfl, fun j hj => absurd hj (by omega)⟩
  case round =>
    obtain ⟨k, hk, rfl, H⟩ := hrel
    obtain ⟨hlen, hcell⟩ := h
    by_cases hlt : k < m
    · obtain ⟨b, o, rfl, hd, hc⟩ := hcell (by omega)
      have h1 := hc k hlt
      clear hc hcell
      cases hv : isT n (iAt xs k)
      · have hv' : decide (0 ≤ iAt xs k ∧ iAt xs k ≤ (n : Int)) = false := hv
        have V := Lib.hid hv
        clear hv
        go_wp2_with (go_at_call 60; refine (specInRange _ _ _ _).mono ?_; rintro e w1 ⟨rfl, rfl⟩)
        exact fin_ hQ ⟨ret_b (iAll_false (by omega) V.out).symm, rfl⟩
      · have hv' : decide (0 ≤ iAt xs k ∧ iAt xs k ≤ (n : Int)) = true := hv
        have V := Lib.hid hv
        clear hv
        go_wp2_with (go_at_call 60; refine (specInRange _ _ _ _).mono ?_; rintro e w1 ⟨rfl, rfl⟩)
        go_round
        case rel => exact ⟨k + 1, by omega, by go_num, fun j hj => by rcases Nat.lt_succ_iff_lt_or_eq.1 hj with h | rfl; exact H.out j h; exact V.out⟩
        case measure => simp [intOf]; omega
    · go_wp2
      exact fin_ hQ ⟨ret_b (iAll.2 (fun j hj => H.out j (by omega))).symm, rfl⟩
end Go.Proofs.YtkapldpmjkdmcaaGreat
/- validDecl and validTypes of the reference. -/
namespace Go.Proofs.YtkapldpmjkdmcaaGreat
open Go.RowKit

theorem conOk_parts {n : Nat} {c : List Int} : conOk n c = true ↔ c.length ≤ 3 ∧ allT n c = true := by simp [conOk]

set_option maxHeartbeats 1000000 in
theorem specValidDecl (a : Option Addr) (n c : Nat) (ds : List DeclL) (D : Nat → Prop) (k : Nat) (w : World) (h : DeclsR w D a n ds) (hk : k < n) (hn : n ≤ 1099511627776) :
    Calls Tryz.prog 195 #[.slice a n c, .int .i64 k] w fun e w' => e = .returned (.bool (declOk ds k)) ∧ Keep w w' := by
  refine calls_k fun Q hQ => ?_
  obtain ⟨hlen, hcell⟩ := h
  obtain ⟨b, o, rfl, hd, hc⟩ := hcell (by omega)
  obtain ⟨c0, c1, a', m, c', c2, hmc, hcons⟩ := hc k hk
  have hml := hcons.1
  have hK : Keep w (w.alloc (.cells #[.int .i64 (dAt ds k).from_, .int .i64 (dAt ds k).to_, .slice a' m c'] 125)) := (Ext.refl _ w).alloc _
  by_cases hm : 0 < m
  · by_cases h1 : m ≤ 3
    · by_cases h2 : (dAt ds k).from_ = 0
      · by_cases h3 : (dAt ds k).to_ = 0
        · have hfin : Hid (declOk ds k = (dAt ds k).cons.all (conOk n)) := by
            show _ = _
            unfold declOk
            rw [if_pos (by omega), hlen]
            simp [h2, h3, hml, h1]
          have hcons1 := hcons.ext hK (fun _ _ h => h)
          rw [h2, h3] at hcons1 hK
          rw [h2] at c0
          rw [h3] at c1
          clear hc hcell hcons
          go_enter Tryz.func195, Tryz.ntmps195
          go_wp2
          go_loop [6] (fun i => ∃ j : Nat, j ≤ m ∧ i = .int .i64 j ∧ Hid (∀ l, l < j → conOk n (cAt (dAt ds k).cons l) = true)) (fun i => m - (intOf i).toNat)
          case atStart => exact ⟨0, Nat.zero_le _, rfl, fun j hj => absurd hj (by omega)⟩
          case round =>
            obtain ⟨j, hj, rfl, H⟩ := hrel
            obtain ⟨_, hcell⟩ := hcons1
            by_cases hlt : j < m
            · obtain ⟨b1, o1, rfl, hd1, hc1⟩ := hcell (by omega)
              obtain ⟨a2, m2, c2', x0, hmc2, hints⟩ := hc1 j hlt
              have hl2 := hints.1
              clear hc1 hcell
              by_cases g1 : m2 ≤ 3
              · cases hv : allT n (cAt (dAt ds k).cons j)
                · have V := Lib.hid hv
                  go_wp2_with (go_at_call 143; refine (specAllTypes _ _ _ _ _ _ _ _ _ hints (by omega)).mono ?_; rw [V.out]; rintro e w1 ⟨rfl, rfl⟩)
                  exact fin_ hQ ⟨ret_b (by rw [hfin.out, cAll_false (i := j) (by omega) (by simp [conOk, V.out])]), hK⟩
                · have V := Lib.hid hv
                  go_wp2_with (go_at_call 143; refine (specAllTypes _ _ _ _ _ _ _ _ _ hints (by omega)).mono ?_; rw [V.out]; rintro e w1 ⟨rfl, rfl⟩)
                  go_round
                  case rel => exact ⟨j + 1, by omega, by go_num, fun l hl => by
                    rcases Nat.lt_succ_iff_lt_or_eq.1 hl with h | rfl
                    · exact H.out l h
                    · exact conOk_parts.2 ⟨by omega, V.out⟩⟩
                  case measure => simp [intOf]; omega
              · go_wp2_with fail
                exact fin_ hQ ⟨ret_b (by rw [hfin.out, cAll_false (i := j) (by omega) (by simp [conOk]; omega)]), hK⟩
            · go_wp2
              exact fin_ hQ ⟨ret_b (by rw [hfin.out]; exact (cAll.2 (fun l hl => H.out l (by omega))).symm), hK⟩
        · have hfin : Hid (declOk ds k = false) := by
            show _ = _
            unfold declOk
            rw [if_pos (by omega)]
            simp [h3]
          have h3' : ((dAt ds k).to_ != 0) = true := by simp [h3]
          have h2' : ((dAt ds k).from_ != 0) = false := by simp [h2]
          clear hc hcell hcons h2 h3
          go_enter Tryz.func195, Tryz.ntmps195
          go_wp2
          exact fin_ hQ ⟨ret_b hfin.out.symm, hK⟩
      · have hfin : Hid (declOk ds k = false) := by
          show _ = _
          unfold declOk
          rw [if_pos (by omega)]
          simp [h2]
        have h2' : ((dAt ds k).from_ != 0) = true := by simp [h2]
        clear hc hcell hcons h2
        go_enter Tryz.func195, Tryz.ntmps195
        go_wp2
        exact fin_ hQ ⟨ret_b hfin.out.symm, hK⟩
    · have hfin : Hid (declOk ds k = false) := by
        show _ = _
        unfold declOk
        rw [if_pos (by omega)]
        simp
        omega
      clear hc hcell hcons
      go_enter Tryz.func195, Tryz.ntmps195
      go_wp2
      exact fin_ hQ ⟨ret_b hfin.out.symm, hK⟩
  · have hm0 : m = 0 := by omega
    subst hm0
    have hfin : Hid (declOk ds k = (isT n (dAt ds k).from_ && isT n (dAt ds k).to_ && (List.range k).all fun i => !sameArrow (dAt ds i) (dAt ds k))) := by
      show _ = _
      unfold declOk
      rw [if_neg (by omega), hlen]
    have hc1 : ∀ i, i < n → ∃ a2 m2 c2, (w.alloc (.cells #[.int .i64 (dAt ds k).from_, .int .i64 (dAt ds k).to_, .slice a' 0 c'] 125)).cell? ⟨b, o + i * 3, none⟩ = some (.int .i64 (dAt ds i).from_) ∧
        (w.alloc (.cells #[.int .i64 (dAt ds k).from_, .int .i64 (dAt ds k).to_, .slice a' 0 c'] 125)).cell? ⟨b, o + i * 3 + 1, none⟩ = some (.int .i64 (dAt ds i).to_) ∧
        (w.alloc (.cells #[.int .i64 (dAt ds k).from_, .int .i64 (dAt ds k).to_, .slice a' 0 c'] 125)).cell? ⟨b, o + i * 3 + 2, none⟩ = some (.slice a2 m2 c2) ∧ (dAt ds i).cons.length = m2 := by
      intro i hi
      obtain ⟨e0, e1, a2, m2, c2, e2, _, e3⟩ := hc i hi
      exact ⟨a2, m2, c2, (hK.cell (World.block_lt_of_cell? w _ e0) (fun h => h)).trans e0, (hK.cell (World.block_lt_of_cell? w _ e1) (fun h => h)).trans e1,
        (hK.cell (World.block_lt_of_cell? w _ e2) (fun h => h)).trans e2, e3.1⟩
    generalize hF : (dAt ds k).from_ = F at *
    generalize hT : (dAt ds k).to_ = T at *
    have HF := Lib.hid hF
    have HT := Lib.hid hT
    have HM := Lib.hid hml
    clear hc hcell hcons hF hT hml
    go_enter Tryz.func195, Tryz.ntmps195
    go_wp2
    go_loopw [7] (fun i wr => ∃ j q : Nat, j ≤ k ∧ i = .int .i64 j ∧ wr = (w.alloc (.cells #[.int .i64 F, .int .i64 T, .slice a' 0 c'] 125)).drewN q ∧ Hid (∀ l, l < j → sameArrow (dAt ds l) (dAt ds k) = false)) (fun i _ => k - (intOf i).toNat)
    case atStart => exact ⟨0, 0, Nat.zero_le _, rfl, rfl, fun j hj => absurd hj (by omega)⟩
    case round =>
      obtain ⟨j, q, hj, rfl, rfl, H⟩ := hrel
      by_cases hlt : j < k
      · obtain ⟨a2, m2, c2, e0, e1, e2, e3⟩ := hc1 j (by omega)
        have E3 := Lib.hid e3
        clear e3 hc1
        by_cases g0 : m2 = 0
        · subst g0
          cases g1 : ((dAt ds j).from_ == F)
          · have hs : Hid (sameArrow (dAt ds j) (dAt ds k) = false) := by
              show _ = _
              simp only [sameArrow, HF.out]
              simp only [beq_eq_false_iff_ne] at g1
              simp [g1]
            go_wp2
            go_quiet (fail)
            go_wp2
            go_roundw
            case rel => exact ⟨j + 1, q + nq, by omega, by go_num, by rfl, fun l hl => by
              rcases Nat.lt_succ_iff_lt_or_eq.1 hl with h | rfl
              · exact H.out l h
              · exact hs.out⟩
            case measure => simp [intOf]; omega
          · cases g2 : ((dAt ds j).to_ == T)
            · have hs : Hid (sameArrow (dAt ds j) (dAt ds k) = false) := by
                show _ = _
                simp only [sameArrow, HT.out]
                simp only [beq_eq_false_iff_ne] at g2
                simp [g2]
              go_wp2
              go_quiet (fail)
              go_wp2
              go_roundw
              case rel => exact ⟨j + 1, q + nq, by omega, by go_num, by rfl, fun l hl => by
                rcases Nat.lt_succ_iff_lt_or_eq.1 hl with h | rfl
                · exact H.out l h
                · exact hs.out⟩
              case measure => simp [intOf]; omega
            · have hs : Hid (sameArrow (dAt ds j) (dAt ds k) = true) := by
                show _ = _
                simp only [sameArrow, HF.out, HT.out]
                simp only [beq_iff_eq] at g1 g2
                simp [g1, g2]
                exact List.eq_nil_of_length_eq_zero E3.out
              go_wp2
              go_quiet (fail)
              go_wp2
              exact fin_ hQ ⟨ret_b (by rw [hfin.out, nAll_false hlt (by simp [hs.out])]; simp), (hK.drewN q).drewN nq⟩
        · have g0' : ((m2 : Int) == 0) = false := by simp; omega
          have hs : Hid (sameArrow (dAt ds j) (dAt ds k) = false) := by
            show _ = _
            simp only [sameArrow, E3.out]
            simp [g0]
          go_wp2
          go_quiet (fail)
          go_wp2
          go_roundw
          case rel => exact ⟨j + 1, q + nq, by omega, by go_num, by rfl, fun l hl => by
            rcases Nat.lt_succ_iff_lt_or_eq.1 hl with h | rfl
            · exact H.out l h
            · exact hs.out⟩
          case measure => simp [intOf]; omega
      · have hall : Hid ((List.range k).all (fun i => !sameArrow (dAt ds i) (dAt ds k)) = true) := by
          show _ = _
          exact nAll.2 (fun l hl => by simp [H.out l (by omega)])
        clear hc1
        cases v1 : isT n F
        · have d1 : decide (0 ≤ F ∧ F ≤ (n : Int)) = false := v1
          have V1 := Lib.hid v1
          clear v1
          go_wp2_with (go_at_call 60; refine (specInRange _ _ _ _).mono ?_; rintro e w1 ⟨rfl, rfl⟩)
          exact fin_ hQ ⟨ret_b (by rw [hfin.out, V1.out]; simp), hK.drewN q⟩
        · have d1 : decide (0 ≤ F ∧ F ≤ (n : Int)) = true := v1
          have V1 := Lib.hid v1
          clear v1
          go_wp2_with (go_at_call 60; refine (specInRange _ _ _ _).mono ?_; rintro e w1 ⟨rfl, rfl⟩)
          exact fin_ hQ ⟨ret_b (by rw [hfin.out, V1.out, hall.out]; simp [isT]), hK.drewN q⟩
end Go.Proofs.YtkapldpmjkdmcaaGreat
/- validTypes and ValidTypes of the reference. -/
namespace Go.Proofs.YtkapldpmjkdmcaaGreat
open Go.RowKit

set_option maxHeartbeats 1000000 in
theorem specValidTypes0 (a : Option Addr) (n c : Nat) (ds : List DeclL) (D : Nat → Prop) (w : World) (h : DeclsR w D a n ds) (hn : n ≤ 1099511627776) :
    Calls Tryz.prog 142 #[.slice a n c] w fun e w' => e = .returned (.bool (typesOk ds)) ∧ Keep w w' := by
  refine calls_k fun Q hQ => ?_
  have hlen := h.1
  by_cases h4 : n ≤ 4
  · have hfin : Hid (typesOk ds = (List.range n).all (declOk ds)) := by
      show _ = _
      simp [typesOk, hlen, h4]
    go_enter Tryz.func142, Tryz.ntmps142
    go_wp2
    go_loopw [3] (fun i wr => ∃ j : Nat, j ≤ n ∧ i = .int .i64 j ∧ Keep w wr ∧ Hid (∀ l, l < j → declOk ds l = true)) (fun i _ => n - (intOf i).toNat)
    case atStart => exact ⟨0, Nat.zero_le _, rfl, Ext.refl _ _, fun j hj => absurd hj (by omega)⟩
    case round =>
      obtain ⟨j, hj, rfl, hK, H⟩ := hrel
      by_cases hlt : j < n
      · have h1 := h.ext hK (fun _ _ h => h)
        cases hv : declOk ds j
        · have V := Lib.hid hv
          go_wp2_with (go_at_call 195; refine (specValidDecl _ _ _ _ _ _ _ h1 (by omega) (by omega)).mono ?_; rw [V.out]; rintro e w1 ⟨rfl, hk1⟩)
          exact fin_ hQ ⟨ret_b (by rw [hfin.out, nAll_false hlt V.out]), hK.trans hk1⟩
        · have V := Lib.hid hv
          go_wp2_with (go_at_call 195; refine (specValidDecl _ _ _ _ _ _ _ h1 (by omega) (by omega)).mono ?_; rw [V.out]; rintro e w1 ⟨rfl, hk1⟩)
          go_roundw
          case rel => exact ⟨j + 1, by omega, by go_num, hK.trans hk1, fun l hl => by
            rcases Nat.lt_succ_iff_lt_or_eq.1 hl with h | rfl
            · exact H.out l h
            · exact V.out⟩
          case measure => simp [intOf]; omega
      · go_wp2
        exact fin_ hQ ⟨ret_b (by rw [hfin.out]; exact (nAll.2 (fun l hl => H.out l (by omega))).symm), hK⟩
  · have hfin : Hid (typesOk ds = false) := by
      show _ = _
      simp [typesOk, hlen, h4]
    go_enter Tryz.func142, Tryz.ntmps142
    go_wp2
    exact fin_ hQ ⟨ret_b hfin.out.symm, Ext.refl _ _⟩

end Go.Proofs.YtkapldpmjkdmcaaGreat
/- ValidTypes of the program. -/
namespace Go.Proofs.YtkapldpmjkdmcaaGreat
open Go.RowKit

theorem conOk_iff {n : Nat} {c : List Int} : conOk n c = true ↔ c.length ≤ 3 ∧ allT n c = true := by simp [conOk]
theorem isT0 (n : Nat) : isT n 0 = true := by simp [isT]
theorem declBad1 {ds : List DeclL} {n k : Nat} (hn : ds.length = n) (h : isT n (dAt ds k).from_ = false) : declOk ds k = false := by
  unfold declOk
  split
  · have : (dAt ds k).from_ ≠ 0 := by intro e; rw [e, isT0] at h; cases h
    simp [this]
  · rw [hn, h]; simp
theorem declBad2 {ds : List DeclL} {n k : Nat} (hn : ds.length = n) (h : isT n (dAt ds k).to_ = false) : declOk ds k = false := by
  unfold declOk
  split
  · have : (dAt ds k).to_ ≠ 0 := by intro e; rw [e, isT0] at h; cases h
    simp [this]
  · rw [hn, h]; simp
theorem declBad3 {ds : List DeclL} {k : Nat} (h : 3 < (dAt ds k).cons.length) : declOk ds k = false := by
  unfold declOk
  rw [if_pos (by omega)]
  simp
  omega
theorem declBad4 {ds : List DeclL} {k : Nat} (h : 0 < (dAt ds k).cons.length) (h2 : (dAt ds k).from_ ≠ 0 ∨ (dAt ds k).to_ ≠ 0) : declOk ds k = false := by
  unfold declOk
  rw [if_pos h]
  rcases h2 with h2 | h2 <;> simp [h2]
theorem declBad5 {ds : List DeclL} {n k j : Nat} (hn : ds.length = n) (hj : j < (dAt ds k).cons.length) (h2 : conOk n (cAt (dAt ds k).cons j) = false) : declOk ds k = false := by
  unfold declOk
  rw [if_pos (by omega), hn, cAll_false hj h2]
  simp
theorem declBad6 {ds : List DeclL} {k j : Nat} (h : (dAt ds k).cons.length = 0) (hj : j < k) (h2 : sameArrow (dAt ds j) (dAt ds k) = true) : declOk ds k = false := by
  unfold declOk
  rw [if_neg (by omega), nAll_false hj (by simp [h2])]
  simp
theorem declGood1 {ds : List DeclL} {n k : Nat} (hn : ds.length = n) (h : 0 < (dAt ds k).cons.length) (h3 : (dAt ds k).cons.length ≤ 3) (h1 : (dAt ds k).from_ = 0) (h2 : (dAt ds k).to_ = 0)
    (hc : ∀ j, j < (dAt ds k).cons.length → conOk n (cAt (dAt ds k).cons j) = true) : declOk ds k = true := by
  unfold declOk
  rw [if_pos h, hn, cAll.2 hc]
  simp [h1, h2, h3]
theorem declGood2 {ds : List DeclL} {n k : Nat} (hn : ds.length = n) (h : (dAt ds k).cons.length = 0) (h1 : isT n (dAt ds k).from_ = true) (h2 : isT n (dAt ds k).to_ = true)
    (hc : ∀ j, j < k → sameArrow (dAt ds j) (dAt ds k) = false) : declOk ds k = true := by
  unfold declOk
  rw [if_neg (by omega), hn, h1, h2]
  simp only [Bool.true_and]
  exact nAll.2 fun j hj => by simp [hc j hj]

theorem box_keep {w w2 : World} {cs : Array Value} {T : TypeId} (h : Keep (w.alloc (.cells cs T)) w2) (i : Nat) : w2.cell? ⟨w.heap.size, i, none⟩ = cs[i]? := by
  rw [h.cell (p := ⟨w.heap.size, i, none⟩) (by simp) (fun h => h), cell_of_row _ w.heap.size i cs T (0, 0) (heap_alloc_new w _)]

set_option maxRecDepth 100000 in
set_option maxHeartbeats 2000000 in
theorem implValidTypes (a : Option Addr) (n c : Nat) (ds : List DeclL) (D : Nat → Prop) (w : World) (h : DeclsR w D a n ds) (hnc : n ≤ c) :
    Calls Tryz.prog 159 #[.slice a n c] w fun e w' => e = .returned (.bool (typesOk ds)) ∧ Keep w w' := by
  refine calls_k fun Q hQ => ?_
  have hlen := h.1
  by_cases h4 : n ≤ 4
  · have hfin : Hid (typesOk ds = (List.range n).all (declOk ds)) := by
      show _ = _
      simp [typesOk, hlen, h4]
    go_enter Tryz.func159, Tryz.ntmps159
    go_wp2
    go_loopw [14] (fun i wr => ∃ j : Nat, j ≤ n ∧ i = .int .i64 j ∧ Keep w wr ∧ Hid (∀ l, l < j → declOk ds l = true)) (fun i _ => n - (intOf i).toNat)
    case atStart => exact ⟨0, Nat.zero_le _, rfl, Ext.refl _ _, fun j hj => absurd hj (by omega)⟩
    case round =>
      obtain ⟨wo, rfl⟩ : ∃ wo : World, wo = wr := ⟨_, rfl⟩
      obtain ⟨k, hk, rfl, hK, H⟩ := hrel
      by_cases hlt : k < n
      · have h1 := h.ext hK (fun _ _ h => h)
        obtain ⟨_, hcell⟩ := h1
        obtain ⟨b, o, rfl, hd, hc⟩ := hcell (by omega)
        obtain ⟨c0, c1, a', m, c', c2, hmc, hcons⟩ := hc k hlt
        have HL := Lib.hid hlen
        have HM := Lib.hid hcons.1
        generalize hF : (dAt ds k).from_ = F at *
        generalize hT : (dAt ds k).to_ = T at *
        have HF := Lib.hid hF
        have HT := Lib.hid hT
        clear hF hT hlen
        have hKa : Keep wo (wo.alloc (.cells #[.int .i64 F, .int .i64 T, .slice a' m c'] 125)) := (Ext.refl _ wo).alloc _
        cases v1 : isT n F
        · have V1 := Lib.hid v1
          clear hc hcell hcons
          go_wp2_with (go_at_call 160; refine (implIsType_no _ _ _ _ _ V1.out).mono ?_; rintro e w1 ⟨rfl, rfl⟩)
          exact fin_ hQ ⟨ret_b (by rw [hfin.out, nAll_false hlt (declBad1 HL.out (by rw [HF.out]; exact V1.out))]), hK.trans hKa⟩
        cases v2 : isT n T
        · have V1 := Lib.hid v1
          have V2 := Lib.hid v2
          clear hc hcell hcons v1 v2
          go_wp2_with fail
          refine (implIsType_yes _ _ _ _ _ V1.out).mono ?_
          rintro e w1 ⟨rfl, rfl⟩
          go_wp2_with fail
          refine (implIsType_no _ _ _ _ _ V2.out).mono ?_
          rintro e w1 ⟨rfl, rfl⟩
          go_wp2_with fail
          exact fin_ hQ ⟨ret_b (by rw [hfin.out, nAll_false hlt (declBad2 HL.out (by rw [HT.out]; exact V2.out))]), hK.trans hKa⟩
        have V1 := Lib.hid v1
        have V2 := Lib.hid v2
        have HC := Lib.hid hc
        have HCO := Lib.hid hcons
        clear v1 v2 hc hcell hcons
        by_cases hm3 : m ≤ 3
        · by_cases hm0 : m = 0
          · subst hm0
            go_wp2_with fail
            refine (implIsType_yes _ _ _ _ _ V1.out).mono ?_
            rintro e w1 ⟨rfl, rfl⟩
            go_wp2_with fail
            refine (implIsType_yes _ _ _ _ _ V2.out).mono ?_
            rintro e w1 ⟨rfl, rfl⟩
            go_wp2_with fail
            refine wp_loop_once ?_
            go_wp2_with fail
            go_loopw [76] (fun i w2 => ∃ j : Nat, j ≤ k ∧ i = .int .i64 j ∧ Keep (wo.alloc (.cells #[.int .i64 F, .int .i64 T, .slice a' 0 c'] 125)) w2 ∧ Hid (∀ l, l < j → sameArrow (dAt ds l) (dAt ds k) = false)) (fun i _ => k - (intOf i).toNat)
            case atStart => exact ⟨0, Nat.zero_le _, rfl, Ext.refl _ _, fun j hj => absurd hj (by omega)⟩
            case round =>
              obtain ⟨w2, rfl⟩ : ∃ w2 : World, w2 = wr := ⟨_, rfl⟩
              obtain ⟨j, hj, rfl, hK2, H2⟩ := hrel
              by_cases hltj : j < k
              · have hK3 : Keep wo w2 := hKa.trans hK2
                obtain ⟨e0, e1, a2, m2, c2', e2, _, e3⟩ := HC.out j (by omega)
                have x0 := (hK3.cell (World.block_lt_of_cell? _ _ e0) (fun h => h)).trans e0
                have x1 := (hK3.cell (World.block_lt_of_cell? _ _ e1) (fun h => h)).trans e1
                have x2 := (hK3.cell (World.block_lt_of_cell? _ _ e2) (fun h => h)).trans e2
                have y0 := box_keep hK2 0
                have y1 := box_keep hK2 1
                have y2 := box_keep hK2 2
                have y0' : w2.cell? ⟨wo.heap.size, 0, none⟩ = some (.int .i64 F) := y0
                have y1' : w2.cell? ⟨wo.heap.size, 1, none⟩ = some (.int .i64 T) := y1
                have y2' : w2.cell? ⟨wo.heap.size, 2, none⟩ = some (.slice a' 0 c') := y2
                have E3 := Lib.hid e3.1
                have hlt2 : wo.heap.size < w2.heap.size := by have := hK2.size; simp at this; omega
                clear e0 e1 e2 e3 y0 y1 y2 c0 c1 c2
                by_cases g0 : m2 = 0
                · subst g0
                  cases g1 : ((dAt ds j).from_ == F)
                  · have hs : Hid (sameArrow (dAt ds j) (dAt ds k) = false) := by
                      show _ = _
                      simp only [sameArrow, HF.out]
                      simp only [beq_eq_false_iff_ne] at g1
                      simp [g1]
                    go_wp2
                    go_roundw
                    case rel => exact ⟨j + 1, by omega, by go_num, hK2.trans ((Ext.refl _ _).alloc _), fun l hl => by
                      rcases Nat.lt_succ_iff_lt_or_eq.1 hl with h | rfl
                      · exact H2.out l h
                      · exact hs.out⟩
                    case measure => simp [intOf]; omega
                  · cases g2 : ((dAt ds j).to_ == T)
                    · have hs : Hid (sameArrow (dAt ds j) (dAt ds k) = false) := by
                        show _ = _
                        simp only [sameArrow, HT.out]
                        simp only [beq_eq_false_iff_ne] at g2
                        simp [g2]
                      go_wp2
                      go_roundw
                      case rel => exact ⟨j + 1, by omega, by go_num, hK2.trans ((Ext.refl _ _).alloc _), fun l hl => by
                        rcases Nat.lt_succ_iff_lt_or_eq.1 hl with h | rfl
                        · exact H2.out l h
                        · exact hs.out⟩
                      case measure => simp [intOf]; omega
                    · have hs : Hid (sameArrow (dAt ds j) (dAt ds k) = true) := by
                        show _ = _
                        simp only [sameArrow, HF.out, HT.out]
                        simp only [beq_iff_eq] at g1 g2
                        simp [g1, g2]
                        exact List.eq_nil_of_length_eq_zero E3.out
                      go_wp2
                      exact fin_ hQ ⟨ret_b (by rw [hfin.out, nAll_false hlt (declBad6 HM.out hltj hs.out)]), hK.trans (hK3.trans ((Ext.refl _ _).alloc _))⟩
                · have g0' : ((m2 : Int) == 0) = false := by simp; omega
                  have hs : Hid (sameArrow (dAt ds j) (dAt ds k) = false) := by
                    show _ = _
                    simp only [sameArrow, E3.out]
                    simp [g0]
                  go_wp2
                  go_roundw
                  case rel => exact ⟨j + 1, by omega, by go_num, hK2.trans ((Ext.refl _ _).alloc _), fun l hl => by
                    rcases Nat.lt_succ_iff_lt_or_eq.1 hl with h | rfl
                    · exact H2.out l h
                    · exact hs.out⟩
                  case measure => simp [intOf]; omega
              · go_wp2
                go_roundw
                case rel => exact ⟨k + 1, by omega, by go_num, hK.trans (hKa.trans hK2), fun l hl => by
                  rcases Nat.lt_succ_iff_lt_or_eq.1 hl with h | rfl
                  · exact H.out l h
                  · exact declGood2 HL.out HM.out (by rw [HF.out]; exact V1.out) (by rw [HT.out]; exact V2.out) (fun i hi => H2.out i (by omega))⟩
                case measure => simp [intOf]; omega
          · by_cases hz : F = 0 ∧ T = 0
            · obtain ⟨rfl, rfl⟩ := hz
              go_wp2_with fail
              refine (implIsType_yes _ _ _ _ _ V1.out).mono ?_
              rintro e w1 ⟨rfl, rfl⟩
              go_wp2_with fail
              refine (implIsType_yes _ _ _ _ _ V2.out).mono ?_
              rintro e w1 ⟨rfl, rfl⟩
              go_wp2_with fail
              go_loopw [56] (fun i w2 => ∃ j : Nat, j ≤ m ∧ i = .int .i64 j ∧ Keep (wo.alloc (.cells #[.int .i64 0, .int .i64 0, .slice a' m c'] 125)) w2 ∧ Hid (∀ l, l < j → conOk n (cAt (dAt ds k).cons l) = true)) (fun i _ => m - (intOf i).toNat)
              case atStart => exact ⟨0, Nat.zero_le _, rfl, Ext.refl _ _, fun j hj => absurd hj (by omega)⟩
              case round =>
                obtain ⟨w2, rfl⟩ : ∃ w2 : World, w2 = wr := ⟨_, rfl⟩
                obtain ⟨j, hj, rfl, hK2, H2⟩ := hrel
                have hK3 : Keep wo w2 := hKa.trans hK2
                have hlt2 : wo.heap.size < w2.heap.size := by have := hK2.size; simp at this; omega
                by_cases hltj : j < m
                · have hco := HCO.out.ext hK3 (fun _ _ h => h)
                  obtain ⟨b1, o1, rfl, hd1, hc1⟩ := hco.2 (by omega)
                  obtain ⟨a2, m2, c2', x0, hmc2, hints⟩ := hc1 j hltj
                  have hints1 := hints.ext ((Ext.refl (fun _ => False) w2).alloc (.cells #[.slice a2 m2 c2'] 155)) (fun _ _ h => h)
                  have HL2 := Lib.hid hints.1
                  clear hc1 hco hints c0 c1 c2
                  by_cases g1 : m2 ≤ 3
                  · cases hv : allT n (cAt (dAt ds k).cons j)
                    · have V := Lib.hid hv
                      clear hv
                      go_wp2_with fail
                      refine (implAllTypes _ _ _ _ _ _ _ _ _ hints1 (by omega)).mono ?_
                      rw [V.out]
                      rintro e w1 ⟨rfl, rfl⟩
                      go_wp2_with fail
                      exact fin_ hQ ⟨ret_b (by rw [hfin.out, nAll_false hlt (declBad5 HL.out (j := j) (by have := HM.out; omega) (by simp [conOk, V.out]))]), hK.trans (hK3.trans ((Ext.refl _ _).alloc _))⟩
                    · have V := Lib.hid hv
                      clear hv
                      go_wp2_with fail
                      refine (implAllTypes _ _ _ _ _ _ _ _ _ hints1 (by omega)).mono ?_
                      rw [V.out]
                      rintro e w1 ⟨rfl, rfl⟩
                      go_wp2_with fail
                      go_roundw
                      case rel => exact ⟨j + 1, by omega, by go_num, hK2.trans ((Ext.refl _ _).alloc _), fun l hl => by
                        rcases Nat.lt_succ_iff_lt_or_eq.1 hl with h | rfl
                        · exact H2.out l h
                        · exact conOk_iff.2 ⟨by have := HL2.out; omega, V.out⟩⟩
                      case measure => simp [intOf]; omega
                  · go_wp2_with fail
                    exact fin_ hQ ⟨ret_b (by rw [hfin.out, nAll_false hlt (declBad5 HL.out (j := j) (by have := HM.out; omega) (by have := HL2.out; simp [conOk]; omega))]), hK.trans (hK3.trans ((Ext.refl _ _).alloc _))⟩
                · have hm0' : ((m : Int) == 0) = false := by simp; omega
                  have y2 : w2.cell? ⟨wo.heap.size, 2, none⟩ = some (.slice a' m c') := box_keep hK2 2
                  clear c0 c1 c2
                  go_wp2_with fail
                  go_loopw [76] (fun i w3 => ∃ l : Nat, l ≤ k ∧ i = .int .i64 l ∧ Keep w2 w3) (fun i _ => k - (intOf i).toNat)
                  case atStart => exact ⟨0, Nat.zero_le _, rfl, Ext.refl _ _⟩
                  case round =>
                    obtain ⟨w3, rfl⟩ : ∃ w3 : World, w3 = wr := ⟨_, rfl⟩
                    obtain ⟨l, hl, rfl, hK4⟩ := hrel
                    have z2 := (hK4.cell (p := ⟨wo.heap.size, 2, none⟩) hlt2 (fun h => h)).trans y2
                    have hlt3 : wo.heap.size < w3.heap.size := by have := hK4.size; omega
                    clear y2
                    by_cases hltl : l < k
                    · obtain ⟨e0, e1, a2, m2, c2', e2, _, e3⟩ := HC.out l (by omega)
                      have hK5 : Keep wo w3 := hK3.trans hK4
                      have x0 := (hK5.cell (World.block_lt_of_cell? _ _ e0) (fun h => h)).trans e0
                      have x1 := (hK5.cell (World.block_lt_of_cell? _ _ e1) (fun h => h)).trans e1
                      have x2 := (hK5.cell (World.block_lt_of_cell? _ _ e2) (fun h => h)).trans e2
                      clear e0 e1 e2 e3
                      go_wp2_with fail
                      go_roundw
                      case rel => exact ⟨l + 1, by omega, by go_num, hK4.trans ((Ext.refl _ _).alloc _)⟩
                      case measure => simp [intOf]; omega
                    · go_wp2_with fail
                      go_roundw
                      case rel => exact ⟨k + 1, by omega, by go_num, hK.trans (hK3.trans hK4), fun l hl => by
                        rcases Nat.lt_succ_iff_lt_or_eq.1 hl with h | rfl
                        · exact H.out l h
                        · exact declGood1 HL.out (by have := HM.out; omega) (by have := HM.out; omega) HF.out HT.out (fun i hi => H2.out i (by have := HM.out; omega))⟩
                      case measure => simp [intOf]; omega
            · have hz' : F ≠ 0 ∨ T ≠ 0 := by
                by_cases h0 : F = 0
                · exact .inr fun h1 => hz ⟨h0, h1⟩
                · exact .inl h0
              have hb := Lib.hid (declBad4 (ds := ds) (k := k) (by have := HM.out; omega) (by rw [HF.out, HT.out]; exact hz'))
              clear hz
              cases g0 : (F != 0)
              · have g1 : (T != 0) = true := by
                  simp only [bne_eq_false_iff_eq] at g0
                  rcases hz' with h | h
                  · exact absurd g0 h
                  · simpa using h
                clear hz'
                go_wp2_with fail
                refine (implIsType_yes _ _ _ _ _ V1.out).mono ?_
                rintro e w1 ⟨rfl, rfl⟩
                go_wp2_with fail
                refine (implIsType_yes _ _ _ _ _ V2.out).mono ?_
                rintro e w1 ⟨rfl, rfl⟩
                go_wp2_with fail
                exact fin_ hQ ⟨ret_b (by rw [hfin.out, nAll_false hlt hb.out]), hK.trans hKa⟩
              · clear hz'
                go_wp2_with fail
                refine (implIsType_yes _ _ _ _ _ V1.out).mono ?_
                rintro e w1 ⟨rfl, rfl⟩
                go_wp2_with fail
                refine (implIsType_yes _ _ _ _ _ V2.out).mono ?_
                rintro e w1 ⟨rfl, rfl⟩
                go_wp2_with fail
                exact fin_ hQ ⟨ret_b (by rw [hfin.out, nAll_false hlt hb.out]), hK.trans hKa⟩
        · go_wp2_with fail
          refine (implIsType_yes _ _ _ _ _ V1.out).mono ?_
          rintro e w1 ⟨rfl, rfl⟩
          go_wp2_with fail
          refine (implIsType_yes _ _ _ _ _ V2.out).mono ?_
          rintro e w1 ⟨rfl, rfl⟩
          go_wp2_with fail
          exact fin_ hQ ⟨ret_b (by rw [hfin.out, nAll_false hlt (declBad3 (by have := HM.out; omega))]), hK.trans hKa⟩
      · go_wp2
        exact fin_ hQ ⟨ret_b (by rw [hfin.out]; exact (nAll.2 (fun l hl => H.out l (by omega))).symm), hK⟩
  · have hfin : Hid (typesOk ds = false) := by
      show _ = _
      simp [typesOk, hlen, h4]
    go_enter Tryz.func159, Tryz.ntmps159
    go_wp2
    exact fin_ hQ ⟨ret_b hfin.out.symm, Ext.refl _ _⟩
end Go.Proofs.YtkapldpmjkdmcaaGreat
