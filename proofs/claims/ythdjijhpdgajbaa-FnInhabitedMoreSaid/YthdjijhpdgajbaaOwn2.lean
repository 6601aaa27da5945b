/- A whole element written into a slice of the call's own; rows that are filled one by one. -/
import Derived.Test.YthdjijhpdgajbaaLit
import Derived.Test.YthdjijhpdgajbaaOwn
namespace Go.Proofs.Ythdjijhpdgajbaa
open Go.RowKit

/-- The cells from o on are written over. -/
def setAll (w : World) (b o : Nat) : List Value → World
  | [] => w
  | u :: us => setAll (w.setCell ⟨b, o, none⟩ u) b (o + 1) us
theorem setAll_ext (w : World) (b o : Nat) (us : List Value) : Ext (fun k => k = b) w (setAll w b o us) := by
  induction us generalizing w o with
  | nil => exact Ext.refl _ _
  | cons u us ih => exact ((Ext.refl (fun k => k = b) w).setCell (p := ⟨b, o, none⟩) (.inr rfl) u).trans (ih _ _)
theorem setAll_row {w : World} {b N : Nat} {T : TypeId} {f : Nat → Value} (h : w.rowIs b T N f) (us : List Value) (o : Nat) : (setAll w b o us).rowIs b T N (fun k => if o ≤ k ∧ k < o + us.length then us.getD (k - o) undef else f k) := by
  induction us generalizing w o f with
  | nil => exact h.congr (fun i _ => by rw [if_neg (by simp)])
  | cons u us ih =>
    refine (ih (h.set o u) (o + 1)).congr (fun i _ => ?_)
    by_cases e : i = o
    · subst e
      rw [if_neg (by omega), if_pos rfl, if_pos (by simp)]
      simp [List.getD]
    · by_cases e1 : o + 1 ≤ i ∧ i < o + 1 + us.length
      · rw [if_pos e1, if_pos (by simp; omega), show i - o = (i - (o + 1)) + 1 by omega]
        simp [List.getD]
      · rw [if_neg e1, if_neg e, if_neg (by simp; omega)]

section
variable {D : Nat → Prop} {w : World}
theorem Own.cells {s : Nat} {rows : List (List Dat)} {a : Option Addr} {n c : Nat} (h : Own w D (.arr s rows) (.slice a n c)) {j : Nat} (hj : j < n) : ∃ b, a = some ⟨b, 0, none⟩ ∧ D b ∧ b < w.heap.size ∧ (∀ o, w.frozen? ⟨b, o, none⟩ = false) ∧ ∀ l, l < s → ∃ u, w.cell? ⟨b, j * s + l, none⟩ = some u := by
  cases h with
  | nil => omega
  | arr D E s rows b c T N f hD h0 hs0 hc hm hs' hN hrow hE hdis hr =>
    exact ⟨b, rfl, hD, hrow.lt, hrow.frozen, fun l hl => ⟨_, hrow.cell (Nat.lt_of_lt_of_le (idx_lt hj hl) hN)⟩⟩
theorem Own.putRow {s : Nat} {rows : List (List Dat)} {b n c : Nat} (h : Own w D (.arr s rows) (.slice (some ⟨b, 0, none⟩) n c)) {j : Nat} (hj : j < n) (us : List Value) (ds : List Dat) (E : Nat → Nat → Prop)
    (hus : us.length = s) (hds : ds.length = s) (ho : ∀ i, i < s → ∃ u, us[i]? = some u ∧ Own w (E i) (dGet ds i) u) (hE : ∀ i k, i < s → E i k → ¬ D k) (hdis : ∀ i i' k, i < s → i' < s → E i k → E i' k → i = i') :
    Own (setAll w b (j * s) us) (fun k => D k ∨ ∃ i, i < s ∧ E i k) (.arr s (rows.set j ds)) (.slice (some ⟨b, 0, none⟩) n c) := by
  cases h with
  | nil => omega
  | arr D E0 s rows b c T N f hD h0 hs0 hc hm hs' hN hrow hE0 hdis0 hr =>
    have hx := setAll_ext w b (j * s) us
    have hlen : (rows.set j ds).length = rows.length := by simp
    have q := Own.arr (w := setAll w b (j * s) us) (fun k => D k ∨ ∃ i, i < s ∧ E i k) (fun k l => if k = j then E l else E0 k l) s (rows.set j ds) b c T N _ (.inl hD) (by rw [hlen]; exact h0) hs0 (by rw [hlen]; exact hc) (by rw [hlen]; exact hm)
      (fun i hi => by
        rw [hlen] at hi
        rw [rGet_set hj]
        by_cases e : i = j
        · rw [if_pos e, hds]
        · rw [if_neg e, hs' i hi]) (by rw [hlen]; exact hN) (setAll_row hrow us (j * s))
      (by
        rw [hlen]
        intro i l k hi hl hk
        by_cases e : i = j
        · rw [if_pos e] at hk
          exact ⟨.inr ⟨l, hl, hk⟩, fun e' => hE l k hl hk (e' ▸ hD)⟩
        · rw [if_neg e] at hk
          exact ⟨.inl (hE0 i l k hi hl hk).1, (hE0 i l k hi hl hk).2⟩)
      (by
        rw [hlen]
        intro i l i' l' k hi hl hi' hl' hk hk'
        by_cases e : i = j <;> by_cases e' : i' = j
        · rw [if_pos e] at hk; rw [if_pos e'] at hk'
          exact ⟨by omega, hdis l l' k hl hl' hk hk'⟩
        · rw [if_pos e] at hk; rw [if_neg e'] at hk'
          exact absurd (hE0 i' l' k hi' hl' hk').1 (hE l k hl hk)
        · rw [if_neg e] at hk; rw [if_pos e'] at hk'
          exact absurd (hE0 i l k hi hl hk).1 (hE l' k hl' hk')
        · rw [if_neg e] at hk; rw [if_neg e'] at hk'
          exact hdis0 i l i' l' k hi hl hi' hl' hk hk')
      (fun i l hi hl => by
        rw [hlen] at hi
        have hlt := idx_lt hi hl
        by_cases e : i = j
        · subst e
          obtain ⟨u, hu, hown⟩ := ho l hl
          have e1 : (if i * s ≤ i * s + l ∧ i * s + l < i * s + us.length then us.getD (i * s + l - i * s) undef else f (i * s + l)) = u := by
            rw [if_pos (by omega), Nat.add_sub_cancel_left]; simp [List.getD, hu]
          show Own _ (if i = i then E l else E0 i l) _ (if i * s ≤ i * s + l ∧ i * s + l < i * s + us.length then us.getD (i * s + l - i * s) undef else f (i * s + l))
          rw [if_pos rfl, e1, rAt, rGet_set hj, if_pos rfl]
          exact hown.ext hx (fun k hk h => hE l k hl hk (h ▸ hD))
        · have hne : ¬ (j * s ≤ i * s + l ∧ i * s + l < j * s + us.length) := by
            rintro ⟨q1, q2⟩
            have : i * s + l = j * s + (i * s + l - j * s) := by omega
            exact e (idx_inj hl (by omega) this).1
          show Own _ (if i = j then E l else E0 i l) _ (if j * s ≤ i * s + l ∧ i * s + l < j * s + us.length then us.getD (i * s + l - j * s) undef else f (i * s + l))
          rw [if_neg e, if_neg hne, rAt, rGet_set hj, if_neg e]
          exact (hr i l hi hl).ext hx (fun k hk h => (hE0 i l k hi hl hk).2 h))
    rw [hlen] at q
    exact q
end

/-- The values us hold the data ds in rows of the call's own, whose blocks lie from lo on and below hi. -/
def ToS (lo hi : Nat) (w : World) (ds : List Dat) (us : List Value) : Prop := ∃ E : Nat → Nat → Prop, (∀ i k, E i k → lo ≤ k ∧ k < hi) ∧ (∀ i i' k, E i k → E i' k → i = i') ∧ us.length = ds.length ∧
  ∀ i, i < ds.length → ∃ u, us[i]? = some u ∧ Own w (E i) (dGet ds i) u
theorem ToS.nil (lo hi : Nat) (w : World) : ToS lo hi w [] [] := ⟨fun _ _ => False, by simp, by simp, rfl, by simp⟩
theorem ToS.ext {S : Nat → Prop} {lo hi : Nat} {w w' : World} {ds : List Dat} {us : List Value} (h : ToS lo hi w ds us) (hx : Ext S w w') (hs : ∀ k, lo ≤ k → k < hi → ¬ S k) : ToS lo hi w' ds us := by
  obtain ⟨E, h1, h2, h3, h4⟩ := h
  exact ⟨E, h1, h2, h3, fun i hi => by obtain ⟨u, hu, ho⟩ := h4 i hi; exact ⟨u, hu, ho.ext hx (fun k hk => hs k (h1 i k hk).1 (h1 i k hk).2)⟩⟩
theorem ToS.wide {lo hi lo' hi' : Nat} {w : World} {ds : List Dat} {us : List Value} (h : ToS lo hi w ds us) (h1 : lo' ≤ lo) (h2 : hi ≤ hi') : ToS lo' hi' w ds us := by
  obtain ⟨E, q1, q2, q3, q4⟩ := h
  exact ⟨E, fun i k hk => by have := q1 i k hk; omega, q2, q3, q4⟩
theorem ToS.own {w : World} {m : Nat} {d : Dat} {u : Value} (h : Own w (fun k => m ≤ k) d u) : ToS m w.heap.size w [d] [u] := by
  refine ⟨fun i k => i = 0 ∧ m ≤ k ∧ k < w.heap.size, fun i k hk => hk.2, fun i i' k hk hk' => by omega, rfl, fun i hi => ?_⟩
  obtain rfl : i = 0 := by simpa using hi
  exact ⟨u, rfl, h.lt.mono (fun k hk => ⟨rfl, hk⟩)⟩
theorem ToS.int (lo hi : Nat) (w : World) (z : Int) : ToS lo hi w [.num z] [.int .i64 z] := by
  refine ⟨fun _ _ => False, by simp, by simp, rfl, fun i hi => ?_⟩
  obtain rfl : i = 0 := by simpa using hi
  exact ⟨_, rfl, .num _ z⟩
theorem ToS.app {lo m hi : Nat} {w : World} {ds ds2 : List Dat} {us us2 : List Value} (h : ToS lo m w ds us) (h2 : ToS m hi w ds2 us2) (hlo : lo ≤ m) (hhi : m ≤ hi) : ToS lo hi w (ds ++ ds2) (us ++ us2) := by
  obtain ⟨E, q1, q2, q3, q4⟩ := h
  obtain ⟨E', r1, r2, r3, r4⟩ := h2
  refine ⟨fun i => if i < ds.length then E i else E' (i - ds.length), fun i k hk => ?_, fun i i' k hk hk' => ?_, by simp [q3, r3], fun i hi => ?_⟩
  · by_cases e : i < ds.length
    · simp only [if_pos e] at hk; have := q1 i k hk; omega
    · simp only [if_neg e] at hk; have := r1 _ k hk; omega
  · by_cases e : i < ds.length <;> by_cases e' : i' < ds.length
    · simp only [if_pos e] at hk; simp only [if_pos e'] at hk'; exact q2 i i' k hk hk'
    · simp only [if_pos e] at hk; simp only [if_neg e'] at hk'
      have := q1 i k hk; have := r1 _ k hk'; omega
    · simp only [if_neg e] at hk; simp only [if_pos e'] at hk'
      have := q1 i' k hk'; have := r1 _ k hk; omega
    · simp only [if_neg e] at hk; simp only [if_neg e'] at hk'
      have := r2 _ _ k hk hk'; omega
  · by_cases e : i < ds.length
    · obtain ⟨u, hu, ho⟩ := q4 i e
      refine ⟨u, by rw [List.getElem?_append_left (by omega)]; exact hu, ?_⟩
      show Own w (if i < ds.length then E i else E' (i - ds.length)) _ _
      rw [if_pos e]
      have : dGet (ds ++ ds2) i = dGet ds i := by simp [dGet, List.getD, List.getElem?_append_left e]
      rw [this]; exact ho
    · have hl : i - ds.length < ds2.length := by simp at hi; omega
      obtain ⟨u, hu, ho⟩ := r4 _ hl
      refine ⟨u, by rw [List.getElem?_append_right (by omega), q3]; exact hu, ?_⟩
      show Own w (if i < ds.length then E i else E' (i - ds.length)) _ _
      rw [if_neg e]
      have : dGet (ds ++ ds2) i = dGet ds2 (i - ds.length) := by simp [dGet, List.getD, List.getElem?_append_right (Nat.le_of_not_lt e)]
      rw [this]; exact ho
/-- A whole element into a slice of the call's own. -/
theorem Own.put {w : World} {lo hi hi' s : Nat} {rows : List (List Dat)} {b n c : Nat} (h : Own w (fun k => lo ≤ k ∧ k < hi) (.arr s rows) (.slice (some ⟨b, 0, none⟩) n c)) {j : Nat} (hj : j < n) (us : List Value) (ds : List Dat)
    (hds : ds.length = s) (ht : ToS hi hi' w ds us) (hlo : lo ≤ hi) (hhi : hi ≤ hi') : Own (setAll w b (j * s) us) (fun k => lo ≤ k ∧ k < hi') (.arr s (rows.set j ds)) (.slice (some ⟨b, 0, none⟩) n c) := by
  obtain ⟨E, h1, h2, h3, h4⟩ := ht
  refine (h.putRow hj us ds E (by omega) hds (fun i hi => h4 i (by omega)) (fun i k _ hk hk' => by have := h1 i k hk; omega) (fun i i' k _ _ => h2 i i' k)).mono (fun k hk => ?_)
  rcases hk with hk | ⟨i, _, hk⟩
  · omega
  · have := h1 i k hk; omega
theorem ToS.get {lo hi : Nat} {w : World} {ds : List Dat} {us : List Value} (h : ToS lo hi w ds us) (i : Nat) (d : Dat) (u : Value) (hd : ds[i]? = some d) (hu : us[i]? = some u) : Own w (fun k => lo ≤ k ∧ k < hi) d u := by
  obtain ⟨E, h1, _, h3, h4⟩ := h
  obtain ⟨hi', e⟩ := List.getElem?_eq_some_iff.1 hd
  obtain ⟨u', hu', ho⟩ := h4 i hi'
  rw [hu] at hu'
  injection hu' with hu'
  subst hu'
  have : dGet ds i = d := by rw [dGet_lt hi', e]
  rw [this] at ho
  exact ho.mono (fun k hk => h1 i k hk)
theorem rowOf (w : World) (c : Array Value) (T : TypeId) : (w.alloc (.cells c T)).rowIs w.heap.size T c.size (fun i => c.getD i undef) := World.rowIs_alloc w c T _ (fun i hi => by simp [Array.getD, hi])

/-- The first j of rows, then z. -/
def rowsTo (rows : List (List Dat)) (z : List Dat) (j : Nat) : List (List Dat) := rows.take j ++ List.replicate (rows.length - j) z
theorem rowsTo_zero (rows : List (List Dat)) (z : List Dat) : rowsTo rows z 0 = List.replicate rows.length z := by simp [rowsTo]
theorem rowsTo_all (rows : List (List Dat)) (z : List Dat) {n : Nat} (h : n = rows.length) : rowsTo rows z n = rows := by subst h; simp [rowsTo]
theorem rowsTo_succ (rows : List (List Dat)) (z : List Dat) {j : Nat} (h : j < rows.length) : (rowsTo rows z j).set j (rGet rows j) = rowsTo rows z (j + 1) := by
  have h1 : (rows.take j).length = j := by simp; omega
  simp only [rowsTo]
  rw [List.set_append_right _ _ (Nat.le_of_eq h1), h1, Nat.sub_self, take_succ_rows rows j h, show rows.length - j = (rows.length - (j + 1)) + 1 by omega, List.replicate_succ, List.set_cons_zero]
  simp
end Go.Proofs.Ythdjijhpdgajbaa
