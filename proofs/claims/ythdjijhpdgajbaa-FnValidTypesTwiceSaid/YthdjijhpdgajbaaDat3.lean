/- Rows that grow by append, whose elements need only be readable; literals. -/
import Derived.Test.YthdjijhpdgajbaaTyp
namespace Go.Proofs.Ythdjijhpdgajbaa
open Go.RowKit

/-- The slice v, that grows by append, holds n elements that can be read; its own row lies from base on, all that it leads to lies in other blocks, of D. -/
def AccR (w : World) (base : Nat) (D : Nat → Prop) (T : TypeId) (s : Nat) (v : Value) (rows : List (List Dat)) : Prop :=
  ∃ (xs : List Value), w.ownsRow base T s v rows.length xs ∧ (∀ i, i < rows.length → (rGet rows i).length = s) ∧
    ∀ i j, i < rows.length → j < s → ∃ u, xs[i * s + j]? = some u ∧ Rd w (fun k => D k ∧ v.ownBlock ≠ some k ∧ k < w.heap.size) (rAt rows i j) u

section
variable {S D D' : Nat → Prop} {w w' : World} {v : Value} {base : Nat} {T : TypeId} {s : Nat} {rows : List (List Dat)}
theorem AccR.nil (w : World) (base : Nat) (D : Nat → Prop) (T : TypeId) (s : Nat) : AccR w base D T s (.slice none 0 0) [] :=
  ⟨[], World.ownsRow_nil w base T s, by simp, by simp⟩
theorem AccR.made (w : World) (D : Nat → Prop) (T : TypeId) (s : Nat) : AccR (w.alloc (.cells #[] T)) w.heap.size D T s (.slice (some ⟨w.heap.size, 0, none⟩) 0 0) [] :=
  ⟨[], World.ownsRow_made w #[] 0 (Nat.le_refl _) (by simp [maxLen]) (by simp), by simp, by simp⟩
/-- A literal: the cells that a new block holds. -/
theorem AccR.lit (w : World) (D : Nat → Prop) (T : TypeId) (s : Nat) (cs : Array Value) (rows : List (List Dat)) (n : Nat) (hn : n = rows.length) (hm : n ≤ 9223372036854775807) (hcs : cs.size = n * s)
    (hl : ∀ i, i < rows.length → (rGet rows i).length = s) (hr : ∀ i j, i < rows.length → j < s → ∃ u, cs[i * s + j]? = some u ∧ Rd w D (rAt rows i j) u) :
    AccR (w.alloc (.cells cs T)) w.heap.size D T s (.slice (some ⟨w.heap.size, 0, none⟩) n n) rows := by
  subst hn
  refine ⟨cs.toList, ⟨by simpa using hcs, .inr ⟨w.heap.size, _, cs, rfl, Nat.le_refl _, heap_alloc_new w _, Nat.le_refl _, by simpa only [maxLen] using hm, hcs, List.take_of_length_le (by simp [hcs])⟩⟩, hl, fun i j hi hj => ?_⟩
  obtain ⟨u, hu, ho⟩ := hr i j hi hj
  refine ⟨u, by simpa using hu, (ho.lt.mono (fun k hk => ⟨hk.1, ?_, ?_⟩)).ext ((Ext.refl (fun _ => False) w).alloc _) (fun _ _ h => h)⟩
  · intro h; simp only [Value.ownBlock, Option.some.injEq] at h; omega
  · simp; omega
theorem AccR.mono (h : AccR w base D T s v rows) (hs : ∀ k, D k → D' k) : AccR w base D' T s v rows := by
  obtain ⟨xs, h1, h2, h5⟩ := h
  exact ⟨xs, h1, h2, fun i j hi hj => by obtain ⟨u, hu, ho⟩ := h5 i j hi hj; exact ⟨u, hu, ho.mono (fun k hk => ⟨hs _ hk.1, hk.2⟩)⟩⟩
theorem AccR.lower (h : AccR w base D T s v rows) {base' : Nat} (hb : base' ≤ base) : AccR w base' D T s v rows := by
  obtain ⟨xs, h1, h2, h5⟩ := h
  refine ⟨xs, ⟨h1.1, ?_⟩, h2, h5⟩
  rcases h1.2 with h | ⟨g, cap, cur, e, hg, rest⟩
  · exact .inl h
  · exact .inr ⟨g, cap, cur, e, by omega, rest⟩
theorem AccR.ext (h : AccR w base D T s v rows) (hx : Ext S w w') (hs : ∀ k, k < w.heap.size → (D k ∨ base ≤ k) → ¬ S k) : AccR w' base D T s v rows := by
  obtain ⟨xs, h1, h2, h5⟩ := h
  refine ⟨xs, ⟨h1.1, ?_⟩, h2, fun i j hi hj => ?_⟩
  · rcases h1.2 with h | ⟨g, cap, cur, e, hb, hg, rest⟩
    · exact .inl h
    · have hlt : g < w.heap.size := (Array.getElem?_eq_some_iff.1 hg).1
      exact .inr ⟨g, cap, cur, e, hb, (hx.block g hlt (hs g hlt (.inr hb))).trans hg, rest⟩
  · obtain ⟨u, hu, ho⟩ := h5 i j hi hj
    exact ⟨u, hu, (ho.ext hx (fun k hk => hs k hk.2.2 (.inl hk.1))).mono (fun k hk => ⟨hk.1, hk.2.1, Nat.lt_of_lt_of_le hk.2.2 hx.size⟩)⟩
theorem AccR.keep (h : AccR w base D T s v rows) (hx : Keep w w') : AccR w' base D T s v rows := h.ext hx (fun _ _ _ h => h)
/-- As a slice that can be read. -/
theorem AccR.read (h : AccR w base D T s v rows) (hs0 : 0 < s) : ∃ a c, v = .slice a rows.length c ∧ rows.length ≤ c ∧ rows.length ≤ 9223372036854775807 ∧ Rd w (fun k => D k ∨ base ≤ k) (.arr s rows) v := by
  obtain ⟨xs, h1, h2, h5⟩ := h
  rcases h1.2 with ⟨e, h0⟩ | ⟨g, cap, cur, e, hb, hg, hnc, hmax, hsz, htake⟩
  · have : rows = [] := List.eq_nil_of_length_eq_zero h0
    subst this
    subst e
    exact ⟨none, 0, rfl, Nat.le_refl _, by simp, .nil _ _ _⟩
  · subst e
    have hm : rows.length ≤ 9223372036854775807 := by simp only [maxLen] at hmax; omega
    refine ⟨_, cap, rfl, hnc, hm, ?_⟩
    rcases Nat.eq_zero_or_pos rows.length with h0 | h0
    · have : rows = [] := List.eq_nil_of_length_eq_zero h0
      subst this
      exact .nil _ _ _
    refine .arr s rows g 0 cap (fun i j => xs.getD (i * s + j) undef) (.inr hb) h0 hs0 hnc hm h2 (fun i j hi hj => ?_) (fun i j hi hj => ?_)
    · obtain ⟨u, hu, ho⟩ := h5 i j hi hj
      have := h1.cells (g := g) rfl (i * s + j) u hu
      rw [Addr.add_lit] at this
      rw [Nat.add_assoc, this]
      simp [List.getD, hu]
    · obtain ⟨u, hu, ho⟩ := h5 i j hi hj
      have : xs.getD (i * s + j) undef = u := by simp [List.getD, hu]
      show Rd w _ _ (xs.getD (i * s + j) undef)
      rw [this]
      exact ho.mono (fun k hk => .inl hk.1)

/-- Behind an append of some elements. -/
theorem AccR.push {v' : Value} {rs : List (List Dat)} {news : List Value} (h : AccR w base D T s v rows)
    (hr : ∀ i, i < rs.length → (rGet rs i).length = s) (hnew : ∀ i j, i < rs.length → j < s → ∃ u, news[i * s + j]? = some u ∧ Rd w (fun k => D k ∧ v.ownBlock ≠ some k) (rAt rs i j) u)
    (hown' : ∀ xs, w.ownsRow base T s v rows.length xs → w'.ownsRow base T s v' (rows.length + rs.length) (xs ++ news)) (hg : w.grownBy w' v.ownBlock) (hv : v'.ownBlock = v.ownBlock ∨ v'.ownBlock = some w.heap.size) : AccR w' base D T s v' (rows ++ rs) := by
  obtain ⟨xs, h1, h2, h5⟩ := h
  have hl : xs.length = rows.length * s := h1.1
  have hx : Ext (fun k => v.ownBlock = some k) w w' := ⟨hg.os, hg.tape, hg.output, hg.size, fun k hk hn => hg.block k hk (fun e => hn e.symm)⟩
  have hblk : ∀ k, k < w.heap.size → v.ownBlock ≠ some k → v'.ownBlock ≠ some k := by
    intro k hk hne
    rcases hv with e | e
    · rw [e]; exact hne
    · rw [e]; intro h; injection h with h; omega
  have hlen : (rows ++ rs).length = rows.length + rs.length := by simp
  have hrg : ∀ i, i < rows.length → rGet (rows ++ rs) i = rGet rows i := by intro i hi; simp [rGet, List.getD, List.getElem?_append_left hi]
  have hrl : ∀ i, rows.length ≤ i → rGet (rows ++ rs) i = rGet rs (i - rows.length) := by intro i hi; simp [rGet, List.getD, List.getElem?_append_right hi]
  refine ⟨xs ++ news, by rw [hlen]; exact hown' xs h1, ?_, ?_⟩
  · intro i hi
    rw [hlen] at hi
    by_cases e : i < rows.length
    · rw [hrg i e, h2 i e]
    · rw [hrl i (by omega), hr _ (by omega)]
  · intro i j hi hj
    rw [hlen] at hi
    by_cases e : i < rows.length
    · obtain ⟨u, hu, ho⟩ := h5 i j e hj
      refine ⟨u, ?_, ?_⟩
      · rw [List.getElem?_append_left (by rw [hl]; exact idx_lt e hj)]; exact hu
      · rw [rAt, hrg i e]
        exact (ho.ext hx (fun k hk h => hk.2.1 h)).mono (fun k hk => ⟨hk.1, hblk k hk.2.2 hk.2.1, Nat.lt_of_lt_of_le hk.2.2 hg.size⟩)
    · obtain ⟨i', rfl⟩ : ∃ i', i = rows.length + i' := ⟨i - rows.length, by omega⟩
      obtain ⟨u, hu, ho⟩ := hnew i' j (by omega) hj
      have e1 : (rows.length + i') * s + j = rows.length * s + (i' * s + j) := by rw [Nat.add_mul, Nat.add_assoc]
      refine ⟨u, ?_, ?_⟩
      · rw [e1, List.getElem?_append_right (by rw [hl]; omega), hl, Nat.add_sub_cancel_left]; exact hu
      · rw [rAt, hrl _ (by omega), Nat.add_sub_cancel_left]
        exact (ho.lt.ext hx (fun k hk h => hk.1.2 h)).mono (fun k hk => ⟨hk.1.1, hblk k hk.2 hk.1.2, Nat.lt_of_lt_of_le hk.2 hg.size⟩)

/-- A store into one of its cells. -/
theorem AccR.put {b : Nat} {i j : Nat} {d : Dat} {u : Value} (h : AccR w base D T s v rows) (hb : v.ownBlock = some b) (hi : i < rows.length) (hj : j < s) (hu : Rd w (fun k => D k ∧ k ≠ b) d u) :
    AccR (w.setCell ⟨b, i * s + j, none⟩ u) base D T s v (upd rows i j d) := by
  obtain ⟨xs, h1, h2, h5⟩ := h
  have hlt := idx_lt hi hj
  have hx : Ext (fun k => k = b) w (w.setCell ⟨b, i * s + j, none⟩ u) := (Ext.refl (fun k => k = b) w).setCell (p := ⟨b, i * s + j, none⟩) (.inr rfl) _
  have hsz : w.heap.size ≤ (w.setCell ⟨b, i * s + j, none⟩ u).heap.size := hx.size
  have hlen : j < (rGet rows i).length := by rw [h2 i hi]; exact hj
  rcases h1.2 with ⟨e, h0⟩ | ⟨g, cap, cur, e, hbb, hg, hnc, hmax, hsz2, htake⟩
  · subst e; simp [Value.ownBlock] at hb
  · subst e
    simp only [Value.ownBlock, Option.some.injEq] at hb
    subst hb
    have hle : rows.length * s ≤ cur.size := by rw [hsz2]; exact Nat.mul_le_mul_right s hnc
    refine ⟨xs.set (i * s + j) u, ⟨by rw [upd_len, List.length_set]; exact h1.1, .inr ⟨g, cap, cur.setIfInBounds (i * s + j) u, by rw [upd_len], hbb, ?_, by rw [upd_len]; exact hnc, hmax, by simpa using hsz2, ?_⟩⟩, ?_, ?_⟩
    · simp [World.setCell, Array.getElem?_modify, hg]
    · rw [upd_len, Array.toList_setIfInBounds, ← htake, List.take_set]
    · intro k hk
      rw [upd_len] at hk
      rw [rGet_upd hi]
      by_cases e : k = i
      · rw [if_pos e, List.length_set, h2 i hi]
      · rw [if_neg e, h2 k hk]
    · intro k l hk hl
      rw [upd_len] at hk
      rw [rAt_upd hi hlen]
      by_cases e : k = i ∧ l = j
      · rw [if_pos e]
        obtain ⟨rfl, rfl⟩ := e
        refine ⟨u, by rw [List.getElem?_set_self]; rw [h1.1]; exact hlt, (hu.lt.ext hx (fun m hm h => hm.1.2 h)).mono (fun m hm => ⟨hm.1.1, ?_, by omega⟩)⟩
        intro h; simp only [Value.ownBlock, Option.some.injEq] at h; exact hm.1.2 h.symm
      · rw [if_neg e]
        obtain ⟨u', hu', ho⟩ := h5 k l hk hl
        refine ⟨u', ?_, (ho.ext hx (fun m hm h => hm.2.1 (by rw [h]; rfl))).mono (fun m hm => ⟨hm.1, hm.2.1, by omega⟩)⟩
        rw [List.getElem?_set_ne]
        · exact hu'
        · intro h; exact e (idx_inj hl hj h.symm)
/-- Where a row with elements lies. -/
theorem AccR.open (h : AccR w base D T s v rows) (h0 : 0 < rows.length) : ∃ b c, v = .slice (some ⟨b, 0, none⟩) rows.length c ∧ base ≤ b ∧ b < w.heap.size ∧ rows.length ≤ c ∧ c ≤ 9223372036854775807 ∧ (∀ o, w.frozen? ⟨b, o, none⟩ = false) ∧
    ∀ i j, i < rows.length → j < s → ∃ u, w.cell? ⟨b, i * s + j, none⟩ = some u ∧ Rd w (fun k => D k ∧ k ≠ b ∧ k < w.heap.size) (rAt rows i j) u := by
  obtain ⟨xs, h1, h2, h5⟩ := h
  rcases h1.2 with ⟨e, he⟩ | ⟨g, cap, cur, e, hb, hg, hnc, hmax, hsz, htake⟩
  · omega
  · subst e
    refine ⟨g, cap, rfl, hb, (Array.getElem?_eq_some_iff.1 hg).1, hnc, hmax, fun o => by simp [World.frozen?, hg], fun i j hi hj => ?_⟩
    obtain ⟨u, hu, ho⟩ := h5 i j hi hj
    have := h1.cells (g := g) rfl (i * s + j) u hu
    rw [Addr.add_lit, Nat.zero_add] at this
    refine ⟨u, this, ho.mono (fun k hk => ⟨hk.1, ?_, hk.2.2⟩)⟩
    intro e; exact hk.2.1 (by rw [e]; rfl)
end

/-- The rest of a slice. -/
theorem Rd.suffix {w : World} {D : Nat → Prop} {s : Nat} {rows : List (List Dat)} {b o n c m : Nat} (h : Rd w D (.arr s rows) (.slice (some ⟨b, o, none⟩) n c)) (hm : m ≤ n) : Rd w D (.arr s (rows.drop m)) (.slice (some ⟨b, o + m * s, none⟩) (n - m) (c - m)) := by
  have hget : ∀ i, rGet (rows.drop m) i = rGet rows (m + i) := fun i => by simp [rGet, List.getD, List.getElem?_drop]
  cases h with
  | nil => simp; exact .nil s _ _
  | arr s rows b o c vs hD h0 hs0 hc hmm hs hcell hr =>
    rcases Nat.eq_zero_or_pos (rows.length - m) with e | e
    · have : rows.drop m = [] := List.drop_eq_nil_of_le (by omega)
      rw [this, e]
      exact .nil s _ _
    · have q := Rd.arr (w := w) (D := D) s (rows.drop m) b (o + m * s) (c - m) (fun i j => vs (m + i) j) hD (by simpa using e) hs0 (by simp; omega) (by simp; omega)
        (fun i hi => by rw [hget]; exact hs _ (by simp at hi; omega)) (fun i j hi hj => by
          have := hcell (m + i) j (by simp at hi; omega) hj
          rw [Nat.add_mul] at this
          rw [show o + m * s + i * s + j = o + (m * s + i * s) + j by omega]; exact this)
        (fun i j hi hj => by rw [rAt, hget]; exact hr (m + i) j (by simp at hi; omega) hj)
      rw [List.length_drop] at q
      exact q

/-- A declaration is written over. -/
theorem AccR.putD {w : World} {base : Nat} {D : Nat → Prop} {T : TypeId} {v : Value} {ds : List DeclL} {b k : Nat} {f t : Int} {cs : List (List Int)} {u : Value} (h : AccR w base D T 3 v (ds.map rowD)) (hb : v.ownBlock = some b) (hk : k < ds.length)
    (hu : Rd w (fun k => D k ∧ k ≠ b) (encCons cs) u) :
    AccR (((w.setCell ⟨b, k * 3, none⟩ (.int .i64 f)).setCell ⟨b, k * 3 + 1, none⟩ (.int .i64 t)).setCell ⟨b, k * 3 + 2, none⟩ u) base D T 3 v ((ds.set k ⟨f, t, cs⟩).map rowD) := by
  have hl : k < (ds.map rowD).length := by simpa using hk
  have x1 : Ext (fun m => m = b) w (w.setCell ⟨b, k * 3, none⟩ (.int .i64 f)) := (Ext.refl (fun m => m = b) w).setCell (p := ⟨b, k * 3, none⟩) (.inr rfl) _
  have x2 : Ext (fun m => m = b) w ((w.setCell ⟨b, k * 3, none⟩ (.int .i64 f)).setCell ⟨b, k * 3 + 1, none⟩ (.int .i64 t)) := x1.setCell (p := ⟨b, k * 3 + 1, none⟩) (.inr rfl) _
  have h1 := h.put (i := k) (j := 0) (d := .num f) hb hl (by omega) (.num f)
  have h2 := h1.put (i := k) (j := 1) (d := .num t) hb (by rw [upd_len]; exact hl) (by omega) (.num t)
  have h3 := h2.put (i := k) (j := 2) (d := encCons cs) hb (by rw [upd_len, upd_len]; exact hl) (by omega) (hu.ext x2 (fun m hm h => hm.2 h))
  have e : upd (upd (upd (ds.map rowD) k 0 (.num f)) k 1 (.num t)) k 2 (encCons cs) = (ds.set k ⟨f, t, cs⟩).map rowD := by
    have r0 := decls_row ds k hk
    simp only [upd]
    rw [rGet_set (by simpa using hk), rGet_set (by simpa using hk), if_pos rfl, if_pos rfl, r0]
    simp [List.map_set, rowD]
  rw [e] at h3
  exact h3
end Go.Proofs.Ythdjijhpdgajbaa
