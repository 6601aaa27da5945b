/- The reader of pseudo-random numbers: newReader, pick and one, for every code. -/
import Derived.Test.YthdjijhpdgajbaaBase
namespace Go.Proofs.Ythdjijhpdgajbaa
open Go.RowKit

/-- Bytes that can be read. -/
def Byt (w : World) (a : Option Addr) (len : Nat) (z : Nat → Int) : Prop :=
  0 < len → ∃ x, a = some x ∧ x.block < w.heap.size ∧ ∀ i, i < len → w.cell? (x.add i) = some (.int .u8 (z i)) ∧ 0 ≤ z i ∧ z i < 256

/-- Block g is a reader at the place p. -/
def Rdr (w : World) (g : Nat) (p : Int) : Prop :=
  ∃ a len cap z, w.heap[g]? = some (.cells #[.slice a len cap, .int .i64 p] 68 (0, 0)) ∧ len ≤ 2000 ∧ Byt w a len z ∧ (∀ x, a = some x → 0 < len → x.block ≠ g) ∧ 0 ≤ p

theorem xor_nonneg (x y : Int) (hx : 0 ≤ x) (hx2 : x < 4611686018427387904) (hy : 0 ≤ y) (hy2 : y < 4611686018427387904) : 0 ≤ bits BinOp.xor IntKind.i64 x y := by
  obtain ⟨a, rfl⟩ := Int.eq_ofNat_of_zero_le hx
  obtain ⟨b, rfl⟩ := Int.eq_ofNat_of_zero_le hy
  have hxx : a ^^^ b < 2 ^ 62 := Nat.xor_lt_two_pow (by omega) (by omega)
  have h1 : (BitVec.ofInt 64 (a : Int)).toNat = a := by
    rw [BitVec.ofInt_natCast, BitVec.toNat_ofNat]; exact Nat.mod_eq_of_lt (by omega)
  have h2 : (BitVec.ofInt 64 (b : Int)).toNat = b := by
    rw [BitVec.ofInt_natCast, BitVec.toNat_ofNat]; exact Nat.mod_eq_of_lt (by omega)
  show 0 ≤ IntKind.i64.wrap ((BitVec.ofInt 64 (a : Int) ^^^ BitVec.ofInt 64 (b : Int)).toNat : Int)
  rw [BitVec.toNat_xor, h1, h2]
  simp [IntKind.wrap, IntKind.bits, IntKind.signed]
  omega

set_option maxHeartbeats 800000 in
theorem pick_set (g : Nat) (p n : Int) (w : World) (h : Rdr w g p) (hp : p ≤ 1000000000000) (hn : n ≤ 1000000) :
    Calls Try.prog 30 #[.pointer (some ⟨g, 0, none⟩), .int .i64 n] w fun e w' => ∃ v : Int, e = .returned (.int .i64 v) ∧ (1 ≤ n → 0 ≤ v ∧ v < n) ∧ (n < 1 → v = 0) ∧
      ∃ m, w' = (w.setCell ⟨g, 1, none⟩ (.int .i64 (p + 1))).drewN m := by
  refine calls_k fun Q hQ => ?_
  obtain ⟨a, len, cap, z, hg, hl, hb, hne, hp0⟩ := h
  have c0 : w.cell? ⟨g, 0, none⟩ = some (.slice a len cap) := by simp [World.cell?, hg]
  have c1 : w.cell? ⟨g, 1, none⟩ = some (.int .i64 p) := by simp [World.cell?, hg]
  have f1 : w.frozen? ⟨g, 1, none⟩ = false := by simp [World.frozen?, hg]
  by_cases hn1 : n < 1
  · go_enter Try.func30, Try.ntmps30
    go_wp2
    exact fin_ hQ ⟨0, rfl, fun h => absurd h (by omega), fun _ => rfl, 0, rfl⟩
  by_cases hlen : len = 0
  · subst hlen
    go_enter Try.func30, Try.ntmps30
    go_wp2
    exact fin_ hQ ⟨0, rfl, fun h => by omega, fun _ => rfl, 0, rfl⟩
  obtain ⟨x, rfl, hxb, hx⟩ := hb (by omega)
  have hxg := hne x rfl (by omega)
  have hlb : ((len : Int) == 0) = false := by simp; omega
  obtain ⟨q, rfl⟩ := Int.eq_ofNat_of_zero_le hp0
  have hcell : ∀ i, i < len → (w.setCell ⟨g, 1, none⟩ (.int .i64 ((q : Int) + 1))).cell? (x.add i) = some (.int .u8 (z i)) := by
    intro i hi
    have : (w.setCell ⟨g, 1, none⟩ (.int .i64 ((q : Int) + 1))).cell? (x.add i) = w.cell? (x.add i) :=
      World.cell?_setCell_other w _ _ _ (by intro e; have : (x.add i).block = g := by rw [← e]
                                            unfold Addr.add at this; split at this <;> exact hxg this)
    rw [this]; exact (hx i hi).1
  by_cases hk : q < len
  · have c2 := hcell q hk
    obtain ⟨_, z1, z2⟩ := hx q hk
    clear hx hcell hne hg hb
    go_enter Try.func30, Try.ntmps30
    go_wp2
    exact fin_ hQ ⟨z q % n, rfl, fun h => ⟨Int.emod_nonneg _ (by omega), Int.emod_lt_of_pos _ (by omega)⟩, fun h => absurd h (by omega), 0, rfl⟩
  obtain ⟨k1, hk1⟩ : ∃ k1, k1 = q % len := ⟨_, rfl⟩
  obtain ⟨k2, hk2⟩ : ∃ k2, k2 = (q * 7 + 3) % len := ⟨_, rfl⟩
  obtain ⟨k3, hk3⟩ : ∃ k3, k3 = q / len := ⟨_, rfl⟩
  have lk1 : k1 < len := by rw [hk1]; exact Nat.mod_lt _ (by omega)
  have lk2 : k2 < len := by rw [hk2]; exact Nat.mod_lt _ (by omega)
  have lk3 : k3 ≤ q := by rw [hk3]; exact Nat.div_le_self _ _
  have e1 : ((q : Int)).tmod (len : Int) = (k1 : Int) := by rw [Int.tmod_eq_emod_of_nonneg (by omega), hk1, Int.natCast_emod]
  have e2 : ((q : Int) * 7 + 3).tmod (len : Int) = (k2 : Int) := by rw [Int.tmod_eq_emod_of_nonneg (by omega), hk2, Int.natCast_emod]; rfl
  have e3 : ((q : Int)).tdiv (len : Int) = (k3 : Int) := by rw [Int.tdiv_eq_ediv_of_nonneg (by omega), hk3, Int.natCast_ediv]
  have d1 := hcell k1 lk1
  have d2 := hcell k2 lk2
  obtain ⟨_, y1, y2⟩ := hx k1 lk1
  obtain ⟨_, y3, y4⟩ := hx k2 lk2
  clear hk1 hk2 hk3 hx hcell hne hg hb
  go_enter Try.func30, Try.ntmps30
  go_wp2
  go_quiet (fail)
  generalize hX : z k1 * 131 + z k2 * 1117 + (q : Int) * 29 + (k3 : Int) * 53 = X
  have X0 : 0 ≤ X := by omega
  have X1 : X < 4611686018427387904 := by omega
  clear hX d1 d2 e1 e2 e3
  have X2 := xor_nonneg X (X / 64) X0 X1 (by omega) (by omega)
  go_wp2
  exact fin_ hQ ⟨bits BinOp.xor IntKind.i64 X (X / 64) % n, rfl, fun h => ⟨Int.emod_nonneg _ (by omega), Int.emod_lt_of_pos _ (by omega)⟩, fun h => absurd h (by omega), nq, rfl⟩

theorem Byt.ext {S : Nat → Prop} {w w' : World} {a : Option Addr} {len : Nat} {z : Nat → Int} (h : Byt w a len z) (hx : Ext S w w') (hs : ∀ x, a = some x → 0 < len → ¬ S x.block) : Byt w' a len z := by
  intro hl
  obtain ⟨x, rfl, hb, hc⟩ := h hl
  exact ⟨x, rfl, Nat.lt_of_lt_of_le hb hx.size, fun i hi => ⟨(hx.cell (by rw [block_add]; exact hb) (by rw [block_add]; exact hs x rfl hl)).trans (hc i hi).1, (hc i hi).2⟩⟩

theorem Rdr.ext {S : Nat → Prop} {w w' : World} {g : Nat} {p : Int} (h : Rdr w g p) (hx : Ext S w w') (hs : ∀ k, k < w.heap.size → ¬ S k) : Rdr w' g p := by
  obtain ⟨a, len, cap, z, hg, hl, hb, hne, hp0⟩ := h
  have hlt : g < w.heap.size := (Array.getElem?_eq_some_iff.1 hg).1
  refine ⟨a, len, cap, z, (hx.block g hlt (hs g hlt)).trans hg, hl, hb.ext hx ?_, hne, hp0⟩
  intro x hax hl0
  obtain ⟨x', hx', hxb, _⟩ := hb hl0
  rw [hax] at hx'
  injection hx' with hx'
  subst hx'
  exact hs _ hxb

theorem Rdr.lt {w : World} {g : Nat} {p : Int} (h : Rdr w g p) : g < w.heap.size := by
  obtain ⟨a, len, cap, z, hg, _⟩ := h
  exact (Array.getElem?_eq_some_iff.1 hg).1
theorem Rdr.pos {w : World} {g : Nat} {p : Int} (h : Rdr w g p) : 0 ≤ p := by
  obtain ⟨a, len, cap, z, hg, _, _, _, h0⟩ := h
  exact h0

theorem pick_any (g : Nat) (p n : Int) (w : World) (h : Rdr w g p) (hp : p ≤ 1000000000000) (hn : n ≤ 1000000) :
    Calls Try.prog 30 #[.pointer (some ⟨g, 0, none⟩), .int .i64 n] w fun e w' => ∃ v : Int, e = .returned (.int .i64 v) ∧ (1 ≤ n → 0 ≤ v ∧ v < n) ∧ (n < 1 → v = 0) ∧
      Rdr w' g (p + 1) ∧ Ext (· = g) w w' := by
  refine (pick_set g p n w h hp hn).mono ?_
  rintro e w' ⟨v, rfl, h1, h2, m, rfl⟩
  have hx : Ext (· = g) w ((w.setCell ⟨g, 1, none⟩ (.int .i64 (p + 1))).drewN m) := ((Ext.refl (· = g) w).setCell (p := ⟨g, 1, none⟩) (.inr rfl) _).drewN m
  refine ⟨v, rfl, h1, h2, ?_, hx⟩
  obtain ⟨a, len, cap, z, hg, hl, hb, hne, hp0⟩ := h
  refine ⟨a, len, cap, z, ?_, hl, hb.ext hx hne, hne, by omega⟩
  show (w.setCell ⟨g, 1, none⟩ (.int .i64 (p + 1))).heap[g]? = _
  simp [World.setCell, Array.getElem?_modify, hg]

theorem IntsR.ext {S : Nat → Prop} {w w' : World} {a : Option Addr} {len : Nat} {z : Nat → Int} (h : IntsR w a len z) (hx : Ext S w w') (hs : ∀ x, a = some x → 0 < len → ¬ S x.block) : IntsR w' a len z := by
  intro hl
  obtain ⟨x, rfl, hb, hc⟩ := h hl
  exact ⟨x, rfl, Nat.lt_of_lt_of_le hb hx.size, fun i hi => (hx.cell (by rw [block_add]; exact hb) (by rw [block_add]; exact hs x rfl hl)).trans (hc i hi)⟩

set_option maxHeartbeats 400000 in
theorem one_any (g : Nat) (p : Int) (x : Addr) (len cap : Nat) (z : Nat → Int) (w : World) (h : Rdr w g p) (hp : p ≤ 1000000000000) (hl : 1 ≤ len) (hl2 : len ≤ 1000)
    (hc : ∀ i, i < len → w.cell? (x.add i) = some (.int .i64 (z i))) (hxb : x.block < w.heap.size) (hne : x.block ≠ g) :
    Calls Try.prog 43 #[.pointer (some ⟨g, 0, none⟩), .slice (some x) len cap] w fun e w' => ∃ i, i < len ∧ e = .returned (.int .i64 (z i)) ∧
      Rdr w' g (p + 1) ∧ Ext (· = g) w w' := by
  refine calls_k fun Q hQ => ?_
  go_enter Try.func43, Try.ntmps43
  go_wp2_with fail
  refine (pick_any g p _ w h hp (by omega)).mono ?_
  rintro e w1 ⟨v, rfl, hv, _, hr, hx⟩
  obtain ⟨hv0, hv1⟩ := hv (by omega)
  obtain ⟨i, rfl⟩ := Int.eq_ofNat_of_zero_le hv0
  have hi : i < len := by omega
  have hc1 := (hx.cell (p := x.add i) (by rw [block_add]; exact hxb) (by rw [block_add]; exact hne)).trans (hc i hi)
  clear hc hv
  go_wp2_with fail
  exact fin_ hQ ⟨i, hi, rfl, hr, hx⟩

/-- one of a list that has just been written down. -/
theorem one_lit (g : Nat) (p : Int) (l : List Int) (n c : Nat) (T : TypeId) (cs : Array Value) (w : World) (h : Rdr w g p) (hp : p ≤ 1000000000000) (hcs : cs = (l.map (Value.int .i64)).toArray) (hn : n = l.length)
    (hl : 1 ≤ n) (hl2 : n ≤ 1000) :
    Calls Try.prog 43 #[.pointer (some ⟨g, 0, none⟩), .slice (some ⟨w.heap.size, 0, none⟩) n c] (w.alloc (.cells cs T)) fun e w' => ∃ v, v ∈ l ∧ e = .returned (.int .i64 v) ∧
      Rdr w' g (p + 1) ∧ Ext (· = g) w w' := by
  subst hcs
  have hx0 : Ext (· = g) w (w.alloc (.cells (l.map (Value.int .i64)).toArray T)) := (Ext.refl _ w).alloc _
  have hgl := h.lt
  refine (one_any g p ⟨w.heap.size, 0, none⟩ n c (fun i => l.getD i 0) _ (h.ext ((Ext.refl (fun _ => False) w).alloc _) (fun _ _ h => h)) hp hl hl2 ?_ (by simp) (by simp; omega)).mono ?_
  · intro i hi
    have ha : (⟨w.heap.size, 0, none⟩ : Addr).add i = ⟨w.heap.size, i, none⟩ := by unfold Addr.add; split <;> simp_all
    rw [ha, cell_of_row _ w.heap.size i _ T (0, 0) (heap_alloc_new w _)]
    subst hn
    simp [List.getElem?_eq_getElem hi]
  · rintro e w' ⟨i, hi, rfl, hr, hx⟩
    subst hn
    exact ⟨l.getD i 0, by simp [hi], rfl, hr, hx0.trans hx⟩

theorem Rdr.born {w : World} {a : Option Addr} {len cap : Nat} {z : Nat → Int} (h : Byt w a len z) (hl : len ≤ 2000) :
    Rdr (w.alloc (.cells #[.slice a len cap, .int .i64 0] 68)) w.heap.size 0 := by
  refine ⟨a, len, cap, z, heap_alloc_new w _, hl, h.ext ((Ext.refl (fun _ => False) w).alloc _) (fun _ _ _ h => h), ?_, by omega⟩
  intro x hax hl0
  obtain ⟨x', hx', hxb, _⟩ := h hl0
  rw [hax] at hx'
  injection hx' with hx'
  subst hx'
  omega

set_option maxHeartbeats 400000 in
theorem newReader_any (a : Option Addr) (len cap : Nat) (z : Nat → Int) (w : World) (h : Byt w a len z) (hlc : len ≤ cap) (hl : len ≤ 1048576) :
    Calls Try.prog 25 #[.slice a len cap] w fun e w' => ∃ g, w.heap.size ≤ g ∧ e = .returned (.pointer (some ⟨g, 0, none⟩)) ∧ Rdr w' g 0 ∧ Keep w w' := by
  refine calls_k fun Q hQ => ?_
  by_cases hb : len ≤ 2000
  · go_enter Try.func25, Try.ntmps25
    go_wp2
    exact fin_ hQ ⟨_, Nat.le_refl _, rfl, Rdr.born h hb, (Ext.refl _ _).alloc _⟩
  · go_enter Try.func25, Try.ntmps25
    go_wp2
    have h2 : Byt w a 2000 z := fun _ => by
      obtain ⟨x, hx, hxb, hc⟩ := h (by omega)
      exact ⟨x, hx, hxb, fun i hi => hc i (by omega)⟩
    exact fin_ hQ ⟨_, Nat.le_refl _, rfl, Rdr.born h2 (Nat.le_refl _), (Ext.refl _ _).alloc _⟩
end Go.Proofs.Ythdjijhpdgajbaa
