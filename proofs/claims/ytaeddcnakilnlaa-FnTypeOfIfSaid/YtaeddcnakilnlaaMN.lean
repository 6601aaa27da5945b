/- The reader of pseudo-random numbers: newReader, pick and one, for every code. -/
import Derived.Test.YtaeddcnakilnlaaMGA
import Derived.ChangeOld
import Derived.ShutString
namespace Go.Proofs.Ytaeddcnakilnlaa
open Go.RowKit

/-- Bytes that can be read. -/
def Byt (w : World) (a : Option Addr) (len : Nat) (z : Nat → Int) : Prop :=
  0 < len → ∃ x, a = some x ∧ x.block < w.heap.size ∧ ∀ i, i < len → w.cell? (x.add i) = some (.int .u8 (z i)) ∧ 0 ≤ z i ∧ z i < 256

/-- Block g is a reader at the place p. -/
def Rdr (w : World) (g : Nat) (p : Int) : Prop :=
  ∃ a len cap z, w.heap[g]? = some (.cells #[.slice a len cap, .int .i64 p] 150 (0, 0)) ∧ len ≤ 2000 ∧ Byt w a len z ∧ (∀ x, a = some x → 0 < len → x.block ≠ g) ∧ 0 ≤ p

theorem xor_nonneg (x y : Int) (hx : 0 ≤ x) (hx2 : x < 4611686018427387904) (hy : 0 ≤ y) (hy2 : y < 4611686018427387904) : 0 ≤ bits BinOp.xor IntKind.i64 x y := by
  obtain ⟨a, rfl⟩ := Int.eq_ofNat_of_zero_le hx
  obtain ⟨b, rfl⟩ := Int.eq_ofNat_of_zero_le hy
  have hxx : a ^^^ b < 2 ^ 62 := Nat.xor_lt_two_pow (by omega) (by omega)
  have h1 : (BitVec.ofInt 64 (a : Int)).toNat = a := by
    rw [BitVec.ofInt_natCast, BitVec.toNat_ofNat]; exact Nat.mod_eq_of_lt (by omega)
  have h2 : (BitVec.ofInt 64 (b : Int)).toNat = b := by
    rw [BitVec.ofInt_natCast, BitVec.toNat_ofNat]; exact Nat.mod_eq_of_lt (by omega)
  show 0 ≤ IntKind.i64.wrap ((BitVec.ofInt 64 (a : Int) ^^^ BitVec.ofInt 64 (b : Int)).toNat : Int)
  rw [BitVec.toNat_xor, h1, h2]
  simp [IntKind.wrap, IntKind.bits, IntKind.signed]
  omega

set_option maxHeartbeats 800000 in
theorem pick_set (g : Nat) (p n : Int) (w : World) (h : Rdr w g p) (hp : p ≤ 1000000000000) (hn : n ≤ 1000000) :
    Calls Try.prog 67 #[.pointer (some ⟨g, 0, none⟩), .int .i64 n] w fun e w' => ∃ v : Int, e = .returned (.int .i64 v) ∧ (1 ≤ n → 0 ≤ v ∧ v < n) ∧ (n < 1 → v = 0) ∧
      ∃ m, w' = (w.setCell ⟨g, 1, none⟩ (.int .i64 (p + 1))).drewN m := by
  refine calls_k fun Q hQ => ?_
  obtain ⟨a, len, cap, z, hg, hl, hb, hne, hp0⟩ := h
  have c0 : w.cell? ⟨g, 0, none⟩ = some (.slice a len cap) := by simp [World.cell?, hg]
  have c1 : w.cell? ⟨g, 1, none⟩ = some (.int .i64 p) := by simp [World.cell?, hg]
  have f1 : w.frozen? ⟨g, 1, none⟩ = false := by simp [World.frozen?, hg]
  by_cases hn1 : n < 1
  · go_enter Try.func67, Try.ntmps67
    go_wp2
    exact fin_ hQ ⟨0, rfl, fun h => absurd h (by omega), fun _ => rfl, 0, rfl⟩
  by_cases hlen : len = 0
  · subst hlen
    go_enter Try.func67, Try.ntmps67
    go_wp2
    exact fin_ hQ ⟨0, rfl, fun h => by omega, fun _ => rfl, 0, rfl⟩
  obtain ⟨x, rfl, hxb, hx⟩ := hb (by omega)
  have hxg := hne x rfl (by omega)
  have hlb : ((len : Int) == 0) = false := by simp; omega
  obtain ⟨q, rfl⟩ := Int.eq_ofNat_of_zero_le hp0
  have hcell : ∀ i, i < len → (w.setCell ⟨g, 1, none⟩ (.int .i64 ((q : Int) + 1))).cell? (x.add i) = some (.int .u8 (z i)) := by
    intro i hi
    have : (w.setCell ⟨g, 1, none⟩ (.int .i64 ((q : Int) + 1))).cell? (x.add i) = w.cell? (x.add i) :=
      World.cell?_setCell_other w _ _ _ (by intro e; have : (x.add i).block = g := by rw [← e]
                                            unfold Addr.add at this; split at this <;> exact hxg this)
    rw [this]; exact (hx i hi).1
  by_cases hk : q < len
  · have c2 := hcell q hk
    obtain ⟨_, z1, z2⟩ := hx q hk
    clear hx hcell hne hg hb
    go_enter Try.func67, Try.ntmps67
    go_wp2
    exact fin_ hQ ⟨z q % n, rfl, fun h => ⟨Int.emod_nonneg _ (by omega), Int.emod_lt_of_pos _ (by omega)⟩, fun h => absurd h (by omega), 0, rfl⟩
  obtain ⟨k1, hk1⟩ : ∃ k1, k1 = q % len := ⟨_, rfl⟩
  obtain ⟨k2, hk2⟩ : ∃ k2, k2 = (q * 7 + 3) % len := ⟨_, rfl⟩
  obtain ⟨k3, hk3⟩ : ∃ k3, k3 = q / len := ⟨_, rfl⟩
  have lk1 : k1 < len := by rw [hk1]; exact Nat.mod_lt _ (by omega)
  have lk2 : k2 < len := by rw [hk2]; exact Nat.mod_lt _ (by omega)
  have lk3 : k3 ≤ q := by rw [hk3]; exact Nat.div_le_self _ _
  have e1 : ((q : Int)).tmod (len : Int) = (k1 : Int) := by rw [Int.tmod_eq_emod_of_nonneg (by omega), hk1, Int.natCast_emod]
  have e2 : ((q : Int) * 7 + 3).tmod (len : Int) = (k2 : Int) := by rw [Int.tmod_eq_emod_of_nonneg (by omega), hk2, Int.natCast_emod]; rfl
  have e3 : ((q : Int)).tdiv (len : Int) = (k3 : Int) := by rw [Int.tdiv_eq_ediv_of_nonneg (by omega), hk3, Int.natCast_ediv]
  have d1 := hcell k1 lk1
  have d2 := hcell k2 lk2
  obtain ⟨_, y1, y2⟩ := hx k1 lk1
  obtain ⟨_, y3, y4⟩ := hx k2 lk2
  clear hk1 hk2 hk3 hx hcell hne hg hb
  go_enter Try.func67, Try.ntmps67
  go_wp2
  go_quiet (fail)
  generalize hX : z k1 * 131 + z k2 * 1117 + (q : Int) * 29 + (k3 : Int) * 53 = X
  have X0 : 0 ≤ X := by omega
  have X1 : X < 4611686018427387904 := by omega
  clear hX d1 d2 e1 e2 e3
  have X2 := xor_nonneg X (X / 64) X0 X1 (by omega) (by omega)
  go_wp2
  exact fin_ hQ ⟨bits BinOp.xor IntKind.i64 X (X / 64) % n, rfl, fun h => ⟨Int.emod_nonneg _ (by omega), Int.emod_lt_of_pos _ (by omega)⟩, fun h => absurd h (by omega), nq, rfl⟩

theorem Byt.ext {S : Nat → Prop} {w w' : World} {a : Option Addr} {len : Nat} {z : Nat → Int} (h : Byt w a len z) (hx : Ext S w w') (hs : ∀ x, a = some x → 0 < len → ¬ S x.block) : Byt w' a len z := by
  intro hl
  obtain ⟨x, rfl, hb, hc⟩ := h hl
  exact ⟨x, rfl, Nat.lt_of_lt_of_le hb hx.size, fun i hi => ⟨(hx.cell (by rw [block_add]; exact hb) (by rw [block_add]; exact hs x rfl hl)).trans (hc i hi).1, (hc i hi).2⟩⟩

theorem Rdr.lt {w : World} {g : Nat} {p : Int} (h : Rdr w g p) : g < w.heap.size := by
  obtain ⟨a, len, cap, z, hg, _⟩ := h
  exact (Array.getElem?_eq_some_iff.1 hg).1
theorem Rdr.born {w : World} {a : Option Addr} {len cap : Nat} {z : Nat → Int} (h : Byt w a len z) (hl : len ≤ 2000) :
    Rdr (w.alloc (.cells #[.slice a len cap, .int .i64 0] 150)) w.heap.size 0 := by
  refine ⟨a, len, cap, z, heap_alloc_new w _, hl, h.ext ((Ext.refl (fun _ => False) w).alloc _) (fun _ _ _ h => h), ?_, by omega⟩
  intro x hax hl0
  obtain ⟨x', hx', hxb, _⟩ := h hl0
  rw [hax] at hx'
  injection hx' with hx'
  subst hx'
  omega

set_option maxHeartbeats 400000 in
theorem newReader_any (a : Option Addr) (len cap : Nat) (z : Nat → Int) (w : World) (h : Byt w a len z) (hlc : len ≤ cap) (hl : len ≤ 1048576) :
    Calls Try.prog 64 #[.slice a len cap] w fun e w' => ∃ g, w.heap.size ≤ g ∧ e = .returned (.pointer (some ⟨g, 0, none⟩)) ∧ Rdr w' g 0 ∧ Keep w w' := by
  refine calls_k fun Q hQ => ?_
  by_cases hb : len ≤ 2000
  · go_enter Try.func64, Try.ntmps64
    go_wp2
    exact fin_ hQ ⟨_, Nat.le_refl _, rfl, Rdr.born h hb, (Ext.refl _ _).alloc _⟩
  · go_enter Try.func64, Try.ntmps64
    go_wp2
    have h2 : Byt w a 2000 z := fun _ => by
      obtain ⟨x, hx, hxb, hc⟩ := h (by omega)
      exact ⟨x, hx, hxb, fun i hi => hc i (by omega)⟩
    exact fin_ hQ ⟨_, Nat.le_refl _, rfl, Rdr.born h2 (Nat.le_refl _), (Ext.refl _ _).alloc _⟩
end Go.Proofs.Ytaeddcnakilnlaa
/- A law over a code of bytes: from the reading of the code to bytes that can be read. -/
namespace Go.Proofs.Ytaeddcnakilnlaa
open Go.RowKit

/-- What is known of a slice of integers that came in: it is nil, or it leads to a row of cells that hold integers that fit. -/
def IsRow (k : IntKind) (w : World) (a : Option Addr) (len cap : Nat) (zs : List Int) : Prop :=
  (a = none ∧ len = 0 ∧ cap = 0 ∧ zs = []) ∨
  ∃ x, a = some x ∧ len ≤ cap ∧ cap ≤ maxLen ∧ zs.length = cap ∧ (∀ i, i < zs.length → w.cell? (x.add i) = some (.int k (zs.getD i 0))) ∧ ∀ n ∈ zs, (Lit.int k n).wf = true

theorem byt_of_row {w : World} {a : Option Addr} {len cap : Nat} {zs : List Int} (h : IsRow .u8 w a len cap zs) : Byt w a len (fun i => zs.getD i 0) ∧ len ≤ cap := by
  rcases h with ⟨_, rfl, rfl, _⟩ | ⟨x, rfl, hl, _, hz, hc, hw⟩
  · exact ⟨fun h => absurd h (by omega), Nat.le_refl _⟩
  · refine ⟨fun h0 => ⟨x, rfl, ?_, fun i hi => ⟨hc i (by omega), ?_⟩⟩, hl⟩
    · have := World.block_lt_of_cell? w _ (hc 0 (by omega))
      rwa [block_add] at this
    · have hm : zs.getD i 0 ∈ zs := by
        have hi' : i < zs.length := by omega
        simp [List.getD, List.getElem?_eq_getElem hi']
      have := hw _ hm
      show 0 ≤ zs.getD i 0 ∧ zs.getD i 0 < 256
      generalize zs.getD i 0 = v at this ⊢
      simp [Lit.wf, IntKind.min, IntKind.max, IntKind.signed, IntKind.bits] at this
      omega

theorem law_bytes {P : Program} {f : FuncId} (core : ∀ (a : Option Addr) (len cap : Nat) (z : Nat → Int) (w : World), Byt w a len z → len ≤ cap →
      Calls P f #[.slice a len cap] w fun e w' => e = .returned (.bool true) ∧ Keep w w')
    {a : Option Addr} {len cap : Nat} {zs : List Int} {w : World} (h : IsRow .u8 w a len cap zs) :
    Calls P f #[.slice a len cap] w fun e w' => e = .returned (.bool true) ∧ Below w.heap.size w w' :=
  (core a len cap _ w (byt_of_row h).1 (byt_of_row h).2).mono fun _ _ ⟨he, hk⟩ => ⟨he, hk.below (Nat.le_refl _) (fun _ _ h => h)⟩
end Go.Proofs.Ytaeddcnakilnlaa
/- The reader of pseudo-random numbers, with a bound of the blocks that it lies in. -/
namespace Go.Proofs.Ytaeddcnakilnlaa
open Go.RowKit

/-- Block g is a reader at the place p; it and its code lie in blocks below B. -/
def Rdx (w : World) (B g : Nat) (p : Int) : Prop :=
  ∃ a len cap z, w.heap[g]? = some (.cells #[.slice a len cap, .int .i64 p] 150 (0, 0)) ∧ len ≤ 2000 ∧ Byt w a len z ∧ (∀ x, a = some x → 0 < len → x.block ≠ g ∧ x.block < B) ∧ 0 ≤ p ∧ g < B
theorem Rdx.rdr {w : World} {B g : Nat} {p : Int} (h : Rdx w B g p) : Rdr w g p := by
  obtain ⟨a, len, cap, z, hg, hl, hb, hne, hp0, _⟩ := h
  exact ⟨a, len, cap, z, hg, hl, hb, fun x hx h0 => (hne x hx h0).1, hp0⟩
theorem Rdx.gB {w : World} {B g : Nat} {p : Int} (h : Rdx w B g p) : g < B := by
  obtain ⟨_, _, _, _, _, _, _, _, _, h⟩ := h
  exact h
theorem Rdx.ext {S : Nat → Prop} {w w' : World} {B g : Nat} {p : Int} (h : Rdx w B g p) (hx : Ext S w w') (hs : ∀ k, k < B → ¬ S k) : Rdx w' B g p := by
  obtain ⟨a, len, cap, z, hg, hl, hb, hne, hp0, hgB⟩ := h
  have hlt : g < w.heap.size := (Array.getElem?_eq_some_iff.1 hg).1
  exact ⟨a, len, cap, z, (hx.block g hlt (hs g hgB)).trans hg, hl, hb.ext hx (fun x hax hl0 => hs _ (hne x hax hl0).2), hne, hp0, hgB⟩
theorem Rdx.keep {w w' : World} {B g : Nat} {p : Int} (h : Rdx w B g p) (hx : Keep w w') : Rdx w' B g p := h.ext hx (fun _ _ h => h)

theorem pickX (B g : Nat) (p n : Int) (w : World) (h : Rdx w B g p) (hp : p ≤ 1000000000000) (hn : n ≤ 1000000) :
    Calls Try.prog 67 #[.pointer (some ⟨g, 0, none⟩), .int .i64 n] w fun e w' => ∃ v : Int, e = .returned (.int .i64 v) ∧ (1 ≤ n → 0 ≤ v ∧ v < n) ∧ (n < 1 → v = 0) ∧
      Rdx w' B g (p + 1) ∧ Ext (· = g) w w' := by
  refine (pick_set g p n w h.rdr hp hn).mono ?_
  rintro e w' ⟨v, rfl, h1, h2, m, rfl⟩
  have hx : Ext (· = g) w ((w.setCell ⟨g, 1, none⟩ (.int .i64 (p + 1))).drewN m) := ((Ext.refl (· = g) w).setCell (p := ⟨g, 1, none⟩) (.inr rfl) _).drewN m
  refine ⟨v, rfl, h1, h2, ?_, hx⟩
  obtain ⟨a, len, cap, z, hg, hl, hb, hne, hp0, hgB⟩ := h
  refine ⟨a, len, cap, z, ?_, hl, hb.ext hx (fun x hx h0 => (hne x hx h0).1), hne, by omega, hgB⟩
  show (w.setCell ⟨g, 1, none⟩ (.int .i64 (p + 1))).heap[g]? = _
  simp [World.setCell, Array.getElem?_modify, hg]

set_option maxHeartbeats 400000 in
theorem oneX (B g : Nat) (p : Int) (a : Option Addr) (len cap : Nat) (xs : List Int) (D : Nat → Prop) (w : World) (h : Rdx w B g p) (hp : p ≤ 1000000000000) (hi : IntsL w D a len xs) (hl : 1 ≤ len) (hl2 : len ≤ 1000) (hD : ¬ D g) :
    Calls Try.prog 69 #[.pointer (some ⟨g, 0, none⟩), .slice a len cap] w fun e w' => ∃ v, v ∈ xs ∧ e = .returned (.int .i64 v) ∧
      Rdx w' B g (p + 1) ∧ Ext (· = g) w w' := by
  refine calls_k fun Q hQ => ?_
  obtain ⟨hlen, hc⟩ := hi
  obtain ⟨b, o, rfl, hd, hc⟩ := hc (by omega)
  have hbg : b ≠ g := fun e => hD (e ▸ hd)
  go_enter Try.func69, Try.ntmps69
  go_wp2_with fail
  refine (pickX B g p _ w h hp (by omega)).mono ?_
  rintro e w1 ⟨v, rfl, hv, _, hr, hx⟩
  obtain ⟨hv0, hv1⟩ := hv (by omega)
  obtain ⟨i, rfl⟩ := Int.eq_ofNat_of_zero_le hv0
  have hi : i < len := by omega
  have c0 := hc i hi
  have hc1 := (hx.cell (p := ⟨b, o + i, none⟩) (World.block_lt_of_cell? w _ c0) hbg).trans c0
  clear hc hv c0
  go_wp2_with fail
  exact fin_ hQ ⟨iAt xs i, by rw [iAt_get (by omega)]; exact List.getElem_mem _, rfl, hr, hx⟩

/-- one of a list that has just been written down. -/
theorem oneL (B g : Nat) (p : Int) (l : List Int) (n c : Nat) (T : TypeId) (cs : Array Value) (w : World) (h : Rdx w B g p) (hp : p ≤ 1000000000000) (hcs : cs = (l.map (Value.int .i64)).toArray) (hn : n = l.length)
    (hl : 1 ≤ n) (hl2 : n ≤ 1000) :
    Calls Try.prog 69 #[.pointer (some ⟨g, 0, none⟩), .slice (some ⟨w.heap.size, 0, none⟩) n c] (w.alloc (.cells cs T)) fun e w' => ∃ v, v ∈ l ∧ e = .returned (.int .i64 v) ∧
      Rdx w' B g (p + 1) ∧ Ext (· = g) w w' := by
  have hg := h.rdr.lt
  have hi := (lit_intsD w (fun k => k = w.heap.size) T l cs n rfl hcs hn hl2).toInts
  refine (oneX B g p _ n c l _ _ (h.keep (Keep.al _ _)) hp hi hl hl2 (by omega)).mono ?_
  rintro e w' ⟨v, h1, h2, h3, h4⟩
  exact ⟨v, h1, h2, h3, (Keep.to (Keep.al _ _)).trans h4⟩

theorem newReaderX (a : Option Addr) (len cap : Nat) (z : Nat → Int) (w : World) (h : Byt w a len z) (hlc : len ≤ cap) (hl : len ≤ 1048576) :
    Calls Try.prog 64 #[.slice a len cap] w fun e w' => ∃ g, w.heap.size ≤ g ∧ e = .returned (.pointer (some ⟨g, 0, none⟩)) ∧ Rdx w' w'.heap.size g 0 ∧ Keep w w' := by
  refine (newReader_any a len cap z w h hlc hl).mono ?_
  rintro e w' ⟨g, h1, rfl, h3, h4⟩
  have hg := h3.lt
  refine ⟨g, h1, rfl, ?_, h4⟩
  obtain ⟨a', len', cap', z', hg', hl', hb, hne, hp0⟩ := h3
  refine ⟨a', len', cap', z', hg', hl', hb, fun x hx h0 => ⟨hne x hx h0, ?_⟩, hp0, hg⟩
  obtain ⟨x', e, hxb, _⟩ := hb h0
  rw [hx] at e
  injection e with e
  subst e
  exact hxb
end Go.Proofs.Ytaeddcnakilnlaa
