/- The reader of pseudo-random numbers, with a bound of the blocks that it lies in. -/
import Derived.Test.YthdjijhpdgajbaaReader
import Derived.Test.YthdjijhpdgajbaaLit
namespace Go.Proofs.Ythdjijhpdgajbaa
open Go.RowKit

/-- Block g is a reader at the place p; it and its code lie in blocks below B. -/
def Rdx (w : World) (B g : Nat) (p : Int) : Prop :=
  ∃ a len cap z, w.heap[g]? = some (.cells #[.slice a len cap, .int .i64 p] 68 (0, 0)) ∧ len ≤ 2000 ∧ Byt w a len z ∧ (∀ x, a = some x → 0 < len → x.block ≠ g ∧ x.block < B) ∧ 0 ≤ p ∧ g < B
theorem Rdx.rdr {w : World} {B g : Nat} {p : Int} (h : Rdx w B g p) : Rdr w g p := by
  obtain ⟨a, len, cap, z, hg, hl, hb, hne, hp0, _⟩ := h
  exact ⟨a, len, cap, z, hg, hl, hb, fun x hx h0 => (hne x hx h0).1, hp0⟩
theorem Rdx.gB {w : World} {B g : Nat} {p : Int} (h : Rdx w B g p) : g < B := by
  obtain ⟨_, _, _, _, _, _, _, _, _, h⟩ := h
  exact h
theorem Rdx.ext {S : Nat → Prop} {w w' : World} {B g : Nat} {p : Int} (h : Rdx w B g p) (hx : Ext S w w') (hs : ∀ k, k < B → ¬ S k) : Rdx w' B g p := by
  obtain ⟨a, len, cap, z, hg, hl, hb, hne, hp0, hgB⟩ := h
  have hlt : g < w.heap.size := (Array.getElem?_eq_some_iff.1 hg).1
  exact ⟨a, len, cap, z, (hx.block g hlt (hs g hgB)).trans hg, hl, hb.ext hx (fun x hax hl0 => hs _ (hne x hax hl0).2), hne, hp0, hgB⟩
theorem Rdx.keep {w w' : World} {B g : Nat} {p : Int} (h : Rdx w B g p) (hx : Keep w w') : Rdx w' B g p := h.ext hx (fun _ _ h => h)

theorem pickX (B g : Nat) (p n : Int) (w : World) (h : Rdx w B g p) (hp : p ≤ 1000000000000) (hn : n ≤ 1000000) :
    Calls Try.prog 30 #[.pointer (some ⟨g, 0, none⟩), .int .i64 n] w fun e w' => ∃ v : Int, e = .returned (.int .i64 v) ∧ (1 ≤ n → 0 ≤ v ∧ v < n) ∧ (n < 1 → v = 0) ∧
      Rdx w' B g (p + 1) ∧ Ext (· = g) w w' := by
  refine (pick_set g p n w h.rdr hp hn).mono ?_
  rintro e w' ⟨v, rfl, h1, h2, m, rfl⟩
  have hx : Ext (· = g) w ((w.setCell ⟨g, 1, none⟩ (.int .i64 (p + 1))).drewN m) := ((Ext.refl (· = g) w).setCell (p := ⟨g, 1, none⟩) (.inr rfl) _).drewN m
  refine ⟨v, rfl, h1, h2, ?_, hx⟩
  obtain ⟨a, len, cap, z, hg, hl, hb, hne, hp0, hgB⟩ := h
  refine ⟨a, len, cap, z, ?_, hl, hb.ext hx (fun x hx h0 => (hne x hx h0).1), hne, by omega, hgB⟩
  show (w.setCell ⟨g, 1, none⟩ (.int .i64 (p + 1))).heap[g]? = _
  simp [World.setCell, Array.getElem?_modify, hg]

set_option maxHeartbeats 400000 in
theorem oneX (B g : Nat) (p : Int) (a : Option Addr) (len cap : Nat) (xs : List Int) (D : Nat → Prop) (w : World) (h : Rdx w B g p) (hp : p ≤ 1000000000000) (hi : IntsL w D a len xs) (hl : 1 ≤ len) (hl2 : len ≤ 1000) (hD : ¬ D g) :
    Calls Try.prog 43 #[.pointer (some ⟨g, 0, none⟩), .slice a len cap] w fun e w' => ∃ v, v ∈ xs ∧ e = .returned (.int .i64 v) ∧
      Rdx w' B g (p + 1) ∧ Ext (· = g) w w' := by
  refine calls_k fun Q hQ => ?_
  obtain ⟨hlen, hc⟩ := hi
  obtain ⟨b, o, rfl, hd, hc⟩ := hc (by omega)
  have hbg : b ≠ g := fun e => hD (e ▸ hd)
  go_enter Try.func43, Try.ntmps43
  go_wp2_with fail
  refine (pickX B g p _ w h hp (by omega)).mono ?_
  rintro e w1 ⟨v, rfl, hv, _, hr, hx⟩
  obtain ⟨hv0, hv1⟩ := hv (by omega)
  obtain ⟨i, rfl⟩ := Int.eq_ofNat_of_zero_le hv0
  have hi : i < len := by omega
  have c0 := hc i hi
  have hc1 := (hx.cell (p := ⟨b, o + i, none⟩) (World.block_lt_of_cell? w _ c0) hbg).trans c0
  clear hc hv c0
  go_wp2_with fail
  exact fin_ hQ ⟨iAt xs i, by rw [iAt_get (by omega)]; exact List.getElem_mem _, rfl, hr, hx⟩

/-- one of a list that has just been written down. -/
theorem oneL (B g : Nat) (p : Int) (l : List Int) (n c : Nat) (T : TypeId) (cs : Array Value) (w : World) (h : Rdx w B g p) (hp : p ≤ 1000000000000) (hcs : cs = (l.map (Value.int .i64)).toArray) (hn : n = l.length)
    (hl : 1 ≤ n) (hl2 : n ≤ 1000) :
    Calls Try.prog 43 #[.pointer (some ⟨g, 0, none⟩), .slice (some ⟨w.heap.size, 0, none⟩) n c] (w.alloc (.cells cs T)) fun e w' => ∃ v, v ∈ l ∧ e = .returned (.int .i64 v) ∧
      Rdx w' B g (p + 1) ∧ Ext (· = g) w w' := by
  have hg := h.rdr.lt
  have hi := (lit_intsD w (fun k => k = w.heap.size) T l cs n rfl hcs hn hl2).toInts
  refine (oneX B g p _ n c l _ _ (h.keep (Keep.al _ _)) hp hi hl hl2 (by omega)).mono ?_
  rintro e w' ⟨v, h1, h2, h3, h4⟩
  exact ⟨v, h1, h2, h3, (Keep.to (Keep.al _ _)).trans h4⟩

theorem newReaderX (a : Option Addr) (len cap : Nat) (z : Nat → Int) (w : World) (h : Byt w a len z) (hlc : len ≤ cap) (hl : len ≤ 1048576) :
    Calls Try.prog 25 #[.slice a len cap] w fun e w' => ∃ g, w.heap.size ≤ g ∧ e = .returned (.pointer (some ⟨g, 0, none⟩)) ∧ Rdx w' w'.heap.size g 0 ∧ Keep w w' := by
  refine (newReader_any a len cap z w h hlc hl).mono ?_
  rintro e w' ⟨g, h1, rfl, h3, h4⟩
  have hg := h3.lt
  refine ⟨g, h1, rfl, ?_, h4⟩
  obtain ⟨a', len', cap', z', hg', hl', hb, hne, hp0⟩ := h3
  refine ⟨a', len', cap', z', hg', hl', hb, fun x hx h0 => ⟨hne x hx h0, ?_⟩, hp0, hg⟩
  obtain ⟨x', e, hxb, _⟩ := hb h0
  rw [hx] at e
  injection e with e
  subst e
  exact hxb
end Go.Proofs.Ythdjijhpdgajbaa
