/- What the laws on inhabited types draw. -/
import Derived.Test.YthdjijhpdgajbaaDrawDecl
namespace Go.Proofs.Ythdjijhpdgajbaa
open Go.RowKit

theorem AccR.drawn2 {w0 w w3 w' : World} {g base : Nat} {D : Nat → Prop} {T : TypeId} {v : Value} {ds : List DeclL} (h : AccR w' base D T 3 v (ds.map rowD)) (hl : ds.length ≤ 6) (h0 : Keep w0 w) (h1 : Ext (· = g) w w3) (hx : Ext (· = g) w3 w') (hg : w0.heap.size ≤ g) : Drawn w0 w' v := h.drawn hl h0 (h1.trans hx) hg

set_option maxRecDepth 100000 in
set_option maxHeartbeats 4000000 in
theorem DrawInhabited_any (a : Option Addr) (len cap : Nat) (zb : Nat → Int) (w0 : World) (h0 : Byt w0 a len zb) (hlc : len ≤ cap) (hl : len ≤ 1048576) :
    Calls Try.prog 10 #[.slice a len cap] w0 fun e w' => ∃ v, e = .returned v ∧ Drawn w0 w' v := by
  refine calls_k fun Q hQ => ?_
  go_enter Try.func10, Try.ntmps10
  go_wp2_with fail
  refine (newReaderX a len cap zb w0 h0 hlc hl).mono ?_
  rintro e w ⟨g, hg, rfl, h, k1⟩
  have hgB := h.gB
  clear h0 hl
  go_wp2_with fail
  refine (goodDecls_any w.heap.size g 0 w h (Nat.le_refl _) (by omega)).mono ?_
  rintro e w1 ⟨v, kk, _, _, rfl, hA, hr, x1⟩
  have hds := goodD_len kk
  generalize goodD kk = ds at hds hA
  have hl : (ds.map rowD).length = ds.length := by simp
  obtain ⟨b, c, rfl, hb1, hb2, hnc, hcm, _, _⟩ := hA.open (by omega)
  generalize hn : (ds.map rowD).length = n at hA hnc
  have HN : Hid (n = ds.length) := by show n = ds.length; omega
  have hn3 : 3 ≤ n := by omega
  have hn4 : n ≤ 4 := by omega
  clear hn hl hds
  have z1 := x1.size
  go_wp2_with fail
  refine (pickX w.heap.size g _ _ _ hr (by omega) (by omega)).mono ?_
  rintro e w2 ⟨k, rfl, hk, _, hr2, x2⟩
  obtain ⟨hk0, hk1⟩ := hk (by omega)
  obtain ⟨k, rfl⟩ := Int.eq_ofNat_of_zero_le hk0
  replace hk1 : k < n := by omega
  clear hk hk0
  have z2 := x2.size
  go_wp2_with fail
  refine (pickX w.heap.size g _ _ _ hr2 (by omega) (by omega)).mono ?_
  rintro e w3 ⟨z, rfl, hz, _, hrw3, x3⟩
  obtain ⟨hz0, hz1⟩ := hz (by omega)
  clear hz
  have z3 := x3.size
  have x13 := (x1.trans x2).trans x3
  have hS : ∀ q : Nat, (w.heap.size ≤ q ∨ w.heap.size ≤ q) → ¬ q = g := fun q hq => by omega
  replace hA := hA.ext (x2.trans x3) (fun q _ hq' => hS q hq')
  have hb3 : b < w3.heap.size := by omega
  clear x1 x2 x3 hr hr2 h
  have hkl : k < (ds.map rowD).length := by have := HN.out; simp; omega
  have hkd : k < ds.length := by have := HN.out; omega
  have hlen : ds.length ≤ 4 ∧ 3 ≤ ds.length := by have := HN.out; omega
  have hbs : w.heap.size ≤ w3.heap.size := by omega
  by_cases y0 : z = 0
  · subst y0
    go_wp2_with fail
    refine (con_any _ _ _ _).mono ?_
    rintro e w5 ⟨rfl, kw5⟩
    have zw5 := kw5.size
    simp at zw5
    have kk := (Keep.al _ _).trans kw5
    have iw5 := (lit_intsD w3 (fun q => w.heap.size ≤ q ∧ q ≠ b) 3 [(k : Int) + 1] _ 1 (by omega) rfl rfl (by omega)).k kw5
    replace hA := hA.keep kk
    have hrw5 := hrw3.keep kk
    have xw5 : Ext (· = g) w3 w5 := Keep.to kk
    clear kk
    have hc := lit_consD w5 (fun q => w.heap.size ≤ q ∧ q ≠ b) 34 [[(k : Int) + 1]] [_] 1 (by omega) ⟨_, _, rfl, iw5, rfl⟩ rfl (by omega)
    replace hA := hA.keep (Keep.al w5 (.cells #[.slice (some ⟨w3.heap.size, 0, none⟩) 1 1] 34))
    obtain ⟨⟨u0, c0⟩, ⟨u1, c1⟩, ⟨u2, c2⟩, g0, g1, g2⟩ := hA.slot hkl
    go_wp2_with fail
    have xe := (Keep.to (S := fun q => q = b) (Keep.al w5 (.cells #[.slice (some ⟨w3.heap.size, 0, none⟩) 1 1] 34))).trans (put3x _ b (k * 3) (.int .i64 0) (.int .i64 0) (.slice (some ⟨w5.heap.size, 0, none⟩) 1 1))
    exact fin_ hQ ⟨_, rfl, AccR.drawn (ds := ds.set k ⟨0, 0, [[(k : Int) + 1]]⟩) (hA.putD rfl hkd hc) (by simp; omega) k1 ((x13.trans xw5).then_ xe (fun q hq e => by omega)) hg⟩
  have t0 : ((z : Int) == 0) = false := beq_eq_false_iff_ne.2 y0
  clear y0
  by_cases y1 : z = 1
  · subst y1
    go_wp2_with fail
    refine (con_any _ _ _ _).mono ?_
    rintro e w5 ⟨rfl, kw5⟩
    have zw5 := kw5.size
    simp at zw5
    have kk := (Keep.al _ _).trans kw5
    have iw5 := (lit_intsD w3 (fun q => w.heap.size ≤ q ∧ q ≠ b) 3 [3] _ 1 (by omega) rfl rfl (by omega)).k kw5
    replace hA := hA.keep kk
    have hrw5 := hrw3.keep kk
    have xw5 : Ext (· = g) w3 w5 := Keep.to kk
    clear kk
    go_wp2_with fail
    refine (con_any _ _ _ _).mono ?_
    rintro e w6 ⟨rfl, kw6⟩
    have zw6 := kw6.size
    simp at zw6
    have kk := (Keep.al _ _).trans kw6
    replace iw5 := iw5.k kk
    have iw6 := (lit_intsD w5 (fun q => w.heap.size ≤ q ∧ q ≠ b) 3 [1, 1] _ 2 (by omega) rfl rfl (by omega)).k kw6
    replace hA := hA.keep kk
    have hrw6 := hrw5.keep kk
    have xw6 : Ext (· = g) w5 w6 := Keep.to kk
    clear kk
    have hc := lit_consD w6 (fun q => w.heap.size ≤ q ∧ q ≠ b) 34 [[3], [1, 1]] [_, _] 2 (by omega) ⟨_, _, rfl, iw5, _, _, rfl, iw6, rfl⟩ rfl (by omega)
    replace hA := hA.keep (Keep.al w6 (.cells #[.slice (some ⟨w3.heap.size, 0, none⟩) 1 1, .slice (some ⟨w5.heap.size, 0, none⟩) 2 2] 34))
    obtain ⟨⟨u0, c0⟩, ⟨u1, c1⟩, ⟨u2, c2⟩, g0, g1, g2⟩ := hA.slot (k := 0) (by omega)
    simp only [Nat.zero_mul, Nat.zero_add] at c0 c1 c2 g0 g1 g2
    have xe := (Keep.to (S := fun q => q = b) (Keep.al w6 (.cells #[.slice (some ⟨w3.heap.size, 0, none⟩) 1 1, .slice (some ⟨w5.heap.size, 0, none⟩) 2 2] 34))).trans (put3x _ b (0 * 3) (.int .i64 0) (.int .i64 0) (.slice (some ⟨w6.heap.size, 0, none⟩) 2 2))
    have hA1 := hA.putD (k := 0) (f := 0) (t := 0) rfl (by omega) hc
    have hrw7 := hrw6.ext xe (fun q hq e => by omega)
    have xw7 := ((x13.trans xw5).trans xw6).then_ xe (fun q hq e => by omega)
    simp only [Nat.zero_mul, Nat.zero_add] at hA1 hrw7 xw7
    have HA1 := Lib.hid hA1; have HR7 := Lib.hid hrw7; have HX7 := Lib.hid xw7
    clear hA hc xe hA1 hrw7 xw7
    go_wp2_with fail
    have hA := HA1.out; have hrw7 := HR7.out; have xw7 := HX7.out
    clear c0 c1 c2 g0 g1 g2 HA1 HR7 HX7
    generalize hW7 : World.setCell (World.setCell (World.setCell (w6.alloc (.cells #[.slice (some ⟨w3.heap.size, 0, none⟩) 1 1, .slice (some ⟨w5.heap.size, 0, none⟩) 2 2] 34)) ⟨b, 0, none⟩ (.int .i64 0)) ⟨b, 1, none⟩ (.int .i64 0)) ⟨b, 2, none⟩ (.slice (some ⟨w6.heap.size, 0, none⟩) 2 2) = w7 at *
    have zw7 : w6.heap.size + 1 = w7.heap.size := by rw [← hW7]; simp [World.setCell]
    clear hW7
    go_wp2_with fail
    refine (con_any _ _ _ _).mono ?_
    rintro e w8 ⟨rfl, kw8⟩
    have zw8 := kw8.size
    simp at zw8
    have kk := (Keep.al _ _).trans kw8
    have iw8 := (lit_intsD w7 (fun q => w.heap.size ≤ q ∧ q ≠ b) 3 [1, 0] _ 2 (by omega) rfl rfl (by omega)).k kw8
    replace hA := hA.keep kk
    have hrw8 := hrw7.keep kk
    have xw8 : Ext (· = g) w7 w8 := Keep.to kk
    clear kk
    have hc := lit_consD w8 (fun q => w.heap.size ≤ q ∧ q ≠ b) 34 [[1, 0]] [_] 1 (by omega) ⟨_, _, rfl, iw8, rfl⟩ rfl (by omega)
    replace hA := hA.keep (Keep.al w8 (.cells #[.slice (some ⟨w7.heap.size, 0, none⟩) 2 2] 34))
    obtain ⟨⟨u0, c0⟩, ⟨u1, c1⟩, ⟨u2, c2⟩, g0, g1, g2⟩ := hA.slot (k := 2) (by simp; omega)
    simp only [Nat.reduceMul, Nat.reduceAdd] at c0 c1 c2 g0 g1 g2
    go_wp2_with fail
    have xe := (Keep.to (S := fun q => q = b) (Keep.al w8 (.cells #[.slice (some ⟨w7.heap.size, 0, none⟩) 2 2] 34))).trans (put3x _ b (2 * 3) (.int .i64 0) (.int .i64 0) (.slice (some ⟨w8.heap.size, 0, none⟩) 1 1))
    exact fin_ hQ ⟨_, rfl, AccR.drawn (ds := (ds.set 0 ⟨0, 0, [[3], [1, 1]]⟩).set 2 ⟨0, 0, [[1, 0]]⟩) (hA.putD (k := 2) rfl (by simp; omega) hc) (by simp; omega) k1 ((xw7.trans xw8).then_ xe (fun q hq e => by omega)) hg⟩
  have t1 : ((z : Int) == 1) = false := beq_eq_false_iff_ne.2 y1
  clear y1
  by_cases y2 : z = 2
  · subst y2
    go_wp2_with fail
    refine (anyDecls_any w.heap.size g _ w3 hrw3 (by omega) (by omega)).mono ?_
    rintro e w4 ⟨v4, ds4, p', hl6, _, rfl, hA4, _, _, x4⟩
    go_wp2_with fail
    exact fin_ hQ ⟨v4, rfl, hA4.drawn2 hl6 k1 x13 x4 hg⟩
  have t2 : ((z : Int) == 2) = false := beq_eq_false_iff_ne.2 y2
  clear y2
  go_wp2_with fail
  exact fin_ hQ ⟨_, rfl, AccR.drawn (ds := ds) hA (by omega) k1 x13 hg⟩
end Go.Proofs.Ythdjijhpdgajbaa
