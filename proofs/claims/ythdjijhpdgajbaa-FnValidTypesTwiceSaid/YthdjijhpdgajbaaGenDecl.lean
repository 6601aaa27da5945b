/- The generator of declarations: con, goodDecls, anyDecls. -/
import Derived.Test.YthdjijhpdgajbaaLit
import Derived.Test.YthdjijhpdgajbaaRdx
import Derived.Test.YthdjijhpdgajbaaAppR
import Derived.Test.YthdjijhpdgajbaaTypes3
namespace Go.Proofs.Ythdjijhpdgajbaa
open Go.RowKit

theorem con_any (a : Option Addr) (n c : Nat) (w : World) :
    Calls Try.prog 31 #[.slice a n c] w fun e w' => e = .returned (.agg #[.slice a n c]) ∧ Keep w w' := by
  refine calls_k fun Q hQ => ?_
  go_enter Try.func31, Try.ntmps31
  go_wp2
  refine bodyPost_ret (v := .agg #[.slice a n c]) (by simp [results, Try.results31, go_sem]) rfl (fin_ hQ ⟨rfl, (Ext.refl _ _).alloc _⟩)

def listD : DeclL := ⟨0, 0, [[], [0, 1]]⟩
def treeD : DeclL := ⟨0, 0, [[], [3, 0, 3]]⟩
def lastD (k : Int) : DeclL := if k = 0 then ⟨0, 0, [[1, 3]]⟩ else if k = 1 then ⟨1, 0, []⟩ else if k = 2 then ⟨0, 0, [[1, 1, 0], [0], [3]]⟩ else ⟨0, 1, []⟩
/-- The valid declarations that are generated. -/
def goodD (k : Int) : List DeclL := if k < 4 then [listD, ⟨0, 0, []⟩, treeD, lastD k] else [listD, ⟨0, 0, []⟩, treeD]

set_option maxRecDepth 100000 in
set_option maxHeartbeats 1000000 in
theorem goodDecls_any (B g : Nat) (p : Int) (w : World) (h : Rdx w B g p) (hBw : B ≤ w.heap.size) (hp : p ≤ 900000000000) :
    Calls Try.prog 29 #[.pointer (some ⟨g, 0, none⟩)] w fun e w' => ∃ (v : Value) (k : Int), 0 ≤ k ∧ k < 5 ∧ e = .returned v ∧ AccR w' w.heap.size (fun b => w.heap.size ≤ b) 28 3 v ((goodD k).map rowD) ∧
      Rdx w' B g (p + 1) ∧ Ext (· = g) w w' := by
  refine calls_k fun Q hQ => ?_
  have hB := Nat.le_refl w.heap.size
  have hgB := h.gB
  go_enter Try.func29, Try.ntmps29
  go_wp2_with fail
  refine (con_any _ _ _ _).mono ?_
  rintro e w1 ⟨rfl, k1⟩
  have s1 := k1.size
  simp at s1
  have kk : Keep w w1 := (Keep.al _ _).trans (k1)
  clear kk
  have c1 := (lit_ints _ w.heap.size 3 [] _ 0 (by omega) rfl rfl (by omega)).k k1
  go_wp2_with fail
  refine (con_any _ _ _ _).mono ?_
  rintro e w2 ⟨rfl, k2⟩
  have s2 := k2.size
  simp at s2
  have kk : Keep w1 w2 := (Keep.al _ _).trans (k2)
  replace c1 := c1.k kk
  clear kk
  have c2 := (lit_ints _ w.heap.size 3 [0, 1] _ 2 (by omega) rfl rfl (by omega)).k k2
  have d1 := lit_cons w2 w.heap.size 34 [[], [0, 1]] [_, _] 2 (by omega) ⟨_, _, rfl, c1, _, _, rfl, c2, rfl⟩ rfl (by omega)
  clear c1 c2
  go_wp2_with fail
  refine (con_any _ _ _ _).mono ?_
  rintro e w3 ⟨rfl, k3⟩
  have s3 := k3.size
  simp at s3
  replace d1 := d1.k ((Keep.al _ _).trans ((Keep.al _ _).trans k3))
  have b1 := (Keep.al _ _).trans k3
  have c3 := (lit_ints _ w.heap.size 3 [] _ 0 (by simp; omega) rfl rfl (by omega)).k k3
  simp at c3
  go_wp2_with fail
  refine (con_any _ _ _ _).mono ?_
  rintro e w4 ⟨rfl, k4⟩
  have s4 := k4.size
  simp at s4
  have kk : Keep w3 w4 := (Keep.al _ _).trans (k4)
  replace d1 := d1.k kk
  replace c3 := c3.k kk
  clear kk
  have c4 := (lit_ints _ w.heap.size 3 [3, 0, 3] _ 3 (by omega) rfl rfl (by omega)).k k4
  replace b1 := b1.trans ((Keep.al _ _).trans k4)
  have d2 := lit_cons w4 w.heap.size 34 [[], [3, 0, 3]] [_, _] 2 (by omega) ⟨_, _, rfl, c3, _, _, rfl, c4, rfl⟩ rfl (by omega)
  clear c3 c4
  go_wp2_with fail
  refine (con_any _ _ _ _).mono ?_
  rintro e w5 ⟨rfl, k5⟩
  have s5 := k5.size
  simp at s5
  replace d1 := d1.k ((Keep.al _ _).trans ((Keep.al _ _).trans ((Keep.al _ _).trans k5)))
  replace d2 := d2.k ((Keep.al _ _).trans ((Keep.al _ _).trans k5))
  replace b1 := b1.trans ((Keep.al _ _).trans ((Keep.al _ _).trans ((Keep.al _ _).trans k5)))
  have b2 := (Keep.al _ _).trans k5
  have c5 := (lit_ints _ w.heap.size 3 [1, 3] _ 2 (by simp; omega) rfl rfl (by omega)).k k5
  simp at c5
  have d3 := lit_cons w5 w.heap.size 34 [[1, 3]] [_] 1 (by omega) ⟨_, _, rfl, c5, rfl⟩ rfl (by omega)
  clear c5
  go_wp2_with fail
  refine (con_any _ _ _ _).mono ?_
  rintro e w6 ⟨rfl, k6⟩
  have s6 := k6.size
  simp at s6
  have kk := (Keep.al _ _).trans ((Keep.al _ _).trans k6)
  replace d1 := d1.k kk
  replace d2 := d2.k kk
  replace b1 := b1.trans kk
  replace b2 := b2.trans kk
  replace d3 := d3.k ((Keep.al _ _).trans k6)
  clear kk
  have c6 := (lit_ints _ w.heap.size 3 [1, 1, 0] _ 3 (by simp; omega) rfl rfl (by omega)).k k6
  simp at c6
  go_wp2_with fail
  refine (con_any _ _ _ _).mono ?_
  rintro e w7 ⟨rfl, k7⟩
  have s7 := k7.size
  simp at s7
  have kk := (Keep.al _ _).trans k7
  replace d1 := d1.k kk
  replace d2 := d2.k kk
  replace d3 := d3.k kk
  replace c6 := c6.k kk
  replace b1 := b1.trans kk
  replace b2 := b2.trans kk
  clear kk
  have c7 := (lit_ints _ w.heap.size 3 [0] _ 1 (by omega) rfl rfl (by omega)).k k7
  go_wp2_with fail
  refine (con_any _ _ _ _).mono ?_
  rintro e w8 ⟨rfl, k8⟩
  have s8 := k8.size
  simp at s8
  have kk := (Keep.al _ _).trans k8
  replace d1 := d1.k kk
  replace d2 := d2.k kk
  replace d3 := d3.k kk
  replace c6 := c6.k kk
  replace c7 := c7.k kk
  replace b1 := b1.trans kk
  replace b2 := b2.trans kk
  clear kk
  have c8 := (lit_ints _ w.heap.size 3 [3] _ 1 (by omega) rfl rfl (by omega)).k k8
  have d4 := lit_cons w8 w.heap.size 34 [[1, 1, 0], [0], [3]] [_, _, _] 3 (by omega) ⟨_, _, rfl, c6, _, _, rfl, c7, _, _, rfl, c8, rfl⟩ rfl (by omega)
  clear c6 c7 c8
  have x0 := boxk b1 0
  have x1 := boxk b1 1
  have x2 := boxk b1 2
  have y0 := boxk b2 0
  have y1 := boxk b2 1
  have y2 := boxk b2 2
  simp at x0 x1 x2 y0 y1 y2
  have q1 : w2.heap.size + 1 < w8.heap.size := by omega
  have q3 : w2.heap.size < w8.heap.size := by omega
  have q4 : w4.heap.size < w8.heap.size := by omega
  have q2 : w4.heap.size + 1 < w8.heap.size := by omega
  have hgl : g < w.heap.size := by omega
  have K8 : Keep w w8 := ((((((((Keep.al _ _).trans k1).trans ((Keep.al _ _).trans k2)).trans ((Keep.al _ _).trans ((Keep.al _ _).trans ((Keep.al _ _).trans k3)))).trans ((Keep.al _ _).trans k4)).trans ((Keep.al _ _).trans ((Keep.al _ _).trans ((Keep.al _ _).trans k5)))).trans ((Keep.al _ _).trans ((Keep.al _ _).trans k6))).trans ((Keep.al _ _).trans k7)).trans ((Keep.al _ _).trans k8)
  clear k1 k2 k3 k4 k5 k6 k7 k8 b1 b2
  have d4k := Keep.al w8 (.cells #[.slice (some ⟨w5.heap.size + 1, 0, none⟩) 3 3, .slice (some ⟨w6.heap.size, 0, none⟩) 1 1, .slice (some ⟨w7.heap.size, 0, none⟩) 1 1] 34)
  replace d1 := d1.k d4k
  replace d2 := d2.k d4k
  replace d3 := d3.k d4k
  replace K8 := K8.trans d4k
  have hL := lit_decls _ w.heap.size 28 [⟨0, 0, [[1, 3]]⟩, ⟨1, 0, []⟩, ⟨0, 0, [[1, 1, 0], [0], [3]]⟩, ⟨0, 1, []⟩] _ 4 K8.size ⟨_, _, rfl, d3, _, _, rfl, Rd.nilC _ _ none 0, _, _, rfl, d4, _, _, rfl, Rd.nilC _ _ none 0, rfl⟩ rfl (by omega)
  have kL := Keep.al (w8.alloc (.cells #[.slice (some ⟨w5.heap.size + 1, 0, none⟩) 3 3, .slice (some ⟨w6.heap.size, 0, none⟩) 1 1, .slice (some ⟨w7.heap.size, 0, none⟩) 1 1] 34)) (.cells #[.int .i64 0, .int .i64 0, .slice (some ⟨w5.heap.size, 0, none⟩) 1 1, .int .i64 1, .int .i64 0, .slice none 0 0, .int .i64 0, .int .i64 0, .slice (some ⟨w8.heap.size, 0, none⟩) 3 3, .int .i64 0, .int .i64 1, .slice none 0 0] 28)
  replace d1 := d1.k kL
  replace d2 := d2.k kL
  replace d3 := d3.k kL
  replace d4 := d4.k kL
  replace K8 := K8.trans kL
  have hO := lit_decls _ w.heap.size 28 [listD, ⟨0, 0, []⟩, treeD] _ 3 K8.size ⟨_, _, rfl, d1, _, _, rfl, Rd.nilC _ _ none 0, _, _, rfl, d2, rfl⟩ rfl (by omega)
  clear d1 d2 hL d4k kL
  simp at hO
  go_wp2_with fail
  refine (pickX B g p _ _ (h.keep (K8.trans (Keep.al _ _))) (by omega) (by omega)).mono ?_
  rintro e w9 ⟨k, rfl, hk, _, hr9, x9⟩
  obtain ⟨hk0, hk5⟩ := hk (by omega)
  have K9 := (Keep.to (K8.trans (Keep.al _ _))).trans x9
  have hS : ∀ k : Nat, w.heap.size ≤ k → ¬ k = g := fun k hk => by omega
  replace hO := hO.ext x9 (fun k _ hk => hS k (hk.elim id id))
  replace d3 := ((d3.lt.mono (D' := fun k => w.heap.size ≤ k ∧ k ≠ w8.heap.size + 2) (fun k hk => by simp at hk; omega)).k (Keep.al _ _)).ext x9 (fun k hk => hS k hk.1)
  replace d4 := ((d4.lt.mono (D' := fun k => w.heap.size ≤ k ∧ k ≠ w8.heap.size + 2) (fun k hk => by simp at hk; omega)).k (Keep.al _ _)).ext x9 (fun k hk => hS k hk.1)
  have s9 := x9.size
  simp at s9
  have z : ∀ i, i < 12 → w9.cell? ⟨w8.heap.size + 1, i, none⟩ = (#[.int .i64 0, .int .i64 0, .slice (some ⟨w5.heap.size, 0, none⟩) 1 1, .int .i64 1, .int .i64 0, .slice none 0 0, .int .i64 0, .int .i64 0, .slice (some ⟨w8.heap.size, 0, none⟩) 3 3, .int .i64 0, .int .i64 1, .slice none 0 0] : Array Value)[i]? := fun i _ => by
    rw [x9.cell (by simp) (by show ¬ w8.heap.size + 1 = g; omega), World.cell?_alloc_past _ _ _ (by simp), World.cell?_alloc_at _ _ _ _ (by simp)]
  clear x0 x1 x2 y0 y1 y2 q1 q2 q3 q4 x9 K8
  have hbs : w.heap.size ≤ w9.heap.size := by omega
  have hk : k = 0 ∨ k = 1 ∨ k = 2 ∨ k = 3 ∨ k = 4 := by omega
  rcases hk with rfl | rfl | rfl | rfl | rfl
  · have z0 := z 0 (by omega)
    have z1 := z 1 (by omega)
    have z2 := z 2 (by omega)
    simp at z0 z1 z2
    have hX := lit_declsD w9 (fun k => w.heap.size ≤ k ∧ k ≠ w8.heap.size + 2) 28 [⟨0, 0, [[1, 3]]⟩] _ 1 (by omega) ⟨_, _, rfl, d3, rfl⟩ rfl (by omega)
    have hO2 := hO.keep (Keep.al w9 (.cells #[.int .i64 0, .int .i64 0, .slice (some ⟨w5.heap.size, 0, none⟩) 1 1] 28))
    clear z d3 d4 hO
    go_wp2_with (at_builtin; refine wpList_appR _ rfl (.tmp 43) (.tmp 48) 23 rfl w.heap.size 28 (.agg #[.int .i64 0, .int .i64 0, .slice none 0 0]) 3 40 Try.underlying23 (by kernel_rfl) rfl (by omega) (fun b => w.heap.size ≤ b) _ _ rfl hO2 _ 1 1 _ _ rfl hX (fun k _ hk => ⟨hk.1, by show some (w8.heap.size + 1 + 1) ≠ some k; intro h; injection h; omega⟩) (by simp) (by simp) (by simp; omega) ?_; intro v1 w10 hA xA sA)
    have xa := (Keep.to (S := fun k => w.heap.size ≤ k) (Keep.al _ _)).trans xA
    exact fin_ hQ ⟨v1, 0, by omega, by omega, rfl, hA, hr9.ext xa (fun k hk h => by omega), K9.then_ xa (fun i hi h => by omega)⟩
  · have z0 := z 3 (by omega)
    have z1 := z 4 (by omega)
    have z2 := z 5 (by omega)
    simp at z0 z1 z2
    have hX := lit_declsD w9 (fun k => w.heap.size ≤ k ∧ k ≠ w8.heap.size + 2) 28 [⟨1, 0, []⟩] _ 1 (by omega) ⟨_, _, rfl, Rd.nilC _ _ none 0, rfl⟩ rfl (by omega)
    have hO2 := hO.keep (Keep.al w9 (.cells #[.int .i64 1, .int .i64 0, .slice none 0 0] 28))
    clear z d3 d4 hO
    go_wp2_with (at_builtin; refine wpList_appR _ rfl (.tmp 43) (.tmp 48) 23 rfl w.heap.size 28 (.agg #[.int .i64 0, .int .i64 0, .slice none 0 0]) 3 40 Try.underlying23 (by kernel_rfl) rfl (by omega) (fun b => w.heap.size ≤ b) _ _ rfl hO2 _ 1 1 _ _ rfl hX (fun k _ hk => ⟨hk.1, by show some (w8.heap.size + 1 + 1) ≠ some k; intro h; injection h; omega⟩) (by simp) (by simp) (by simp; omega) ?_; intro v1 w10 hA xA sA)
    have xa := (Keep.to (S := fun k => w.heap.size ≤ k) (Keep.al _ _)).trans xA
    exact fin_ hQ ⟨v1, 1, by omega, by omega, rfl, hA, hr9.ext xa (fun k hk h => by omega), K9.then_ xa (fun i hi h => by omega)⟩
  · have z0 := z 6 (by omega)
    have z1 := z 7 (by omega)
    have z2 := z 8 (by omega)
    simp at z0 z1 z2
    have hX := lit_declsD w9 (fun k => w.heap.size ≤ k ∧ k ≠ w8.heap.size + 2) 28 [⟨0, 0, [[1, 1, 0], [0], [3]]⟩] _ 1 (by omega) ⟨_, _, rfl, d4, rfl⟩ rfl (by omega)
    have hO2 := hO.keep (Keep.al w9 (.cells #[.int .i64 0, .int .i64 0, .slice (some ⟨w8.heap.size, 0, none⟩) 3 3] 28))
    clear z d3 d4 hO
    go_wp2_with (at_builtin; refine wpList_appR _ rfl (.tmp 43) (.tmp 48) 23 rfl w.heap.size 28 (.agg #[.int .i64 0, .int .i64 0, .slice none 0 0]) 3 40 Try.underlying23 (by kernel_rfl) rfl (by omega) (fun b => w.heap.size ≤ b) _ _ rfl hO2 _ 1 1 _ _ rfl hX (fun k _ hk => ⟨hk.1, by show some (w8.heap.size + 1 + 1) ≠ some k; intro h; injection h; omega⟩) (by simp) (by simp) (by simp; omega) ?_; intro v1 w10 hA xA sA)
    have xa := (Keep.to (S := fun k => w.heap.size ≤ k) (Keep.al _ _)).trans xA
    exact fin_ hQ ⟨v1, 2, by omega, by omega, rfl, hA, hr9.ext xa (fun k hk h => by omega), K9.then_ xa (fun i hi h => by omega)⟩
  · have z0 := z 9 (by omega)
    have z1 := z 10 (by omega)
    have z2 := z 11 (by omega)
    simp at z0 z1 z2
    have hX := lit_declsD w9 (fun k => w.heap.size ≤ k ∧ k ≠ w8.heap.size + 2) 28 [⟨0, 1, []⟩] _ 1 (by omega) ⟨_, _, rfl, Rd.nilC _ _ none 0, rfl⟩ rfl (by omega)
    have hO2 := hO.keep (Keep.al w9 (.cells #[.int .i64 0, .int .i64 1, .slice none 0 0] 28))
    clear z d3 d4 hO
    go_wp2_with (at_builtin; refine wpList_appR _ rfl (.tmp 43) (.tmp 48) 23 rfl w.heap.size 28 (.agg #[.int .i64 0, .int .i64 0, .slice none 0 0]) 3 40 Try.underlying23 (by kernel_rfl) rfl (by omega) (fun b => w.heap.size ≤ b) _ _ rfl hO2 _ 1 1 _ _ rfl hX (fun k _ hk => ⟨hk.1, by show some (w8.heap.size + 1 + 1) ≠ some k; intro h; injection h; omega⟩) (by simp) (by simp) (by simp; omega) ?_; intro v1 w10 hA xA sA)
    have xa := (Keep.to (S := fun k => w.heap.size ≤ k) (Keep.al _ _)).trans xA
    exact fin_ hQ ⟨v1, 3, by omega, by omega, rfl, hA, hr9.ext xa (fun k hk h => by omega), K9.then_ xa (fun i hi h => by omega)⟩
  · go_wp2
    exact fin_ hQ ⟨_, 4, by omega, by omega, rfl, hO, hr9, K9⟩
end Go.Proofs.Ythdjijhpdgajbaa
