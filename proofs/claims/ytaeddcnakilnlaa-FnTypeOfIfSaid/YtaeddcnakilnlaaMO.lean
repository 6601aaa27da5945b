/- The generator of declarations: con, goodDecls, anyDecls. -/
import Derived.Test.YtaeddcnakilnlaaMGA
import Derived.Test.YtaeddcnakilnlaaMN
import Derived.Test.YtaeddcnakilnlaaMGB
namespace Go.Proofs.Ytaeddcnakilnlaa
open Go.RowKit

theorem con_any (a : Option Addr) (n c : Nat) (w : World) :
    Calls Try.prog 160 #[.slice a n c] w fun e w' => e = .returned (.agg #[.slice a n c]) ∧ Keep w w' := by
  refine calls_k fun Q hQ => ?_
  go_enter Try.func160, Try.ntmps160
  go_wp2
  refine bodyPost_ret (v := .agg #[.slice a n c]) (by simp [results, Try.results160, go_sem]) rfl (fin_ hQ ⟨rfl, (Ext.refl _ _).alloc _⟩)

def listD : DeclL := ⟨0, 0, [[], [0, 1]]⟩
def treeD : DeclL := ⟨0, 0, [[], [3, 0, 3]]⟩
def lastD (k : Int) : DeclL := if k = 0 then ⟨0, 0, [[1, 3]]⟩ else if k = 1 then ⟨1, 0, []⟩ else if k = 2 then ⟨0, 0, [[1, 1, 0], [0], [3]]⟩ else ⟨0, 1, []⟩
/-- The valid declarations that are generated. -/
def goodD (k : Int) : List DeclL := if k < 4 then [listD, ⟨0, 0, []⟩, treeD, lastD k] else [listD, ⟨0, 0, []⟩, treeD]

set_option maxRecDepth 100000 in
set_option maxHeartbeats 1000000 in
theorem goodDecls_any (B g : Nat) (p : Int) (w : World) (h : Rdx w B g p) (hBw : B ≤ w.heap.size) (hp : p ≤ 900000000000) :
    Calls Try.prog 150 #[.pointer (some ⟨g, 0, none⟩)] w fun e w' => ∃ (v : Value) (k : Int), 0 ≤ k ∧ k < 5 ∧ e = .returned v ∧ AccR w' w.heap.size (fun b => w.heap.size ≤ b) 138 3 v ((goodD k).map rowD) ∧
      Rdx w' B g (p + 1) ∧ Ext (· = g) w w' := by
  refine calls_k fun Q hQ => ?_
  have hB := Nat.le_refl w.heap.size
  have hgB := h.gB
  go_enter Try.func150, Try.ntmps150
  go_wp2_with fail
  refine (con_any _ _ _ _).mono ?_
  rintro e w1 ⟨rfl, k1⟩
  have s1 := k1.size
  simp at s1
  have kk : Keep w w1 := (Keep.al _ _).trans (k1)
  clear kk
  have c1 := (lit_ints _ w.heap.size 3 [] _ 0 (by omega) rfl rfl (by omega)).k k1
  go_wp2_with fail
  refine (con_any _ _ _ _).mono ?_
  rintro e w2 ⟨rfl, k2⟩
  have s2 := k2.size
  simp at s2
  have kk : Keep w1 w2 := (Keep.al _ _).trans (k2)
  replace c1 := c1.k kk
  clear kk
  have c2 := (lit_ints _ w.heap.size 3 [0, 1] _ 2 (by omega) rfl rfl (by omega)).k k2
  have d1 := lit_cons w2 w.heap.size 185 [[], [0, 1]] [_, _] 2 (by omega) ⟨_, _, rfl, c1, _, _, rfl, c2, rfl⟩ rfl (by omega)
  clear c1 c2
  go_wp2_with fail
  refine (con_any _ _ _ _).mono ?_
  rintro e w3 ⟨rfl, k3⟩
  have s3 := k3.size
  simp at s3
  replace d1 := d1.k ((Keep.al _ _).trans ((Keep.al _ _).trans k3))
  have b1 := (Keep.al _ _).trans k3
  have c3 := (lit_ints _ w.heap.size 3 [] _ 0 (by simp; omega) rfl rfl (by omega)).k k3
  simp at c3
  go_wp2_with fail
  refine (con_any _ _ _ _).mono ?_
  rintro e w4 ⟨rfl, k4⟩
  have s4 := k4.size
  simp at s4
  have kk : Keep w3 w4 := (Keep.al _ _).trans (k4)
  replace d1 := d1.k kk
  replace c3 := c3.k kk
  clear kk
  have c4 := (lit_ints _ w.heap.size 3 [3, 0, 3] _ 3 (by omega) rfl rfl (by omega)).k k4
  replace b1 := b1.trans ((Keep.al _ _).trans k4)
  have d2 := lit_cons w4 w.heap.size 185 [[], [3, 0, 3]] [_, _] 2 (by omega) ⟨_, _, rfl, c3, _, _, rfl, c4, rfl⟩ rfl (by omega)
  clear c3 c4
  go_wp2_with fail
  refine (con_any _ _ _ _).mono ?_
  rintro e w5 ⟨rfl, k5⟩
  have s5 := k5.size
  simp at s5
  replace d1 := d1.k ((Keep.al _ _).trans ((Keep.al _ _).trans ((Keep.al _ _).trans k5)))
  replace d2 := d2.k ((Keep.al _ _).trans ((Keep.al _ _).trans k5))
  replace b1 := b1.trans ((Keep.al _ _).trans ((Keep.al _ _).trans ((Keep.al _ _).trans k5)))
  have b2 := (Keep.al _ _).trans k5
  have c5 := (lit_ints _ w.heap.size 3 [1, 3] _ 2 (by simp; omega) rfl rfl (by omega)).k k5
  simp at c5
  have d3 := lit_cons w5 w.heap.size 185 [[1, 3]] [_] 1 (by omega) ⟨_, _, rfl, c5, rfl⟩ rfl (by omega)
  clear c5
  go_wp2_with fail
  refine (con_any _ _ _ _).mono ?_
  rintro e w6 ⟨rfl, k6⟩
  have s6 := k6.size
  simp at s6
  have kk := (Keep.al _ _).trans ((Keep.al _ _).trans k6)
  replace d1 := d1.k kk
  replace d2 := d2.k kk
  replace b1 := b1.trans kk
  replace b2 := b2.trans kk
  replace d3 := d3.k ((Keep.al _ _).trans k6)
  clear kk
  have c6 := (lit_ints _ w.heap.size 3 [1, 1, 0] _ 3 (by simp; omega) rfl rfl (by omega)).k k6
  simp at c6
  go_wp2_with fail
  refine (con_any _ _ _ _).mono ?_
  rintro e w7 ⟨rfl, k7⟩
  have s7 := k7.size
  simp at s7
  have kk := (Keep.al _ _).trans k7
  replace d1 := d1.k kk
  replace d2 := d2.k kk
  replace d3 := d3.k kk
  replace c6 := c6.k kk
  replace b1 := b1.trans kk
  replace b2 := b2.trans kk
  clear kk
  have c7 := (lit_ints _ w.heap.size 3 [0] _ 1 (by omega) rfl rfl (by omega)).k k7
  go_wp2_with fail
  refine (con_any _ _ _ _).mono ?_
  rintro e w8 ⟨rfl, k8⟩
  have s8 := k8.size
  simp at s8
  have kk := (Keep.al _ _).trans k8
  replace d1 := d1.k kk
  replace d2 := d2.k kk
  replace d3 := d3.k kk
  replace c6 := c6.k kk
  replace c7 := c7.k kk
  replace b1 := b1.trans kk
  replace b2 := b2.trans kk
  clear kk
  have c8 := (lit_ints _ w.heap.size 3 [3] _ 1 (by omega) rfl rfl (by omega)).k k8
  have d4 := lit_cons w8 w.heap.size 185 [[1, 1, 0], [0], [3]] [_, _, _] 3 (by omega) ⟨_, _, rfl, c6, _, _, rfl, c7, _, _, rfl, c8, rfl⟩ rfl (by omega)
  clear c6 c7 c8
  have x0 := boxk b1 0
  have x1 := boxk b1 1
  have x2 := boxk b1 2
  have y0 := boxk b2 0
  have y1 := boxk b2 1
  have y2 := boxk b2 2
  simp at x0 x1 x2 y0 y1 y2
  have q1 : w2.heap.size + 1 < w8.heap.size := by omega
  have q3 : w2.heap.size < w8.heap.size := by omega
  have q4 : w4.heap.size < w8.heap.size := by omega
  have q2 : w4.heap.size + 1 < w8.heap.size := by omega
  have hgl : g < w.heap.size := by omega
  have K8 : Keep w w8 := ((((((((Keep.al _ _).trans k1).trans ((Keep.al _ _).trans k2)).trans ((Keep.al _ _).trans ((Keep.al _ _).trans ((Keep.al _ _).trans k3)))).trans ((Keep.al _ _).trans k4)).trans ((Keep.al _ _).trans ((Keep.al _ _).trans ((Keep.al _ _).trans k5)))).trans ((Keep.al _ _).trans ((Keep.al _ _).trans k6))).trans ((Keep.al _ _).trans k7)).trans ((Keep.al _ _).trans k8)
  clear k1 k2 k3 k4 k5 k6 k7 k8 b1 b2
  have d4k := Keep.al w8 (.cells #[.slice (some ⟨w5.heap.size + 1, 0, none⟩) 3 3, .slice (some ⟨w6.heap.size, 0, none⟩) 1 1, .slice (some ⟨w7.heap.size, 0, none⟩) 1 1] 185)
  replace d1 := d1.k d4k
  replace d2 := d2.k d4k
  replace d3 := d3.k d4k
  replace K8 := K8.trans d4k
  have hL := lit_decls _ w.heap.size 138 [⟨0, 0, [[1, 3]]⟩, ⟨1, 0, []⟩, ⟨0, 0, [[1, 1, 0], [0], [3]]⟩, ⟨0, 1, []⟩] _ 4 K8.size ⟨_, _, rfl, d3, _, _, rfl, Rd.nilC _ _ none 0, _, _, rfl, d4, _, _, rfl, Rd.nilC _ _ none 0, rfl⟩ rfl (by omega)
  have kL := Keep.al (w8.alloc (.cells #[.slice (some ⟨w5.heap.size + 1, 0, none⟩) 3 3, .slice (some ⟨w6.heap.size, 0, none⟩) 1 1, .slice (some ⟨w7.heap.size, 0, none⟩) 1 1] 185)) (.cells #[.int .i64 0, .int .i64 0, .slice (some ⟨w5.heap.size, 0, none⟩) 1 1, .int .i64 1, .int .i64 0, .slice none 0 0, .int .i64 0, .int .i64 0, .slice (some ⟨w8.heap.size, 0, none⟩) 3 3, .int .i64 0, .int .i64 1, .slice none 0 0] 138)
  replace d1 := d1.k kL
  replace d2 := d2.k kL
  replace d3 := d3.k kL
  replace d4 := d4.k kL
  replace K8 := K8.trans kL
  have hO := lit_decls _ w.heap.size 138 [listD, ⟨0, 0, []⟩, treeD] _ 3 K8.size ⟨_, _, rfl, d1, _, _, rfl, Rd.nilC _ _ none 0, _, _, rfl, d2, rfl⟩ rfl (by omega)
  clear d1 d2 hL d4k kL
  simp at hO
  go_wp2_with fail
  refine (pickX B g p _ _ (h.keep (K8.trans (Keep.al _ _))) (by omega) (by omega)).mono ?_
  rintro e w9 ⟨k, rfl, hk, _, hr9, x9⟩
  obtain ⟨hk0, hk5⟩ := hk (by omega)
  have K9 := (Keep.to (K8.trans (Keep.al _ _))).trans x9
  have hS : ∀ k : Nat, w.heap.size ≤ k → ¬ k = g := fun k hk => by omega
  replace hO := hO.ext x9 (fun k _ hk => hS k (hk.elim id id))
  replace d3 := ((d3.lt.mono (D' := fun k => w.heap.size ≤ k ∧ k ≠ w8.heap.size + 2) (fun k hk => by simp at hk; omega)).k (Keep.al _ _)).ext x9 (fun k hk => hS k hk.1)
  replace d4 := ((d4.lt.mono (D' := fun k => w.heap.size ≤ k ∧ k ≠ w8.heap.size + 2) (fun k hk => by simp at hk; omega)).k (Keep.al _ _)).ext x9 (fun k hk => hS k hk.1)
  have s9 := x9.size
  simp at s9
  have z : ∀ i, i < 12 → w9.cell? ⟨w8.heap.size + 1, i, none⟩ = (#[.int .i64 0, .int .i64 0, .slice (some ⟨w5.heap.size, 0, none⟩) 1 1, .int .i64 1, .int .i64 0, .slice none 0 0, .int .i64 0, .int .i64 0, .slice (some ⟨w8.heap.size, 0, none⟩) 3 3, .int .i64 0, .int .i64 1, .slice none 0 0] : Array Value)[i]? := fun i _ => by
    rw [x9.cell (by simp) (by show ¬ w8.heap.size + 1 = g; omega), World.cell?_alloc_past _ _ _ (by simp), World.cell?_alloc_at _ _ _ _ (by simp)]
  clear x0 x1 x2 y0 y1 y2 q1 q2 q3 q4 x9 K8
  have hbs : w.heap.size ≤ w9.heap.size := by omega
  have hk : k = 0 ∨ k = 1 ∨ k = 2 ∨ k = 3 ∨ k = 4 := by omega
  rcases hk with rfl | rfl | rfl | rfl | rfl
  · have z0 := z 0 (by omega)
    have z1 := z 1 (by omega)
    have z2 := z 2 (by omega)
    simp at z0 z1 z2
    have hX := lit_declsD w9 (fun k => w.heap.size ≤ k ∧ k ≠ w8.heap.size + 2) 138 [⟨0, 0, [[1, 3]]⟩] _ 1 (by omega) ⟨_, _, rfl, d3, rfl⟩ rfl (by omega)
    have hO2 := hO.keep (Keep.al w9 (.cells #[.int .i64 0, .int .i64 0, .slice (some ⟨w5.heap.size, 0, none⟩) 1 1] 138))
    clear z d3 d4 hO
    go_wp2_with (at_builtin; refine wpList_appR _ rfl (.tmp 43) (.tmp 48) 33 rfl w.heap.size 138 (.agg #[.int .i64 0, .int .i64 0, .slice none 0 0]) 3 40 Try.underlying33 (by kernel_rfl) rfl (by omega) (fun b => w.heap.size ≤ b) _ _ rfl hO2 _ 1 1 _ _ rfl hX (fun k _ hk => ⟨hk.1, by show some (w8.heap.size + 1 + 1) ≠ some k; intro h; injection h; omega⟩) (by simp) (by simp) (by simp; omega) ?_; intro v1 w10 hA xA sA)
    have xa := (Keep.to (S := fun k => w.heap.size ≤ k) (Keep.al _ _)).trans xA
    exact fin_ hQ ⟨v1, 0, by omega, by omega, rfl, hA, hr9.ext xa (fun k hk h => by omega), K9.then_ xa (fun i hi h => by omega)⟩
  · have z0 := z 3 (by omega)
    have z1 := z 4 (by omega)
    have z2 := z 5 (by omega)
    simp at z0 z1 z2
    have hX := lit_declsD w9 (fun k => w.heap.size ≤ k ∧ k ≠ w8.heap.size + 2) 138 [⟨1, 0, []⟩] _ 1 (by omega) ⟨_, _, rfl, Rd.nilC _ _ none 0, rfl⟩ rfl (by omega)
    have hO2 := hO.keep (Keep.al w9 (.cells #[.int .i64 1, .int .i64 0, .slice none 0 0] 138))
    clear z d3 d4 hO
    go_wp2_with (at_builtin; refine wpList_appR _ rfl (.tmp 43) (.tmp 48) 33 rfl w.heap.size 138 (.agg #[.int .i64 0, .int .i64 0, .slice none 0 0]) 3 40 Try.underlying33 (by kernel_rfl) rfl (by omega) (fun b => w.heap.size ≤ b) _ _ rfl hO2 _ 1 1 _ _ rfl hX (fun k _ hk => ⟨hk.1, by show some (w8.heap.size + 1 + 1) ≠ some k; intro h; injection h; omega⟩) (by simp) (by simp) (by simp; omega) ?_; intro v1 w10 hA xA sA)
    have xa := (Keep.to (S := fun k => w.heap.size ≤ k) (Keep.al _ _)).trans xA
    exact fin_ hQ ⟨v1, 1, by omega, by omega, rfl, hA, hr9.ext xa (fun k hk h => by omega), K9.then_ xa (fun i hi h => by omega)⟩
  · have z0 := z 6 (by omega)
    have z1 := z 7 (by omega)
    have z2 := z 8 (by omega)
    simp at z0 z1 z2
    have hX := lit_declsD w9 (fun k => w.heap.size ≤ k ∧ k ≠ w8.heap.size + 2) 138 [⟨0, 0, [[1, 1, 0], [0], [3]]⟩] _ 1 (by omega) ⟨_, _, rfl, d4, rfl⟩ rfl (by omega)
    have hO2 := hO.keep (Keep.al w9 (.cells #[.int .i64 0, .int .i64 0, .slice (some ⟨w8.heap.size, 0, none⟩) 3 3] 138))
    clear z d3 d4 hO
    go_wp2_with (at_builtin; refine wpList_appR _ rfl (.tmp 43) (.tmp 48) 33 rfl w.heap.size 138 (.agg #[.int .i64 0, .int .i64 0, .slice none 0 0]) 3 40 Try.underlying33 (by kernel_rfl) rfl (by omega) (fun b => w.heap.size ≤ b) _ _ rfl hO2 _ 1 1 _ _ rfl hX (fun k _ hk => ⟨hk.1, by show some (w8.heap.size + 1 + 1) ≠ some k; intro h; injection h; omega⟩) (by simp) (by simp) (by simp; omega) ?_; intro v1 w10 hA xA sA)
    have xa := (Keep.to (S := fun k => w.heap.size ≤ k) (Keep.al _ _)).trans xA
    exact fin_ hQ ⟨v1, 2, by omega, by omega, rfl, hA, hr9.ext xa (fun k hk h => by omega), K9.then_ xa (fun i hi h => by omega)⟩
  · have z0 := z 9 (by omega)
    have z1 := z 10 (by omega)
    have z2 := z 11 (by omega)
    simp at z0 z1 z2
    have hX := lit_declsD w9 (fun k => w.heap.size ≤ k ∧ k ≠ w8.heap.size + 2) 138 [⟨0, 1, []⟩] _ 1 (by omega) ⟨_, _, rfl, Rd.nilC _ _ none 0, rfl⟩ rfl (by omega)
    have hO2 := hO.keep (Keep.al w9 (.cells #[.int .i64 0, .int .i64 1, .slice none 0 0] 138))
    clear z d3 d4 hO
    go_wp2_with (at_builtin; refine wpList_appR _ rfl (.tmp 43) (.tmp 48) 33 rfl w.heap.size 138 (.agg #[.int .i64 0, .int .i64 0, .slice none 0 0]) 3 40 Try.underlying33 (by kernel_rfl) rfl (by omega) (fun b => w.heap.size ≤ b) _ _ rfl hO2 _ 1 1 _ _ rfl hX (fun k _ hk => ⟨hk.1, by show some (w8.heap.size + 1 + 1) ≠ some k; intro h; injection h; omega⟩) (by simp) (by simp) (by simp; omega) ?_; intro v1 w10 hA xA sA)
    have xa := (Keep.to (S := fun k => w.heap.size ≤ k) (Keep.al _ _)).trans xA
    exact fin_ hQ ⟨v1, 3, by omega, by omega, rfl, hA, hr9.ext xa (fun k hk h => by omega), K9.then_ xa (fun i hi h => by omega)⟩
  · go_wp2
    exact fin_ hQ ⟨_, 4, by omega, by omega, rfl, hO, hr9, K9⟩
end Go.Proofs.Ytaeddcnakilnlaa
/- The generator of declarations that may be invalid. -/
namespace Go.Proofs.Ytaeddcnakilnlaa
open Go.RowKit

theorem goodD_len (k : Int) : (goodD k).length = 3 ∨ (goodD k).length = 4 := by
  unfold goodD
  split
  · exact .inr rfl
  · exact .inl rfl
theorem AccR.slot {w : World} {base : Nat} {D : Nat → Prop} {T : TypeId} {rows : List (List Dat)} {b n c k : Nat} (h : AccR w base D T 3 (.slice (some ⟨b, 0, none⟩) n c) rows) (hk : k < rows.length) :
    (∃ u, w.cell? ⟨b, k * 3, none⟩ = some u) ∧ (∃ u, w.cell? ⟨b, k * 3 + 1, none⟩ = some u) ∧ (∃ u, w.cell? ⟨b, k * 3 + 2, none⟩ = some u) ∧ w.frozen? ⟨b, k * 3, none⟩ = false ∧ w.frozen? ⟨b, k * 3 + 1, none⟩ = false ∧ w.frozen? ⟨b, k * 3 + 2, none⟩ = false := by
  obtain ⟨b', c', e, _, _, _, _, hfz, hcell⟩ := h.open (by omega)
  injection e with e1 e2 e3
  injection e1 with e1
  injection e1 with e1 _ _
  subst e1
  obtain ⟨u0, c0, _⟩ := hcell k 0 hk (by omega)
  obtain ⟨u1, c1, _⟩ := hcell k 1 hk (by omega)
  obtain ⟨u2, c2, _⟩ := hcell k 2 hk (by omega)
  exact ⟨⟨u0, c0⟩, ⟨u1, c1⟩, ⟨u2, c2⟩, hfz _, hfz _, hfz _⟩
theorem put3x (w : World) (b o : Nat) (u0 u1 u2 : Value) : Ext (fun q => q = b) w (((w.setCell ⟨b, o, none⟩ u0).setCell ⟨b, o + 1, none⟩ u1).setCell ⟨b, o + 2, none⟩ u2) :=
  (((Ext.refl (fun q => q = b) w).setCell (p := ⟨b, o, none⟩) (.inr rfl) _).setCell (p := ⟨b, o + 1, none⟩) (.inr rfl) _).setCell (p := ⟨b, o + 2, none⟩) (.inr rfl) _

set_option maxRecDepth 100000 in
set_option maxHeartbeats 4000000 in
theorem anyDecls_any (B g : Nat) (p : Int) (w : World) (h : Rdx w B g p) (hBw : B ≤ w.heap.size) (hp : p ≤ 800000000000) :
    Calls Try.prog 116 #[.pointer (some ⟨g, 0, none⟩)] w fun e w' => ∃ (v : Value) (ds : List DeclL) (p' : Int), ds.length ≤ 6 ∧ 3 ≤ ds.length ∧ e = .returned v ∧ AccR w' w.heap.size (fun b => w.heap.size ≤ b) 138 3 v (ds.map rowD) ∧
      Rdx w' B g p' ∧ p' ≤ p + 6 ∧ Ext (· = g) w w' := by
  refine calls_k fun Q hQ => ?_
  have hgB := h.gB
  go_enter Try.func116, Try.ntmps116
  go_wp2_with fail
  refine (goodDecls_any B g p w h hBw (by omega)).mono ?_
  rintro e w1 ⟨v, kk, _, _, rfl, hA, hr, x1⟩
  have hds := goodD_len kk
  generalize goodD kk = ds at hds hA
  have hl : (ds.map rowD).length = ds.length := by simp
  obtain ⟨b, c, rfl, hb1, hb2, hnc, hcm, _, _⟩ := hA.open (by omega)
  generalize hn : (ds.map rowD).length = n at hA hnc
  have HN : Hid (n = ds.length) := by show n = ds.length; omega
  have hn3 : 3 ≤ n := by omega
  have hn4 : n ≤ 4 := by omega
  clear hn hl hds
  have z1 := x1.size
  go_wp2_with fail
  refine (pickX B g _ _ _ hr (by omega) (by omega)).mono ?_
  rintro e w2 ⟨k, rfl, hk, _, hr2, x2⟩
  obtain ⟨hk0, hk1⟩ := hk (by omega)
  obtain ⟨k, rfl⟩ := Int.eq_ofNat_of_zero_le hk0
  replace hk1 : k < n := by omega
  clear hk hk0
  have z2 := x2.size
  go_wp2_with fail
  refine (pickX B g _ _ _ hr2 (by omega) (by omega)).mono ?_
  rintro e w3 ⟨z, rfl, hz, _, hrw3, x3⟩
  obtain ⟨hz0, hz1⟩ := hz (by omega)
  clear hz
  have z3 := x3.size
  have x13 := (x1.trans x2).trans x3
  have hS : ∀ q : Nat, (w.heap.size ≤ q ∨ w.heap.size ≤ q) → ¬ q = g := fun q hq => by omega
  replace hA := hA.ext (x2.trans x3) (fun q _ hq' => hS q hq')
  have hb3 : b < w3.heap.size := by omega
  clear x1 x2 x3 hr hr2 h
  have hkl : k < (ds.map rowD).length := by have := HN.out; simp; omega
  have hkd : k < ds.length := by have := HN.out; omega
  have hlen : ds.length ≤ 4 ∧ 3 ≤ ds.length := by have := HN.out; omega
  have hbs : w.heap.size ≤ w3.heap.size := by omega
  by_cases y0 : z = 0
  · subst y0
    go_wp2_with fail
    refine (oneL B g _ [-1, 5, 0, 2] 4 _ _ _ _ hrw3 (by omega) rfl rfl (by omega) (by omega)).mono ?_
    rintro e w4 ⟨v4, _, rfl, hrw4, xw4⟩
    have zw4 := xw4.size
    replace hA := hA.ext xw4 (fun q _ hq' => hS q hq')
    go_wp2_with fail
    refine (oneL B g _ [0, 1, 5] 3 _ _ _ _ hrw4 (by omega) rfl rfl (by omega) (by omega)).mono ?_
    rintro e w5 ⟨v5, _, rfl, hrw5, xw5⟩
    have zw5 := xw5.size
    replace hA := hA.ext xw5 (fun q _ hq' => hS q hq')
    obtain ⟨⟨u0, c0⟩, ⟨u1, c1⟩, ⟨u2, c2⟩, g0, g1, g2⟩ := hA.slot hkl
    go_wp2_with fail
    exact fin_ hQ ⟨_, ds.set k ⟨v4, v5, []⟩, p + 1 + 1 + 1 + 1 + 1, by simp; omega, by simp; omega, rfl, hA.putD rfl hkd (Rd.nilC _ _ none 0), hrw5.ext (put3x _ _ _ _ _ _) (fun q hq e => by omega), by omega, ((x13.trans xw4).trans xw5).then_ (put3x _ _ _ _ _ _) (fun q hq e => by omega)⟩
  have t0 : ((z : Int) == 0) = false := beq_eq_false_iff_ne.2 y0
  clear y0
  by_cases y1 : z = 1
  · subst y1
    go_wp2_with fail
    refine (oneL B g _ [-1, 0, 4, 5] 4 _ _ _ _ hrw3 (by omega) rfl rfl (by omega) (by omega)).mono ?_
    rintro e w4 ⟨v4, _, rfl, hrw4, xw4⟩
    have zw4 := xw4.size
    replace hA := hA.ext xw4 (fun q _ hq' => hS q hq')
    go_wp2_with fail
    refine (con_any _ _ _ _).mono ?_
    rintro e w5 ⟨rfl, kw5⟩
    have zw5 := kw5.size
    simp at zw5
    have kk := (Keep.al _ _).trans kw5
    have iw5 := (lit_intsD w4 (fun q => w.heap.size ≤ q ∧ q ≠ b) 3 [v4] _ 1 (by omega) rfl rfl (by omega)).k kw5
    replace hA := hA.keep kk
    have hrw5 := hrw4.keep kk
    have xw5 : Ext (· = g) w4 w5 := Keep.to kk
    clear kk
    go_wp2_with fail
    refine (con_any _ _ _ _).mono ?_
    rintro e w6 ⟨rfl, kw6⟩
    have zw6 := kw6.size
    simp at zw6
    have kk := (Keep.al _ _).trans kw6
    replace iw5 := iw5.k kk
    have iw6 := (lit_intsD w5 (fun q => w.heap.size ≤ q ∧ q ≠ b) 3 [0, 0, 0, 0] _ 4 (by omega) rfl rfl (by omega)).k kw6
    replace hA := hA.keep kk
    have hrw6 := hrw5.keep kk
    have xw6 : Ext (· = g) w5 w6 := Keep.to kk
    clear kk
    go_wp2_with fail
    refine (con_any _ _ _ _).mono ?_
    rintro e w7 ⟨rfl, kw7⟩
    have zw7 := kw7.size
    simp at zw7
    have kk := (Keep.al _ _).trans kw7
    replace iw5 := iw5.k kk
    replace iw6 := iw6.k kk
    have iw7 := (lit_intsD w6 (fun q => w.heap.size ≤ q ∧ q ≠ b) 3 [] _ 0 (by omega) rfl rfl (by omega)).k kw7
    replace hA := hA.keep kk
    have hrw7 := hrw6.keep kk
    have xw7 : Ext (· = g) w6 w7 := Keep.to kk
    clear kk
    have hc := lit_consD w7 (fun q => w.heap.size ≤ q ∧ q ≠ b) 185 [[v4], [0, 0, 0, 0], []] [_, _, _] 3 (by omega) ⟨_, _, rfl, iw5, _, _, rfl, iw6, _, _, rfl, iw7, rfl⟩ rfl (by omega)
    replace hA := hA.keep (Keep.al w7 (.cells #[.slice (some ⟨w4.heap.size, 0, none⟩) 1 1, .slice (some ⟨w5.heap.size, 0, none⟩) 4 4, .slice (some ⟨w6.heap.size, 0, none⟩) 0 0] 185))
    obtain ⟨⟨u0, c0⟩, ⟨u1, c1⟩, ⟨u2, c2⟩, g0, g1, g2⟩ := hA.slot hkl
    go_wp2_with fail
    have xe := (Keep.to (S := fun q => q = b) (Keep.al w7 (.cells #[.slice (some ⟨w4.heap.size, 0, none⟩) 1 1, .slice (some ⟨w5.heap.size, 0, none⟩) 4 4, .slice (some ⟨w6.heap.size, 0, none⟩) 0 0] 185))).trans (put3x _ b (k * 3) (.int .i64 0) (.int .i64 0) (.slice (some ⟨w7.heap.size, 0, none⟩) 3 3))
    exact fin_ hQ ⟨_, ds.set k ⟨0, 0, [[v4], [0, 0, 0, 0], []]⟩, p + 1 + 1 + 1 + 1, by simp; omega, by simp; omega, rfl, hA.putD rfl hkd hc, hrw7.ext xe (fun q hq e => by omega), by omega, ((((x13.trans xw4).trans xw5).trans xw6).trans xw7).then_ xe (fun q hq e => by omega)⟩
  have t1 : ((z : Int) == 1) = false := beq_eq_false_iff_ne.2 y1
  clear y1
  by_cases y2 : z = 2
  · subst y2
    go_wp2_with fail
    refine (con_any _ _ _ _).mono ?_
    rintro e w5 ⟨rfl, kw5⟩
    have zw5 := kw5.size
    simp at zw5
    have kk := (Keep.al _ _).trans kw5
    have iw5 := (lit_intsD w3 (fun q => w.heap.size ≤ q ∧ q ≠ b) 3 [(k : Int) + 1] _ 1 (by omega) rfl rfl (by omega)).k kw5
    replace hA := hA.keep kk
    have hrw5 := hrw3.keep kk
    have xw5 : Ext (· = g) w3 w5 := Keep.to kk
    clear kk
    have hc := lit_consD w5 (fun q => w.heap.size ≤ q ∧ q ≠ b) 185 [[(k : Int) + 1]] [_] 1 (by omega) ⟨_, _, rfl, iw5, rfl⟩ rfl (by omega)
    replace hA := hA.keep (Keep.al w5 (.cells #[.slice (some ⟨w3.heap.size, 0, none⟩) 1 1] 185))
    obtain ⟨⟨u0, c0⟩, ⟨u1, c1⟩, ⟨u2, c2⟩, g0, g1, g2⟩ := hA.slot hkl
    go_wp2_with fail
    have xe := (Keep.to (S := fun q => q = b) (Keep.al w5 (.cells #[.slice (some ⟨w3.heap.size, 0, none⟩) 1 1] 185))).trans (put3x _ b (k * 3) (.int .i64 0) (.int .i64 0) (.slice (some ⟨w5.heap.size, 0, none⟩) 1 1))
    exact fin_ hQ ⟨_, ds.set k ⟨0, 0, [[(k : Int) + 1]]⟩, p + 1 + 1 + 1, by simp; omega, by simp; omega, rfl, hA.putD rfl hkd hc, hrw5.ext xe (fun q hq e => by omega), by omega, (x13.trans xw5).then_ xe (fun q hq e => by omega)⟩
  have t2 : ((z : Int) == 2) = false := beq_eq_false_iff_ne.2 y2
  clear y2
  by_cases y3 : z = 3
  · subst y3
    go_wp2_with fail
    refine (oneL B g _ [0, 2, 1] 3 _ _ _ _ hrw3 (by omega) rfl rfl (by omega) (by omega)).mono ?_
    rintro e w4 ⟨v4, _, rfl, hrw4, xw4⟩
    have zw4 := xw4.size
    replace hA := hA.ext xw4 (fun q _ hq' => hS q hq')
    have hX := lit_declsD w4 (fun q => w.heap.size ≤ q ∧ q ≠ b) 138 [(⟨2, v4, []⟩ : DeclL)] [.int .i64 2, .int .i64 v4, .slice none 0 0] 1 (by omega) ⟨_, _, rfl, Rd.nilC _ _ none 0, rfl⟩ rfl (by omega)
    replace hA := hA.keep (Keep.al w4 (.cells #[.int .i64 2, .int .i64 v4, .slice none 0 0] 138))
    go_wp2_with (at_builtin; refine wpList_appR _ rfl (.tmp 54) (.tmp 59) 33 rfl w.heap.size 138 (.agg #[.int .i64 0, .int .i64 0, .slice none 0 0]) 3 40 Try.underlying33 (by kernel_rfl) rfl (by omega) (fun b => w.heap.size ≤ b) _ _ rfl hA _ 1 1 _ _ rfl hX (fun q _ hq => ⟨hq.1, by show some b ≠ some q; intro h; injection h; omega⟩) (by simp; omega) (by simp; omega) (by simp; omega) ?_; intro v1 w10 hB xB sB)
    have xa := (Keep.to (S := fun q => w.heap.size ≤ q) (Keep.al _ _)).trans xB
    have hB2 : AccR w10 w.heap.size (fun b => w.heap.size ≤ b) 138 3 v1 ((ds ++ [(⟨2, v4, []⟩ : DeclL)]).map rowD) := by rw [List.map_append]; exact hB
    exact fin_ hQ ⟨v1, ds ++ [(⟨2, v4, []⟩ : DeclL)], p + 1 + 1 + 1 + 1, by simp; omega, by simp; omega, rfl, hB2, hrw4.ext xa (fun q hq e => by omega), by omega, (x13.trans xw4).then_ xa (fun q hq e => by omega)⟩
  have t3 : ((z : Int) == 3) = false := beq_eq_false_iff_ne.2 y3
  clear y3
  by_cases y4 : z = 4
  · subst y4
    go_wp2_with fail
    refine (pickX B g _ _ _ hrw3 (by omega) (by omega)).mono ?_
    rintro e w4 ⟨v4, rfl, hv4, _, hrw4, xw4⟩
    obtain ⟨hv40, hv41⟩ := hv4 (by omega)
    clear hv4
    have zw4 := xw4.size
    replace hA := hA.ext xw4 (fun q _ hq' => hS q hq')
    go_wp2_with fail
    refine (con_any _ _ _ _).mono ?_
    rintro e w5 ⟨rfl, kw5⟩
    have zw5 := kw5.size
    simp at zw5
    have kk := (Keep.al _ _).trans kw5
    have iw5 := (lit_intsD w4 (fun q => w.heap.size ≤ q ∧ q ≠ b) 3 [] _ 0 (by omega) rfl rfl (by omega)).k kw5
    replace hA := hA.keep kk
    have hrw5 := hrw4.keep kk
    have xw5 : Ext (· = g) w4 w5 := Keep.to kk
    clear kk
    go_wp2_with fail
    refine (con_any _ _ _ _).mono ?_
    rintro e w6 ⟨rfl, kw6⟩
    have zw6 := kw6.size
    simp at zw6
    have kk := (Keep.al _ _).trans kw6
    replace iw5 := iw5.k kk
    have iw6 := (lit_intsD w5 (fun q => w.heap.size ≤ q ∧ q ≠ b) 3 [2] _ 1 (by omega) rfl rfl (by omega)).k kw6
    replace hA := hA.keep kk
    have hrw6 := hrw5.keep kk
    have xw6 : Ext (· = g) w5 w6 := Keep.to kk
    clear kk
    go_wp2_with fail
    refine (con_any _ _ _ _).mono ?_
    rintro e w7 ⟨rfl, kw7⟩
    have zw7 := kw7.size
    simp at zw7
    have kk := (Keep.al _ _).trans kw7
    replace iw5 := iw5.k kk
    replace iw6 := iw6.k kk
    have iw7 := (lit_intsD w6 (fun q => w.heap.size ≤ q ∧ q ≠ b) 3 [] _ 0 (by omega) rfl rfl (by omega)).k kw7
    replace hA := hA.keep kk
    have hrw7 := hrw6.keep kk
    have xw7 : Ext (· = g) w6 w7 := Keep.to kk
    clear kk
    go_wp2_with fail
    refine (con_any _ _ _ _).mono ?_
    rintro e w8 ⟨rfl, kw8⟩
    have zw8 := kw8.size
    simp at zw8
    have kk := (Keep.al _ _).trans kw8
    replace iw5 := iw5.k kk
    replace iw6 := iw6.k kk
    replace iw7 := iw7.k kk
    have iw8 := (lit_intsD w7 (fun q => w.heap.size ≤ q ∧ q ≠ b) 3 [] _ 0 (by omega) rfl rfl (by omega)).k kw8
    replace hA := hA.keep kk
    have hrw8 := hrw7.keep kk
    have xw8 : Ext (· = g) w7 w8 := Keep.to kk
    clear kk
    have hc := lit_consD w8 (fun q => w.heap.size ≤ q ∧ q ≠ b) 185 [[], [2], [], []] [_, _, _, _] 4 (by omega) ⟨_, _, rfl, iw5, _, _, rfl, iw6, _, _, rfl, iw7, _, _, rfl, iw8, rfl⟩ rfl (by omega)
    have kk := Keep.al w8 (.cells #[.slice (some ⟨w4.heap.size, 0, none⟩) 0 0, .slice (some ⟨w5.heap.size, 0, none⟩) 1 1, .slice (some ⟨w6.heap.size, 0, none⟩) 0 0, .slice (some ⟨w7.heap.size, 0, none⟩) 0 0] 185)
    replace hA := hA.keep kk
    replace hrw8 := hrw8.keep kk
    go_wp2_with fail
    refine (pickX B g _ _ _ hrw8 (by omega) (by omega)).mono ?_
    rintro e w9 ⟨v9, rfl, hv9, _, hrw9, xw9⟩
    obtain ⟨hv90, hv91⟩ := hv9 (by omega)
    clear hv9
    have zw9 := xw9.size
    replace hA := hA.ext xw9 (fun q _ hq' => hS q hq')
    simp at zw9
    replace hc := hc.ext xw9 (fun q hq e => by omega)
    have x49 := ((((((x13.trans xw4).trans xw5).trans xw6).trans xw7).trans xw8).trans (Keep.to kk)).trans xw9
    have hv9 : v9 = 0 ∨ v9 = 1 ∨ v9 = 2 := by omega
    clear iw5 iw6 iw7 iw8 kk xw4 xw5 xw6 xw7 xw8 xw9
    obtain ⟨⟨u0, c0⟩, ⟨u1, c1⟩, ⟨u2, c2⟩, g0, g1, g2⟩ := hA.slot hkl
    rcases hv9 with rfl | rfl | rfl
    · have hc2 := hc.suffix (m := 0) (by omega)
      simp only [List.drop_zero, List.map_cons, List.map_nil] at hc2
      clear hc
      go_wp2_with fail
      exact fin_ hQ ⟨_, ds.set k ⟨v4, 0, [[], [2], [], []]⟩, p + 1 + 1 + 1 + 1 + 1, by simp; omega, by simp; omega, rfl, hA.putD rfl hkd hc2, hrw9.ext (put3x _ _ _ _ _ _) (fun q hq e => by omega), by omega, x49.then_ (put3x _ _ _ _ _ _) (fun q hq e => by omega)⟩
    · have hc2 := hc.suffix (m := 1) (by omega)
      simp only [List.drop_zero, List.drop_succ_cons, List.map_cons, List.map_nil] at hc2
      clear hc
      go_wp2_with fail
      exact fin_ hQ ⟨_, ds.set k ⟨v4, 0, [[2], [], []]⟩, p + 1 + 1 + 1 + 1 + 1, by simp; omega, by simp; omega, rfl, hA.putD rfl hkd hc2, hrw9.ext (put3x _ _ _ _ _ _) (fun q hq e => by omega), by omega, x49.then_ (put3x _ _ _ _ _ _) (fun q hq e => by omega)⟩
    · have hc2 := hc.suffix (m := 2) (by omega)
      simp only [List.drop_zero, List.drop_succ_cons, List.map_cons, List.map_nil] at hc2
      clear hc
      go_wp2_with fail
      exact fin_ hQ ⟨_, ds.set k ⟨v4, 0, [[], []]⟩, p + 1 + 1 + 1 + 1 + 1, by simp; omega, by simp; omega, rfl, hA.putD rfl hkd hc2, hrw9.ext (put3x _ _ _ _ _ _) (fun q hq e => by omega), by omega, x49.then_ (put3x _ _ _ _ _ _) (fun q hq e => by omega)⟩
  have t4 : ((z : Int) == 4) = false := beq_eq_false_iff_ne.2 y4
  clear y4
  by_cases y5 : z = 5
  · subst y5
    have hX := lit_declsD w3 (fun q => w.heap.size ≤ q ∧ q ≠ b) 138 [(⟨0, 0, []⟩ : DeclL), (⟨3, 0, []⟩ : DeclL)] [.int .i64 0, .int .i64 0, .slice none 0 0, .int .i64 3, .int .i64 0, .slice none 0 0] 2 (by omega) ⟨_, _, rfl, Rd.nilC _ _ none 0, _, _, rfl, Rd.nilC _ _ none 0, rfl⟩ rfl (by omega)
    replace hA := hA.keep (Keep.al w3 (.cells #[.int .i64 0, .int .i64 0, .slice none 0 0, .int .i64 3, .int .i64 0, .slice none 0 0] 138))
    go_wp2_with (at_builtin; refine wpList_appR _ rfl (.tmp 83) (.tmp 86) 33 rfl w.heap.size 138 (.agg #[.int .i64 0, .int .i64 0, .slice none 0 0]) 3 40 Try.underlying33 (by kernel_rfl) rfl (by omega) (fun b => w.heap.size ≤ b) _ _ rfl hA _ 2 2 _ _ rfl hX (fun q _ hq => ⟨hq.1, by show some b ≠ some q; intro h; injection h; omega⟩) (by simp; omega) (by simp; omega) (by simp; omega) ?_; intro v1 w10 hB xB sB)
    have xa := (Keep.to (S := fun q => w.heap.size ≤ q) (Keep.al _ _)).trans xB
    have hB2 : AccR w10 w.heap.size (fun b => w.heap.size ≤ b) 138 3 v1 ((ds ++ [(⟨0, 0, []⟩ : DeclL), (⟨3, 0, []⟩ : DeclL)]).map rowD) := by rw [List.map_append]; exact hB
    exact fin_ hQ ⟨v1, ds ++ [(⟨0, 0, []⟩ : DeclL), (⟨3, 0, []⟩ : DeclL)], p + 1 + 1 + 1, by simp; omega, by simp; omega, rfl, hB2, hrw3.ext xa (fun q hq e => by omega), by omega, x13.then_ xa (fun q hq e => by omega)⟩
  have t5 : ((z : Int) == 5) = false := beq_eq_false_iff_ne.2 y5
  clear y5
  go_wp2_with fail
  exact fin_ hQ ⟨_, ds, p + 1 + 1 + 1, by omega, by omega, rfl, hA, hrw3, by omega, x13⟩
end Go.Proofs.Ytaeddcnakilnlaa
