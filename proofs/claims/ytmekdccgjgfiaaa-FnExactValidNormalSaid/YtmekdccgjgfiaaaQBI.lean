/- The laws' own helpers: copies of data. -/
import Derived.Test.YtmekdccgjgfiaaaQAF
import Derived.StillTailTactics
import Derived.IntWalk
namespace Go.Proofs.Ytmekdccgjgfiaaa
open Go.RowKit


def ToC (f : FuncId) (d : Dat) : Prop := ∀ (a : Option Addr) (n c : Nat) (D : Nat → Prop) (w : World), Rd w D d (.slice a n c) → szD d ≤ 1048576 →
  Calls Try.prog f #[.slice a n c] w fun e w' => ∃ a', e = .returned (.slice a' n n) ∧ Own w' (fun k => w.heap.size ≤ k) d (.slice a' n n) ∧ Keep w w'
theorem keep_set {w w' : World} {b o : Nat} {us : List Value} (k : Keep w w') (h : w.heap.size ≤ b) : Keep w (setAll w' b o us) := k.then_ (setAll_ext w' b o us) (fun i hi e => by omega)
theorem setAll_size (w : World) (b o : Nat) (us : List Value) : (setAll w b o us).heap.size = w.heap.size := by
  induction us generalizing w o with
  | nil => rfl
  | cons u us ih => simp only [setAll, ih, World.size_setCell]


set_option maxHeartbeats 2000000 in
theorem toCon (D : Nat → Prop) (w : World) (a0 : Option Addr) (n0 c0 : Nat) (d0 : Dat) (r0 : Rd w D d0 (.slice a0 n0 c0)) (y0 : szD d0 ≤ 1048576) (k0 : ToC 9 d0) :
    Calls Try.prog 86 #[.agg #[.slice a0 n0 c0]] w fun e w' => ∃ b0, e = .returned (.agg #[.slice b0 n0 n0]) ∧ ToS w.heap.size w'.heap.size w' [d0] [.slice b0 n0 n0] ∧ Keep w w' := by
  refine calls_k fun Q hQ => ?_
  have K : Keep w (((w.alloc (.cells #[.slice a0 n0 c0] 133)).alloc (.cells #[.slice none 0 0] 134)).alloc (.cells #[.slice none 0 0] 134)) := (Keep.al _ _).trans ((Keep.al _ _).trans (Keep.al _ _))
  have R0 := ((rowOf w #[.slice a0 n0 c0] 133).alloc (.cells #[.slice none 0 0] 134)).alloc (.cells #[.slice none 0 0] 134)
  have R1 := (rowOf (w.alloc (.cells #[.slice a0 n0 c0] 133)) #[.slice none 0 0] 134).alloc (.cells #[.slice none 0 0] 134)
  have R2 := rowOf ((w.alloc (.cells #[.slice a0 n0 c0] 133)).alloc (.cells #[.slice none 0 0] 134)) #[.slice none 0 0] 134
  have q0 := r0.lt.k K
  have S0 : w.heap.size + 3 = (((w.alloc (.cells #[.slice a0 n0 c0] 133)).alloc (.cells #[.slice none 0 0] 134)).alloc (.cells #[.slice none 0 0] 134)).heap.size := by simp
  clear r0
  simp only [World.size_alloc] at R1 R2
  go_enter Try.func86, Try.ntmps86
  go_wp2_with fail
  refine (k0 _ _ _ _ _ q0 y0).mono ?_
  rintro e w1 ⟨b0, rfl, o0, p1⟩
  rw [← S0] at o0
  have t1 := ToS.own o0
  clear o0
  have zw1 := p1.size
  simp only [World.size_alloc] at zw1
  replace K := K.trans p1
  replace R0 := row_ext R0 p1 (fun h => h)
  replace R1 := row_ext R1 p1 (fun h => h)
  replace R2 := row_ext R2 p1 (fun h => h)
  replace q0 := q0.k p1
  have v0 := R2.cell (i := 0) (by simp)
  have x0 := R0.cell (i := 0) (by simp)
  have u0 := R1.cell (i := 0) (by simp)
  have f2 := R2.frozen
  have f1 := R1.frozen
  have g0 := f2 0
  have h0 := f1 0
  clear f2 f1
  simp at v0 x0 u0
  have X := (((Ext.refl (fun q => q < w.heap.size + 3) w1).setCell (p := ⟨w.heap.size + 1 + 1, 0, none⟩) (.inr (by simp)) (.slice b0 n0 n0)).setCell (p := ⟨w.heap.size + 1, 0, none⟩) (.inr (by simp)) (.slice b0 n0 n0))
  replace t1 := t1.ext X (fun q h1 h2 h3 => by omega)
  replace K := ((K.setCell (p := ⟨w.heap.size + 1 + 1, 0, none⟩) (.inl (by simp; omega)) (.slice b0 n0 n0)).setCell (p := ⟨w.heap.size + 1, 0, none⟩) (.inl (by simp)) (.slice b0 n0 n0))
  clear X R0 R1 R2 q0
  go_wp2_with fail
  refine bodyPost_ret (v := .agg #[.slice b0 n0 n0]) (by simp [results, Try.results86, go_sem, u0]) rfl (fin_ hQ ⟨b0, rfl, ?_, K⟩)
  simp only [World.size_setCell]
  exact ((ToS.nil w.heap.size (w.heap.size + 3) _).app (t1.wide (lo' := w.heap.size + 3) (hi' := w1.heap.size) (by omega) (by omega)) (by omega) (by omega))

set_option maxHeartbeats 2000000 in
theorem toDecl (D : Nat → Prop) (w : World) (z0 : Int) (z1 : Int) (a2 : Option Addr) (n2 c2 : Nat) (d2 : Dat) (r2 : Rd w D d2 (.slice a2 n2 c2)) (y2 : szD d2 ≤ 1048576) (k2 : ToC 71 d2) :
    Calls Try.prog 46 #[.agg #[.int .i64 z0, .int .i64 z1, .slice a2 n2 c2]] w fun e w' => ∃ b2, e = .returned (.agg #[.int .i64 z0, .int .i64 z1, .slice b2 n2 n2]) ∧ ToS w.heap.size w'.heap.size w' [.num z0, .num z1, d2] [.int .i64 z0, .int .i64 z1, .slice b2 n2 n2] ∧ Keep w w' := by
  refine calls_k fun Q hQ => ?_
  have K : Keep w (((w.alloc (.cells #[.int .i64 z0, .int .i64 z1, .slice a2 n2 c2] 71)).alloc (.cells #[.int .i64 0, .int .i64 0, .slice none 0 0] 93)).alloc (.cells #[.int .i64 z0, .int .i64 z1, .slice none 0 0] 93)) := (Keep.al _ _).trans ((Keep.al _ _).trans (Keep.al _ _))
  have R0 := ((rowOf w #[.int .i64 z0, .int .i64 z1, .slice a2 n2 c2] 71).alloc (.cells #[.int .i64 0, .int .i64 0, .slice none 0 0] 93)).alloc (.cells #[.int .i64 z0, .int .i64 z1, .slice none 0 0] 93)
  have R1 := (rowOf (w.alloc (.cells #[.int .i64 z0, .int .i64 z1, .slice a2 n2 c2] 71)) #[.int .i64 0, .int .i64 0, .slice none 0 0] 93).alloc (.cells #[.int .i64 z0, .int .i64 z1, .slice none 0 0] 93)
  have R2 := rowOf ((w.alloc (.cells #[.int .i64 z0, .int .i64 z1, .slice a2 n2 c2] 71)).alloc (.cells #[.int .i64 0, .int .i64 0, .slice none 0 0] 93)) #[.int .i64 z0, .int .i64 z1, .slice none 0 0] 93
  have q2 := r2.lt.k K
  have S0 : w.heap.size + 3 = (((w.alloc (.cells #[.int .i64 z0, .int .i64 z1, .slice a2 n2 c2] 71)).alloc (.cells #[.int .i64 0, .int .i64 0, .slice none 0 0] 93)).alloc (.cells #[.int .i64 z0, .int .i64 z1, .slice none 0 0] 93)).heap.size := by simp
  clear r2
  simp only [World.size_alloc] at R1 R2
  go_enter Try.func46, Try.ntmps46
  go_wp2_with fail
  refine (k2 _ _ _ _ _ q2 y2).mono ?_
  rintro e w1 ⟨b2, rfl, o2, p1⟩
  rw [← S0] at o2
  have t1 := ToS.own o2
  clear o2
  have zw1 := p1.size
  simp only [World.size_alloc] at zw1
  replace K := K.trans p1
  replace R0 := row_ext R0 p1 (fun h => h)
  replace R1 := row_ext R1 p1 (fun h => h)
  replace R2 := row_ext R2 p1 (fun h => h)
  replace q2 := q2.k p1
  have v0 := R2.cell (i := 0) (by simp)
  have x0 := R0.cell (i := 0) (by simp)
  have u0 := R1.cell (i := 0) (by simp)
  have v1 := R2.cell (i := 1) (by simp)
  have x1 := R0.cell (i := 1) (by simp)
  have u1 := R1.cell (i := 1) (by simp)
  have v2 := R2.cell (i := 2) (by simp)
  have x2 := R0.cell (i := 2) (by simp)
  have u2 := R1.cell (i := 2) (by simp)
  have f2 := R2.frozen
  have f1 := R1.frozen
  have g0 := f2 0
  have h0 := f1 0
  have g1 := f2 1
  have h1 := f1 1
  have g2 := f2 2
  have h2 := f1 2
  clear f2 f1
  simp at v0 x0 u0 v1 x1 u1 v2 x2 u2
  have X := (((((Ext.refl (fun q => q < w.heap.size + 3) w1).setCell (p := ⟨w.heap.size + 1 + 1, 2, none⟩) (.inr (by simp)) (.slice b2 n2 n2)).setCell (p := ⟨w.heap.size + 1, 0, none⟩) (.inr (by simp)) (.int .i64 z0)).setCell (p := ⟨w.heap.size + 1, 1, none⟩) (.inr (by simp)) (.int .i64 z1)).setCell (p := ⟨w.heap.size + 1, 2, none⟩) (.inr (by simp)) (.slice b2 n2 n2))
  replace t1 := t1.ext X (fun q h1 h2 h3 => by omega)
  replace K := ((((K.setCell (p := ⟨w.heap.size + 1 + 1, 2, none⟩) (.inl (by simp; omega)) (.slice b2 n2 n2)).setCell (p := ⟨w.heap.size + 1, 0, none⟩) (.inl (by simp)) (.int .i64 z0)).setCell (p := ⟨w.heap.size + 1, 1, none⟩) (.inl (by simp)) (.int .i64 z1)).setCell (p := ⟨w.heap.size + 1, 2, none⟩) (.inl (by simp)) (.slice b2 n2 n2))
  clear X R0 R1 R2 q2
  go_wp2_with fail
  refine bodyPost_ret (v := .agg #[.int .i64 z0, .int .i64 z1, .slice b2 n2 n2]) (by simp [results, Try.results46, go_sem, u0, u1, u2]) rfl (fin_ hQ ⟨b2, rfl, ?_, K⟩)
  simp only [World.size_setCell]
  exact ((((ToS.nil w.heap.size (w.heap.size + 3) _).app (ToS.int (w.heap.size + 3) (w.heap.size + 3) _ z0) (by omega) (by omega)).app (ToS.int (w.heap.size + 3) (w.heap.size + 3) _ z1) (by omega) (by omega)).app (t1.wide (lo' := w.heap.size + 3) (hi' := w1.heap.size) (by omega) (by omega)) (by omega) (by omega))



set_option maxHeartbeats 2000000 in
theorem toStep (D : Nat → Prop) (w : World) (z0 : Int) (z1 : Int) (z2 : Int) (a3 : Option Addr) (n3 c3 : Nat) (d3 : Dat) (a4 : Option Addr) (n4 c4 : Nat) (d4 : Dat) (r3 : Rd w D d3 (.slice a3 n3 c3)) (y3 : szD d3 ≤ 1048576) (r4 : Rd w D d4 (.slice a4 n4 c4)) (y4 : szD d4 ≤ 1048576) (k3 : ToC 9 d3) (k4 : ToC 72 d4) :
    Calls Try.prog 48 #[.agg #[.int .i64 z0, .int .i64 z1, .int .i64 z2, .slice a3 n3 c3, .slice a4 n4 c4]] w fun e w' => ∃ b3 b4, e = .returned (.agg #[.int .i64 z0, .int .i64 z1, .int .i64 z2, .slice b3 n3 n3, .slice b4 n4 n4]) ∧ ToS w.heap.size w'.heap.size w' [.num z0, .num z1, .num z2, d3, d4] [.int .i64 z0, .int .i64 z1, .int .i64 z2, .slice b3 n3 n3, .slice b4 n4 n4] ∧ Keep w w' := by
  refine calls_k fun Q hQ => ?_
  have K : Keep w (((w.alloc (.cells #[.int .i64 z0, .int .i64 z1, .int .i64 z2, .slice a3 n3 c3, .slice a4 n4 c4] 78)).alloc (.cells #[.int .i64 0, .int .i64 0, .int .i64 0, .slice none 0 0, .slice none 0 0] 89)).alloc (.cells #[.int .i64 z0, .int .i64 z1, .int .i64 z2, .slice none 0 0, .slice none 0 0] 89)) := (Keep.al _ _).trans ((Keep.al _ _).trans (Keep.al _ _))
  have R0 := ((rowOf w #[.int .i64 z0, .int .i64 z1, .int .i64 z2, .slice a3 n3 c3, .slice a4 n4 c4] 78).alloc (.cells #[.int .i64 0, .int .i64 0, .int .i64 0, .slice none 0 0, .slice none 0 0] 89)).alloc (.cells #[.int .i64 z0, .int .i64 z1, .int .i64 z2, .slice none 0 0, .slice none 0 0] 89)
  have R1 := (rowOf (w.alloc (.cells #[.int .i64 z0, .int .i64 z1, .int .i64 z2, .slice a3 n3 c3, .slice a4 n4 c4] 78)) #[.int .i64 0, .int .i64 0, .int .i64 0, .slice none 0 0, .slice none 0 0] 89).alloc (.cells #[.int .i64 z0, .int .i64 z1, .int .i64 z2, .slice none 0 0, .slice none 0 0] 89)
  have R2 := rowOf ((w.alloc (.cells #[.int .i64 z0, .int .i64 z1, .int .i64 z2, .slice a3 n3 c3, .slice a4 n4 c4] 78)).alloc (.cells #[.int .i64 0, .int .i64 0, .int .i64 0, .slice none 0 0, .slice none 0 0] 89)) #[.int .i64 z0, .int .i64 z1, .int .i64 z2, .slice none 0 0, .slice none 0 0] 89
  have q3 := r3.lt.k K
  have q4 := r4.lt.k K
  have S0 : w.heap.size + 3 = (((w.alloc (.cells #[.int .i64 z0, .int .i64 z1, .int .i64 z2, .slice a3 n3 c3, .slice a4 n4 c4] 78)).alloc (.cells #[.int .i64 0, .int .i64 0, .int .i64 0, .slice none 0 0, .slice none 0 0] 89)).alloc (.cells #[.int .i64 z0, .int .i64 z1, .int .i64 z2, .slice none 0 0, .slice none 0 0] 89)).heap.size := by simp
  clear r3 r4
  simp only [World.size_alloc] at R1 R2
  go_enter Try.func48, Try.ntmps48
  go_wp2_with fail
  refine (k3 _ _ _ _ _ q3 y3).mono ?_
  rintro e w1 ⟨b3, rfl, o3, p1⟩
  rw [← S0] at o3
  have t1 := ToS.own o3
  clear o3
  have zw1 := p1.size
  simp only [World.size_alloc] at zw1
  replace K := K.trans p1
  replace R0 := row_ext R0 p1 (fun h => h)
  replace R1 := row_ext R1 p1 (fun h => h)
  replace R2 := row_ext R2 p1 (fun h => h)
  replace q3 := q3.k p1
  replace q4 := q4.k p1
  have v0 := R2.cell (i := 0) (by simp)
  have x0 := R0.cell (i := 0) (by simp)
  have v1 := R2.cell (i := 1) (by simp)
  have x1 := R0.cell (i := 1) (by simp)
  have v2 := R2.cell (i := 2) (by simp)
  have x2 := R0.cell (i := 2) (by simp)
  have v3 := R2.cell (i := 3) (by simp)
  have x3 := R0.cell (i := 3) (by simp)
  have v4 := R2.cell (i := 4) (by simp)
  have x4 := R0.cell (i := 4) (by simp)
  have f2 := R2.frozen
  have g0 := f2 0
  have g1 := f2 1
  have g2 := f2 2
  have g3 := f2 3
  have g4 := f2 4
  clear f2
  simp at v0 x0 v1 x1 v2 x2 v3 x3 v4 x4
  have X := ((Ext.refl (fun q => q < w.heap.size + 3 ∧ w.heap.size + 2 ≤ q) w1).setCell (p := ⟨w.heap.size + 1 + 1, 3, none⟩) (.inr (by simp)) (.slice b3 n3 n3))
  replace R0 := row_ext R0 X (by omega)
  replace R1 := row_ext R1 X (by omega)
  replace R2 := R2.set 3 (.slice b3 n3 n3)
  replace t1 := t1.ext X (fun q h1 h2 h3 => by omega)
  replace q3 := q3.ext X (fun q h1 h2 => by have := h1.2; omega)
  replace q4 := q4.ext X (fun q h1 h2 => by have := h1.2; omega)
  replace K := K.then_ X (fun q h1 h2 => by omega)
  clear X
  have x0 := R0.cell (i := 0) (by simp)
  have x1 := R0.cell (i := 1) (by simp)
  have x2 := R0.cell (i := 2) (by simp)
  have x3 := R0.cell (i := 3) (by simp)
  have x4 := R0.cell (i := 4) (by simp)
  simp at x0 x1 x2 x3 x4
  go_wp2_with fail
  clear x0 x1 x2 x3 x4
  refine (k4 _ _ _ _ _ q4 y4).mono ?_
  rintro e w2 ⟨b4, rfl, o4, p2⟩
  have t2 := ToS.own o4
  clear o4
  simp only [World.size_setCell] at t2
  have zw2 := p2.size
  simp only [World.size_setCell] at zw2
  replace K := K.trans p2
  replace t1 := t1.ext p2 (fun _ _ _ h => h)
  replace R0 := row_ext R0 p2 (fun h => h)
  replace R1 := row_ext R1 p2 (fun h => h)
  replace R2 := row_ext R2 p2 (fun h => h)
  replace q3 := q3.k p2
  replace q4 := q4.k p2
  have v0 := R2.cell (i := 0) (by simp)
  have x0 := R0.cell (i := 0) (by simp)
  have u0 := R1.cell (i := 0) (by simp)
  have v1 := R2.cell (i := 1) (by simp)
  have x1 := R0.cell (i := 1) (by simp)
  have u1 := R1.cell (i := 1) (by simp)
  have v2 := R2.cell (i := 2) (by simp)
  have x2 := R0.cell (i := 2) (by simp)
  have u2 := R1.cell (i := 2) (by simp)
  have v3 := R2.cell (i := 3) (by simp)
  have x3 := R0.cell (i := 3) (by simp)
  have u3 := R1.cell (i := 3) (by simp)
  have v4 := R2.cell (i := 4) (by simp)
  have x4 := R0.cell (i := 4) (by simp)
  have u4 := R1.cell (i := 4) (by simp)
  have f2 := R2.frozen
  have f1 := R1.frozen
  have g0 := f2 0
  have h0 := f1 0
  have g1 := f2 1
  have h1 := f1 1
  have g2 := f2 2
  have h2 := f1 2
  have g3 := f2 3
  have h3 := f1 3
  have g4 := f2 4
  have h4 := f1 4
  clear f2 f1
  simp at v0 x0 u0 v1 x1 u1 v2 x2 u2 v3 x3 u3 v4 x4 u4
  have X := (((((((Ext.refl (fun q => q < w.heap.size + 3) w2).setCell (p := ⟨w.heap.size + 1 + 1, 4, none⟩) (.inr (by simp)) (.slice b4 n4 n4)).setCell (p := ⟨w.heap.size + 1, 0, none⟩) (.inr (by simp)) (.int .i64 z0)).setCell (p := ⟨w.heap.size + 1, 1, none⟩) (.inr (by simp)) (.int .i64 z1)).setCell (p := ⟨w.heap.size + 1, 2, none⟩) (.inr (by simp)) (.int .i64 z2)).setCell (p := ⟨w.heap.size + 1, 3, none⟩) (.inr (by simp)) (.slice b3 n3 n3)).setCell (p := ⟨w.heap.size + 1, 4, none⟩) (.inr (by simp)) (.slice b4 n4 n4))
  replace t1 := t1.ext X (fun q h1 h2 h3 => by omega)
  replace t2 := t2.ext X (fun q h1 h2 h3 => by omega)
  replace K := ((((((K.setCell (p := ⟨w.heap.size + 1 + 1, 4, none⟩) (.inl (by simp; omega)) (.slice b4 n4 n4)).setCell (p := ⟨w.heap.size + 1, 0, none⟩) (.inl (by simp)) (.int .i64 z0)).setCell (p := ⟨w.heap.size + 1, 1, none⟩) (.inl (by simp)) (.int .i64 z1)).setCell (p := ⟨w.heap.size + 1, 2, none⟩) (.inl (by simp)) (.int .i64 z2)).setCell (p := ⟨w.heap.size + 1, 3, none⟩) (.inl (by simp)) (.slice b3 n3 n3)).setCell (p := ⟨w.heap.size + 1, 4, none⟩) (.inl (by simp)) (.slice b4 n4 n4))
  clear X R0 R1 R2 q3 q4
  go_wp2_with fail
  refine bodyPost_ret (v := .agg #[.int .i64 z0, .int .i64 z1, .int .i64 z2, .slice b3 n3 n3, .slice b4 n4 n4]) (by simp [results, Try.results48, go_sem, u0, u1, u2, u3, u4]) rfl (fin_ hQ ⟨b3, b4, rfl, ?_, K⟩)
  simp only [World.size_setCell]
  exact ((((((ToS.nil w.heap.size (w.heap.size + 3) _).app (ToS.int (w.heap.size + 3) (w.heap.size + 3) _ z0) (by omega) (by omega)).app (ToS.int (w.heap.size + 3) (w.heap.size + 3) _ z1) (by omega) (by omega)).app (ToS.int (w.heap.size + 3) (w.heap.size + 3) _ z2) (by omega) (by omega)).app (t1.wide (lo' := w.heap.size + 3) (hi' := w1.heap.size) (by omega) (by omega)) (by omega) (by omega)).app (t2.wide (lo' := w1.heap.size) (hi' := w2.heap.size) (by omega) (by omega)) (by omega) (by omega))

set_option maxHeartbeats 2000000 in
theorem toBlock (D : Nat → Prop) (w : World) (a0 : Option Addr) (n0 c0 : Nat) (d0 : Dat) (z1 : Int) (r0 : Rd w D d0 (.slice a0 n0 c0)) (y0 : szD d0 ≤ 1048576) (k0 : ToC 26 d0) :
    Calls Try.prog 10 #[.agg #[.slice a0 n0 c0, .int .i64 z1]] w fun e w' => ∃ b0, e = .returned (.agg #[.slice b0 n0 n0, .int .i64 z1]) ∧ ToS w.heap.size w'.heap.size w' [d0, .num z1] [.slice b0 n0 n0, .int .i64 z1] ∧ Keep w w' := by
  refine calls_k fun Q hQ => ?_
  have K : Keep w (((w.alloc (.cells #[.slice a0 n0 c0, .int .i64 z1] 29)).alloc (.cells #[.slice none 0 0, .int .i64 0] 41)).alloc (.cells #[.slice none 0 0, .int .i64 0] 41)) := (Keep.al _ _).trans ((Keep.al _ _).trans (Keep.al _ _))
  have R0 := ((rowOf w #[.slice a0 n0 c0, .int .i64 z1] 29).alloc (.cells #[.slice none 0 0, .int .i64 0] 41)).alloc (.cells #[.slice none 0 0, .int .i64 0] 41)
  have R1 := (rowOf (w.alloc (.cells #[.slice a0 n0 c0, .int .i64 z1] 29)) #[.slice none 0 0, .int .i64 0] 41).alloc (.cells #[.slice none 0 0, .int .i64 0] 41)
  have R2 := rowOf ((w.alloc (.cells #[.slice a0 n0 c0, .int .i64 z1] 29)).alloc (.cells #[.slice none 0 0, .int .i64 0] 41)) #[.slice none 0 0, .int .i64 0] 41
  have q0 := r0.lt.k K
  have S0 : w.heap.size + 3 = (((w.alloc (.cells #[.slice a0 n0 c0, .int .i64 z1] 29)).alloc (.cells #[.slice none 0 0, .int .i64 0] 41)).alloc (.cells #[.slice none 0 0, .int .i64 0] 41)).heap.size := by simp
  clear r0
  simp only [World.size_alloc] at R1 R2
  go_enter Try.func10, Try.ntmps10
  go_wp2_with fail
  refine (k0 _ _ _ _ _ q0 y0).mono ?_
  rintro e w1 ⟨b0, rfl, o0, p1⟩
  rw [← S0] at o0
  have t1 := ToS.own o0
  clear o0
  have zw1 := p1.size
  simp only [World.size_alloc] at zw1
  replace K := K.trans p1
  replace R0 := row_ext R0 p1 (fun h => h)
  replace R1 := row_ext R1 p1 (fun h => h)
  replace R2 := row_ext R2 p1 (fun h => h)
  replace q0 := q0.k p1
  have v0 := R2.cell (i := 0) (by simp)
  have x0 := R0.cell (i := 0) (by simp)
  have u0 := R1.cell (i := 0) (by simp)
  have v1 := R2.cell (i := 1) (by simp)
  have x1 := R0.cell (i := 1) (by simp)
  have u1 := R1.cell (i := 1) (by simp)
  have f2 := R2.frozen
  have f1 := R1.frozen
  have g0 := f2 0
  have h0 := f1 0
  have g1 := f2 1
  have h1 := f1 1
  clear f2 f1
  simp at v0 x0 u0 v1 x1 u1
  have X := (((((Ext.refl (fun q => q < w.heap.size + 3) w1).setCell (p := ⟨w.heap.size + 1 + 1, 0, none⟩) (.inr (by simp)) (.slice b0 n0 n0)).setCell (p := ⟨w.heap.size + 1 + 1, 1, none⟩) (.inr (by simp)) (.int .i64 z1)).setCell (p := ⟨w.heap.size + 1, 0, none⟩) (.inr (by simp)) (.slice b0 n0 n0)).setCell (p := ⟨w.heap.size + 1, 1, none⟩) (.inr (by simp)) (.int .i64 z1))
  replace t1 := t1.ext X (fun q h1 h2 h3 => by omega)
  replace K := ((((K.setCell (p := ⟨w.heap.size + 1 + 1, 0, none⟩) (.inl (by simp; omega)) (.slice b0 n0 n0)).setCell (p := ⟨w.heap.size + 1 + 1, 1, none⟩) (.inl (by simp; omega)) (.int .i64 z1)).setCell (p := ⟨w.heap.size + 1, 0, none⟩) (.inl (by simp)) (.slice b0 n0 n0)).setCell (p := ⟨w.heap.size + 1, 1, none⟩) (.inl (by simp)) (.int .i64 z1))
  clear X R0 R1 R2 q0
  go_wp2_with fail
  refine bodyPost_ret (v := .agg #[.slice b0 n0 n0, .int .i64 z1]) (by simp [results, Try.results10, go_sem, u0, u1]) rfl (fin_ hQ ⟨b0, rfl, ?_, K⟩)
  simp only [World.size_setCell]
  exact (((ToS.nil w.heap.size (w.heap.size + 3) _).app (t1.wide (lo' := w.heap.size + 3) (hi' := w1.heap.size) (by omega) (by omega)) (by omega) (by omega)).app (ToS.int (w1.heap.size) (w1.heap.size) _ z1) (by omega) (by omega))

set_option maxHeartbeats 2000000 in
theorem toRoutine (D : Nat → Prop) (w : World) (a0 : Option Addr) (n0 c0 : Nat) (d0 : Dat) (a1 : Option Addr) (n1 c1 : Nat) (d1 : Dat) (z2 : Int) (a3 : Option Addr) (n3 c3 : Nat) (d3 : Dat) (z4 : Int) (r0 : Rd w D d0 (.slice a0 n0 c0)) (y0 : szD d0 ≤ 1048576) (r1 : Rd w D d1 (.slice a1 n1 c1)) (y1 : szD d1 ≤ 1048576) (r3 : Rd w D d3 (.slice a3 n3 c3)) (y3 : szD d3 ≤ 1048576) (k0 : ToC 9 d0) (k1 : ToC 9 d1) (k3 : ToC 26 d3) :
    Calls Try.prog 47 #[.agg #[.slice a0 n0 c0, .slice a1 n1 c1, .int .i64 z2, .slice a3 n3 c3, .int .i64 z4]] w fun e w' => ∃ b0 b1 b3, e = .returned (.agg #[.slice b0 n0 n0, .slice b1 n1 n1, .int .i64 z2, .slice b3 n3 n3, .int .i64 z4]) ∧ ToS w.heap.size w'.heap.size w' [d0, d1, .num z2, d3, .num z4] [.slice b0 n0 n0, .slice b1 n1 n1, .int .i64 z2, .slice b3 n3 n3, .int .i64 z4] ∧ Keep w w' := by
  refine calls_k fun Q hQ => ?_
  have K : Keep w (((w.alloc (.cells #[.slice a0 n0 c0, .slice a1 n1 c1, .int .i64 z2, .slice a3 n3 c3, .int .i64 z4] 74)).alloc (.cells #[.slice none 0 0, .slice none 0 0, .int .i64 0, .slice none 0 0, .int .i64 0] 67)).alloc (.cells #[.slice none 0 0, .slice none 0 0, .int .i64 0, .slice none 0 0, .int .i64 0] 67)) := (Keep.al _ _).trans ((Keep.al _ _).trans (Keep.al _ _))
  have R0 := ((rowOf w #[.slice a0 n0 c0, .slice a1 n1 c1, .int .i64 z2, .slice a3 n3 c3, .int .i64 z4] 74).alloc (.cells #[.slice none 0 0, .slice none 0 0, .int .i64 0, .slice none 0 0, .int .i64 0] 67)).alloc (.cells #[.slice none 0 0, .slice none 0 0, .int .i64 0, .slice none 0 0, .int .i64 0] 67)
  have R1 := (rowOf (w.alloc (.cells #[.slice a0 n0 c0, .slice a1 n1 c1, .int .i64 z2, .slice a3 n3 c3, .int .i64 z4] 74)) #[.slice none 0 0, .slice none 0 0, .int .i64 0, .slice none 0 0, .int .i64 0] 67).alloc (.cells #[.slice none 0 0, .slice none 0 0, .int .i64 0, .slice none 0 0, .int .i64 0] 67)
  have R2 := rowOf ((w.alloc (.cells #[.slice a0 n0 c0, .slice a1 n1 c1, .int .i64 z2, .slice a3 n3 c3, .int .i64 z4] 74)).alloc (.cells #[.slice none 0 0, .slice none 0 0, .int .i64 0, .slice none 0 0, .int .i64 0] 67)) #[.slice none 0 0, .slice none 0 0, .int .i64 0, .slice none 0 0, .int .i64 0] 67
  have q0 := r0.lt.k K
  have q1 := r1.lt.k K
  have q3 := r3.lt.k K
  have S0 : w.heap.size + 3 = (((w.alloc (.cells #[.slice a0 n0 c0, .slice a1 n1 c1, .int .i64 z2, .slice a3 n3 c3, .int .i64 z4] 74)).alloc (.cells #[.slice none 0 0, .slice none 0 0, .int .i64 0, .slice none 0 0, .int .i64 0] 67)).alloc (.cells #[.slice none 0 0, .slice none 0 0, .int .i64 0, .slice none 0 0, .int .i64 0] 67)).heap.size := by simp
  clear r0 r1 r3
  simp only [World.size_alloc] at R1 R2
  go_enter Try.func47, Try.ntmps47
  go_wp2_with fail
  refine (k0 _ _ _ _ _ q0 y0).mono ?_
  rintro e w1 ⟨b0, rfl, o0, p1⟩
  rw [← S0] at o0
  have t1 := ToS.own o0
  clear o0
  have zw1 := p1.size
  simp only [World.size_alloc] at zw1
  replace K := K.trans p1
  replace R0 := row_ext R0 p1 (fun h => h)
  replace R1 := row_ext R1 p1 (fun h => h)
  replace R2 := row_ext R2 p1 (fun h => h)
  replace q0 := q0.k p1
  replace q1 := q1.k p1
  replace q3 := q3.k p1
  have v0 := R2.cell (i := 0) (by simp)
  have x0 := R0.cell (i := 0) (by simp)
  have v1 := R2.cell (i := 1) (by simp)
  have x1 := R0.cell (i := 1) (by simp)
  have v2 := R2.cell (i := 2) (by simp)
  have x2 := R0.cell (i := 2) (by simp)
  have v3 := R2.cell (i := 3) (by simp)
  have x3 := R0.cell (i := 3) (by simp)
  have v4 := R2.cell (i := 4) (by simp)
  have x4 := R0.cell (i := 4) (by simp)
  have f2 := R2.frozen
  have g0 := f2 0
  have g1 := f2 1
  have g2 := f2 2
  have g3 := f2 3
  have g4 := f2 4
  clear f2
  simp at v0 x0 v1 x1 v2 x2 v3 x3 v4 x4
  have X := ((Ext.refl (fun q => q < w.heap.size + 3 ∧ w.heap.size + 2 ≤ q) w1).setCell (p := ⟨w.heap.size + 1 + 1, 0, none⟩) (.inr (by simp)) (.slice b0 n0 n0))
  replace R0 := row_ext R0 X (by omega)
  replace R1 := row_ext R1 X (by omega)
  replace R2 := R2.set 0 (.slice b0 n0 n0)
  replace t1 := t1.ext X (fun q h1 h2 h3 => by omega)
  replace q0 := q0.ext X (fun q h1 h2 => by have := h1.2; omega)
  replace q1 := q1.ext X (fun q h1 h2 => by have := h1.2; omega)
  replace q3 := q3.ext X (fun q h1 h2 => by have := h1.2; omega)
  replace K := K.then_ X (fun q h1 h2 => by omega)
  clear X
  have x0 := R0.cell (i := 0) (by simp)
  have x1 := R0.cell (i := 1) (by simp)
  have x2 := R0.cell (i := 2) (by simp)
  have x3 := R0.cell (i := 3) (by simp)
  have x4 := R0.cell (i := 4) (by simp)
  simp at x0 x1 x2 x3 x4
  go_wp2_with fail
  clear x0 x1 x2 x3 x4
  refine (k1 _ _ _ _ _ q1 y1).mono ?_
  rintro e w2 ⟨b1, rfl, o1, p2⟩
  have t2 := ToS.own o1
  clear o1
  simp only [World.size_setCell] at t2
  have zw2 := p2.size
  simp only [World.size_setCell] at zw2
  replace K := K.trans p2
  replace t1 := t1.ext p2 (fun _ _ _ h => h)
  replace R0 := row_ext R0 p2 (fun h => h)
  replace R1 := row_ext R1 p2 (fun h => h)
  replace R2 := row_ext R2 p2 (fun h => h)
  replace q0 := q0.k p2
  replace q1 := q1.k p2
  replace q3 := q3.k p2
  have v0 := R2.cell (i := 0) (by simp)
  have x0 := R0.cell (i := 0) (by simp)
  have v1 := R2.cell (i := 1) (by simp)
  have x1 := R0.cell (i := 1) (by simp)
  have v2 := R2.cell (i := 2) (by simp)
  have x2 := R0.cell (i := 2) (by simp)
  have v3 := R2.cell (i := 3) (by simp)
  have x3 := R0.cell (i := 3) (by simp)
  have v4 := R2.cell (i := 4) (by simp)
  have x4 := R0.cell (i := 4) (by simp)
  have f2 := R2.frozen
  have g0 := f2 0
  have g1 := f2 1
  have g2 := f2 2
  have g3 := f2 3
  have g4 := f2 4
  clear f2
  simp at v0 x0 v1 x1 v2 x2 v3 x3 v4 x4
  have X := (((Ext.refl (fun q => q < w.heap.size + 3 ∧ w.heap.size + 2 ≤ q) w2).setCell (p := ⟨w.heap.size + 1 + 1, 1, none⟩) (.inr (by simp)) (.slice b1 n1 n1)).setCell (p := ⟨w.heap.size + 1 + 1, 2, none⟩) (.inr (by simp)) (.int .i64 z2))
  replace R0 := row_ext R0 X (by omega)
  replace R1 := row_ext R1 X (by omega)
  replace R2 := R2.set 1 (.slice b1 n1 n1)
  replace R2 := R2.set 2 (.int .i64 z2)
  replace t1 := t1.ext X (fun q h1 h2 h3 => by omega)
  replace t2 := t2.ext X (fun q h1 h2 h3 => by omega)
  replace q0 := q0.ext X (fun q h1 h2 => by have := h1.2; omega)
  replace q1 := q1.ext X (fun q h1 h2 => by have := h1.2; omega)
  replace q3 := q3.ext X (fun q h1 h2 => by have := h1.2; omega)
  replace K := K.then_ X (fun q h1 h2 => by omega)
  clear X
  have x0 := R0.cell (i := 0) (by simp)
  have x1 := R0.cell (i := 1) (by simp)
  have x2 := R0.cell (i := 2) (by simp)
  have x3 := R0.cell (i := 3) (by simp)
  have x4 := R0.cell (i := 4) (by simp)
  simp at x0 x1 x2 x3 x4
  go_wp2_with fail
  clear x0 x1 x2 x3 x4
  refine (toBlock _ _ _ _ _ _ _ q3 y3 k3).mono ?_
  rintro e w3 ⟨b3, rfl, t3, p3⟩
  simp only [World.size_setCell] at t3
  have zw3 := p3.size
  simp only [World.size_setCell] at zw3
  replace K := K.trans p3
  replace t1 := t1.ext p3 (fun _ _ _ h => h)
  replace t2 := t2.ext p3 (fun _ _ _ h => h)
  replace R0 := row_ext R0 p3 (fun h => h)
  replace R1 := row_ext R1 p3 (fun h => h)
  replace R2 := row_ext R2 p3 (fun h => h)
  replace q0 := q0.k p3
  replace q1 := q1.k p3
  replace q3 := q3.k p3
  have v0 := R2.cell (i := 0) (by simp)
  have x0 := R0.cell (i := 0) (by simp)
  have u0 := R1.cell (i := 0) (by simp)
  have v1 := R2.cell (i := 1) (by simp)
  have x1 := R0.cell (i := 1) (by simp)
  have u1 := R1.cell (i := 1) (by simp)
  have v2 := R2.cell (i := 2) (by simp)
  have x2 := R0.cell (i := 2) (by simp)
  have u2 := R1.cell (i := 2) (by simp)
  have v3 := R2.cell (i := 3) (by simp)
  have x3 := R0.cell (i := 3) (by simp)
  have u3 := R1.cell (i := 3) (by simp)
  have v4 := R2.cell (i := 4) (by simp)
  have x4 := R0.cell (i := 4) (by simp)
  have u4 := R1.cell (i := 4) (by simp)
  have f2 := R2.frozen
  have f1 := R1.frozen
  have g0 := f2 0
  have h0 := f1 0
  have g1 := f2 1
  have h1 := f1 1
  have g2 := f2 2
  have h2 := f1 2
  have g3 := f2 3
  have h3 := f1 3
  have g4 := f2 4
  have h4 := f1 4
  clear f2 f1
  simp at v0 x0 u0 v1 x1 u1 v2 x2 u2 v3 x3 u3 v4 x4 u4
  have X := ((((((((Ext.refl (fun q => q < w.heap.size + 3) w3).setCell (p := ⟨w.heap.size + 1 + 1, 3, none⟩) (.inr (by simp)) (.slice b3 n3 n3)).setCell (p := ⟨w.heap.size + 1 + 1, 4, none⟩) (.inr (by simp)) (.int .i64 z4)).setCell (p := ⟨w.heap.size + 1, 0, none⟩) (.inr (by simp)) (.slice b0 n0 n0)).setCell (p := ⟨w.heap.size + 1, 1, none⟩) (.inr (by simp)) (.slice b1 n1 n1)).setCell (p := ⟨w.heap.size + 1, 2, none⟩) (.inr (by simp)) (.int .i64 z2)).setCell (p := ⟨w.heap.size + 1, 3, none⟩) (.inr (by simp)) (.slice b3 n3 n3)).setCell (p := ⟨w.heap.size + 1, 4, none⟩) (.inr (by simp)) (.int .i64 z4))
  replace t1 := t1.ext X (fun q h1 h2 h3 => by omega)
  replace t2 := t2.ext X (fun q h1 h2 h3 => by omega)
  replace t3 := t3.ext X (fun q h1 h2 h3 => by omega)
  replace K := (((((((K.setCell (p := ⟨w.heap.size + 1 + 1, 3, none⟩) (.inl (by simp; omega)) (.slice b3 n3 n3)).setCell (p := ⟨w.heap.size + 1 + 1, 4, none⟩) (.inl (by simp; omega)) (.int .i64 z4)).setCell (p := ⟨w.heap.size + 1, 0, none⟩) (.inl (by simp)) (.slice b0 n0 n0)).setCell (p := ⟨w.heap.size + 1, 1, none⟩) (.inl (by simp)) (.slice b1 n1 n1)).setCell (p := ⟨w.heap.size + 1, 2, none⟩) (.inl (by simp)) (.int .i64 z2)).setCell (p := ⟨w.heap.size + 1, 3, none⟩) (.inl (by simp)) (.slice b3 n3 n3)).setCell (p := ⟨w.heap.size + 1, 4, none⟩) (.inl (by simp)) (.int .i64 z4))
  clear X R0 R1 R2 q0 q1 q3
  go_wp2_with fail
  refine bodyPost_ret (v := .agg #[.slice b0 n0 n0, .slice b1 n1 n1, .int .i64 z2, .slice b3 n3 n3, .int .i64 z4]) (by simp [results, Try.results47, go_sem, u0, u1, u2, u3, u4]) rfl (fin_ hQ ⟨b0, b1, b3, rfl, ?_, K⟩)
  simp only [World.size_setCell]
  exact (((((ToS.nil w.heap.size (w.heap.size + 3) _).app (t1.wide (lo' := w.heap.size + 3) (hi' := w1.heap.size) (by omega) (by omega)) (by omega) (by omega)).app (t2.wide (lo' := w1.heap.size) (hi' := w2.heap.size) (by omega) (by omega)) (by omega) (by omega)).app (ToS.int (w2.heap.size) (w2.heap.size) _ z2) (by omega) (by omega)).app (t3.wide (lo' := w2.heap.size) (hi' := w3.heap.size) (by omega) (by omega)) (by omega) (by omega))


set_option maxHeartbeats 2000000 in
theorem toNormal (D : Nat → Prop) (w : World) (a0 : Option Addr) (n0 c0 : Nat) (d0 : Dat) (a1 : Option Addr) (n1 c1 : Nat) (d1 : Dat) (r0 : Rd w D d0 (.slice a0 n0 c0)) (y0 : szD d0 ≤ 1048576) (r1 : Rd w D d1 (.slice a1 n1 c1)) (y1 : szD d1 ≤ 1048576) (k0 : ToC 24 d0) (k1 : ToC 25 d1) :
    Calls Try.prog 8 #[.agg #[.slice a0 n0 c0, .slice a1 n1 c1]] w fun e w' => ∃ b0 b1, e = .returned (.agg #[.slice b0 n0 n0, .slice b1 n1 n1]) ∧ ToS w.heap.size w'.heap.size w' [d0, d1] [.slice b0 n0 n0, .slice b1 n1 n1] ∧ Keep w w' := by
  refine calls_k fun Q hQ => ?_
  have K : Keep w (((w.alloc (.cells #[.slice a0 n0 c0, .slice a1 n1 c1] 25)).alloc (.cells #[.slice none 0 0, .slice none 0 0] 36)).alloc (.cells #[.slice none 0 0, .slice none 0 0] 36)) := (Keep.al _ _).trans ((Keep.al _ _).trans (Keep.al _ _))
  have R0 := ((rowOf w #[.slice a0 n0 c0, .slice a1 n1 c1] 25).alloc (.cells #[.slice none 0 0, .slice none 0 0] 36)).alloc (.cells #[.slice none 0 0, .slice none 0 0] 36)
  have R1 := (rowOf (w.alloc (.cells #[.slice a0 n0 c0, .slice a1 n1 c1] 25)) #[.slice none 0 0, .slice none 0 0] 36).alloc (.cells #[.slice none 0 0, .slice none 0 0] 36)
  have R2 := rowOf ((w.alloc (.cells #[.slice a0 n0 c0, .slice a1 n1 c1] 25)).alloc (.cells #[.slice none 0 0, .slice none 0 0] 36)) #[.slice none 0 0, .slice none 0 0] 36
  have q0 := r0.lt.k K
  have q1 := r1.lt.k K
  have S0 : w.heap.size + 3 = (((w.alloc (.cells #[.slice a0 n0 c0, .slice a1 n1 c1] 25)).alloc (.cells #[.slice none 0 0, .slice none 0 0] 36)).alloc (.cells #[.slice none 0 0, .slice none 0 0] 36)).heap.size := by simp
  clear r0 r1
  simp only [World.size_alloc] at R1 R2
  go_enter Try.func8, Try.ntmps8
  go_wp2_with fail
  refine (k0 _ _ _ _ _ q0 y0).mono ?_
  rintro e w1 ⟨b0, rfl, o0, p1⟩
  rw [← S0] at o0
  have t1 := ToS.own o0
  clear o0
  have zw1 := p1.size
  simp only [World.size_alloc] at zw1
  replace K := K.trans p1
  replace R0 := row_ext R0 p1 (fun h => h)
  replace R1 := row_ext R1 p1 (fun h => h)
  replace R2 := row_ext R2 p1 (fun h => h)
  replace q0 := q0.k p1
  replace q1 := q1.k p1
  have v0 := R2.cell (i := 0) (by simp)
  have x0 := R0.cell (i := 0) (by simp)
  have v1 := R2.cell (i := 1) (by simp)
  have x1 := R0.cell (i := 1) (by simp)
  have f2 := R2.frozen
  have g0 := f2 0
  have g1 := f2 1
  clear f2
  simp at v0 x0 v1 x1
  have X := ((Ext.refl (fun q => q < w.heap.size + 3 ∧ w.heap.size + 2 ≤ q) w1).setCell (p := ⟨w.heap.size + 1 + 1, 0, none⟩) (.inr (by simp)) (.slice b0 n0 n0))
  replace R0 := row_ext R0 X (by omega)
  replace R1 := row_ext R1 X (by omega)
  replace R2 := R2.set 0 (.slice b0 n0 n0)
  replace t1 := t1.ext X (fun q h1 h2 h3 => by omega)
  replace q0 := q0.ext X (fun q h1 h2 => by have := h1.2; omega)
  replace q1 := q1.ext X (fun q h1 h2 => by have := h1.2; omega)
  replace K := K.then_ X (fun q h1 h2 => by omega)
  clear X
  have x0 := R0.cell (i := 0) (by simp)
  have x1 := R0.cell (i := 1) (by simp)
  simp at x0 x1
  go_wp2_with fail
  clear x0 x1
  refine (k1 _ _ _ _ _ q1 y1).mono ?_
  rintro e w2 ⟨b1, rfl, o1, p2⟩
  have t2 := ToS.own o1
  clear o1
  simp only [World.size_setCell] at t2
  have zw2 := p2.size
  simp only [World.size_setCell] at zw2
  replace K := K.trans p2
  replace t1 := t1.ext p2 (fun _ _ _ h => h)
  replace R0 := row_ext R0 p2 (fun h => h)
  replace R1 := row_ext R1 p2 (fun h => h)
  replace R2 := row_ext R2 p2 (fun h => h)
  replace q0 := q0.k p2
  replace q1 := q1.k p2
  have v0 := R2.cell (i := 0) (by simp)
  have x0 := R0.cell (i := 0) (by simp)
  have u0 := R1.cell (i := 0) (by simp)
  have v1 := R2.cell (i := 1) (by simp)
  have x1 := R0.cell (i := 1) (by simp)
  have u1 := R1.cell (i := 1) (by simp)
  have f2 := R2.frozen
  have f1 := R1.frozen
  have g0 := f2 0
  have h0 := f1 0
  have g1 := f2 1
  have h1 := f1 1
  clear f2 f1
  simp at v0 x0 u0 v1 x1 u1
  have X := ((((Ext.refl (fun q => q < w.heap.size + 3) w2).setCell (p := ⟨w.heap.size + 1 + 1, 1, none⟩) (.inr (by simp)) (.slice b1 n1 n1)).setCell (p := ⟨w.heap.size + 1, 0, none⟩) (.inr (by simp)) (.slice b0 n0 n0)).setCell (p := ⟨w.heap.size + 1, 1, none⟩) (.inr (by simp)) (.slice b1 n1 n1))
  replace t1 := t1.ext X (fun q h1 h2 h3 => by omega)
  replace t2 := t2.ext X (fun q h1 h2 h3 => by omega)
  replace K := (((K.setCell (p := ⟨w.heap.size + 1 + 1, 1, none⟩) (.inl (by simp; omega)) (.slice b1 n1 n1)).setCell (p := ⟨w.heap.size + 1, 0, none⟩) (.inl (by simp)) (.slice b0 n0 n0)).setCell (p := ⟨w.heap.size + 1, 1, none⟩) (.inl (by simp)) (.slice b1 n1 n1))
  clear X R0 R1 R2 q0 q1
  go_wp2_with fail
  refine bodyPost_ret (v := .agg #[.slice b0 n0 n0, .slice b1 n1 n1]) (by simp [results, Try.results8, go_sem, u0, u1]) rfl (fin_ hQ ⟨b0, b1, rfl, ?_, K⟩)
  simp only [World.size_setCell]
  exact (((ToS.nil w.heap.size (w.heap.size + 3) _).app (t1.wide (lo' := w.heap.size + 3) (hi' := w1.heap.size) (by omega) (by omega)) (by omega) (by omega)).app (t2.wide (lo' := w1.heap.size) (hi' := w2.heap.size) (by omega) (by omega)) (by omega) (by omega))

end Go.Proofs.Ytmekdccgjgfiaaa
