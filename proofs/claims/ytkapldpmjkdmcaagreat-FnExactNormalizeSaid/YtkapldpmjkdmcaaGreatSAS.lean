/- The laws' own helpers: copies of data. -/
import Derived.Test.YtkapldpmjkdmcaaGreatSAC
import Derived.StillTailTactics
import Derived.IntWalk
namespace Go.Proofs.YtkapldpmjkdmcaaGreat
open Go.RowKit


def ToC (f : FuncId) (d : Dat) : Prop := ∀ (a : Option Addr) (n c : Nat) (D : Nat → Prop) (w : World), Rd w D d (.slice a n c) → szD d ≤ 1048576 →
  Calls Tryz.prog f #[.slice a n c] w fun e w' => ∃ a', e = .returned (.slice a' n n) ∧ Own w' (fun k => w.heap.size ≤ k) d (.slice a' n n) ∧ Keep w w'
theorem keep_set {w w' : World} {b o : Nat} {us : List Value} (k : Keep w w') (h : w.heap.size ≤ b) : Keep w (setAll w' b o us) := k.then_ (setAll_ext w' b o us) (fun i hi e => by omega)
set_option maxHeartbeats 2000000 in
theorem toCon (D : Nat → Prop) (w : World) (a0 : Option Addr) (n0 c0 : Nat) (d0 : Dat) (r0 : Rd w D d0 (.slice a0 n0 c0)) (y0 : szD d0 ≤ 1048576) (k0 : ToC 132 d0) :
    Calls Tryz.prog 187 #[.agg #[.slice a0 n0 c0]] w fun e w' => ∃ b0, e = .returned (.agg #[.slice b0 n0 n0]) ∧ ToS w.heap.size w'.heap.size w' [d0] [.slice b0 n0 n0] ∧ Keep w w' := by
  refine calls_k fun Q hQ => ?_
  have K : Keep w (((w.alloc (.cells #[.slice a0 n0 c0] 224)).alloc (.cells #[.slice none 0 0] 155)).alloc (.cells #[.slice none 0 0] 155)) := (Keep.al _ _).trans ((Keep.al _ _).trans (Keep.al _ _))
  have R0 := ((rowOf w #[.slice a0 n0 c0] 224).alloc (.cells #[.slice none 0 0] 155)).alloc (.cells #[.slice none 0 0] 155)
  have R1 := (rowOf (w.alloc (.cells #[.slice a0 n0 c0] 224)) #[.slice none 0 0] 155).alloc (.cells #[.slice none 0 0] 155)
  have R2 := rowOf ((w.alloc (.cells #[.slice a0 n0 c0] 224)).alloc (.cells #[.slice none 0 0] 155)) #[.slice none 0 0] 155
  have q0 := r0.lt.k K
  have S0 : w.heap.size + 3 = (((w.alloc (.cells #[.slice a0 n0 c0] 224)).alloc (.cells #[.slice none 0 0] 155)).alloc (.cells #[.slice none 0 0] 155)).heap.size := by simp
  clear r0
  simp only [World.size_alloc] at R1 R2
  go_enter Tryz.func187, Tryz.ntmps187
  go_wp2_with fail
  refine (k0 _ _ _ _ _ q0 y0).mono ?_
  rintro e w1 ⟨b0, rfl, o0, p1⟩
  rw [← S0] at o0
  have t1 := ToS.own o0
  clear o0
  have zw1 := p1.size
  simp only [World.size_alloc] at zw1
  replace K := K.trans p1
  replace R0 := row_ext R0 p1 (fun h => h)
  replace R1 := row_ext R1 p1 (fun h => h)
  replace R2 := row_ext R2 p1 (fun h => h)
  replace q0 := q0.k p1
  have v0 := R2.cell (i := 0) (by simp)
  have x0 := R0.cell (i := 0) (by simp)
  have u0 := R1.cell (i := 0) (by simp)
  have f2 := R2.frozen
  have f1 := R1.frozen
  have g0 := f2 0
  have h0 := f1 0
  clear f2 f1
  simp at v0 x0 u0
  have X := (((Ext.refl (fun q => q < w.heap.size + 3) w1).setCell (p := ⟨w.heap.size + 1 + 1, 0, none⟩) (.inr (by simp)) (.slice b0 n0 n0)).setCell (p := ⟨w.heap.size + 1, 0, none⟩) (.inr (by simp)) (.slice b0 n0 n0))
  replace t1 := t1.ext X (fun q h1 h2 h3 => by omega)
  replace K := ((K.setCell (p := ⟨w.heap.size + 1 + 1, 0, none⟩) (.inl (by simp; omega)) (.slice b0 n0 n0)).setCell (p := ⟨w.heap.size + 1, 0, none⟩) (.inl (by simp)) (.slice b0 n0 n0))
  clear X R0 R1 R2 q0
  go_wp2_with fail
  refine bodyPost_ret (v := .agg #[.slice b0 n0 n0]) (by simp [results, Tryz.results187, go_sem, u0]) rfl (fin_ hQ ⟨b0, rfl, ?_, K⟩)
  simp only [World.size_setCell]
  exact ((ToS.nil w.heap.size (w.heap.size + 3) _).app (t1.wide (lo' := w.heap.size + 3) (hi' := w1.heap.size) (by omega) (by omega)) (by omega) (by omega))

set_option maxHeartbeats 2000000 in
theorem toDecl (D : Nat → Prop) (w : World) (z0 : Int) (z1 : Int) (a2 : Option Addr) (n2 c2 : Nat) (d2 : Dat) (r2 : Rd w D d2 (.slice a2 n2 c2)) (y2 : szD d2 ≤ 1048576) (k2 : ToC 131 d2) :
    Calls Tryz.prog 82 #[.agg #[.int .i64 z0, .int .i64 z1, .slice a2 n2 c2]] w fun e w' => ∃ b2, e = .returned (.agg #[.int .i64 z0, .int .i64 z1, .slice b2 n2 n2]) ∧ ToS w.heap.size w'.heap.size w' [.num z0, .num z1, d2] [.int .i64 z0, .int .i64 z1, .slice b2 n2 n2] ∧ Keep w w' := by
  refine calls_k fun Q hQ => ?_
  have K : Keep w (((w.alloc (.cells #[.int .i64 z0, .int .i64 z1, .slice a2 n2 c2] 114)).alloc (.cells #[.int .i64 0, .int .i64 0, .slice none 0 0] 125)).alloc (.cells #[.int .i64 z0, .int .i64 z1, .slice none 0 0] 125)) := (Keep.al _ _).trans ((Keep.al _ _).trans (Keep.al _ _))
  have R0 := ((rowOf w #[.int .i64 z0, .int .i64 z1, .slice a2 n2 c2] 114).alloc (.cells #[.int .i64 0, .int .i64 0, .slice none 0 0] 125)).alloc (.cells #[.int .i64 z0, .int .i64 z1, .slice none 0 0] 125)
  have R1 := (rowOf (w.alloc (.cells #[.int .i64 z0, .int .i64 z1, .slice a2 n2 c2] 114)) #[.int .i64 0, .int .i64 0, .slice none 0 0] 125).alloc (.cells #[.int .i64 z0, .int .i64 z1, .slice none 0 0] 125)
  have R2 := rowOf ((w.alloc (.cells #[.int .i64 z0, .int .i64 z1, .slice a2 n2 c2] 114)).alloc (.cells #[.int .i64 0, .int .i64 0, .slice none 0 0] 125)) #[.int .i64 z0, .int .i64 z1, .slice none 0 0] 125
  have q2 := r2.lt.k K
  have S0 : w.heap.size + 3 = (((w.alloc (.cells #[.int .i64 z0, .int .i64 z1, .slice a2 n2 c2] 114)).alloc (.cells #[.int .i64 0, .int .i64 0, .slice none 0 0] 125)).alloc (.cells #[.int .i64 z0, .int .i64 z1, .slice none 0 0] 125)).heap.size := by simp
  clear r2
  simp only [World.size_alloc] at R1 R2
  go_enter Tryz.func82, Tryz.ntmps82
  go_wp2_with fail
  refine (k2 _ _ _ _ _ q2 y2).mono ?_
  rintro e w1 ⟨b2, rfl, o2, p1⟩
  rw [← S0] at o2
  have t1 := ToS.own o2
  clear o2
  have zw1 := p1.size
  simp only [World.size_alloc] at zw1
  replace K := K.trans p1
  replace R0 := row_ext R0 p1 (fun h => h)
  replace R1 := row_ext R1 p1 (fun h => h)
  replace R2 := row_ext R2 p1 (fun h => h)
  replace q2 := q2.k p1
  have v0 := R2.cell (i := 0) (by simp)
  have x0 := R0.cell (i := 0) (by simp)
  have u0 := R1.cell (i := 0) (by simp)
  have v1 := R2.cell (i := 1) (by simp)
  have x1 := R0.cell (i := 1) (by simp)
  have u1 := R1.cell (i := 1) (by simp)
  have v2 := R2.cell (i := 2) (by simp)
  have x2 := R0.cell (i := 2) (by simp)
  have u2 := R1.cell (i := 2) (by simp)
  have f2 := R2.frozen
  have f1 := R1.frozen
  have g0 := f2 0
  have h0 := f1 0
  have g1 := f2 1
  have h1 := f1 1
  have g2 := f2 2
  have h2 := f1 2
  clear f2 f1
  simp at v0 x0 u0 v1 x1 u1 v2 x2 u2
  have X := (((((Ext.refl (fun q => q < w.heap.size + 3) w1).setCell (p := ⟨w.heap.size + 1 + 1, 2, none⟩) (.inr (by simp)) (.slice b2 n2 n2)).setCell (p := ⟨w.heap.size + 1, 0, none⟩) (.inr (by simp)) (.int .i64 z0)).setCell (p := ⟨w.heap.size + 1, 1, none⟩) (.inr (by simp)) (.int .i64 z1)).setCell (p := ⟨w.heap.size + 1, 2, none⟩) (.inr (by simp)) (.slice b2 n2 n2))
  replace t1 := t1.ext X (fun q h1 h2 h3 => by omega)
  replace K := ((((K.setCell (p := ⟨w.heap.size + 1 + 1, 2, none⟩) (.inl (by simp; omega)) (.slice b2 n2 n2)).setCell (p := ⟨w.heap.size + 1, 0, none⟩) (.inl (by simp)) (.int .i64 z0)).setCell (p := ⟨w.heap.size + 1, 1, none⟩) (.inl (by simp)) (.int .i64 z1)).setCell (p := ⟨w.heap.size + 1, 2, none⟩) (.inl (by simp)) (.slice b2 n2 n2))
  clear X R0 R1 R2 q2
  go_wp2_with fail
  refine bodyPost_ret (v := .agg #[.int .i64 z0, .int .i64 z1, .slice b2 n2 n2]) (by simp [results, Tryz.results82, go_sem, u0, u1, u2]) rfl (fin_ hQ ⟨b2, rfl, ?_, K⟩)
  simp only [World.size_setCell]
  exact ((((ToS.nil w.heap.size (w.heap.size + 3) _).app (ToS.int (w.heap.size + 3) (w.heap.size + 3) _ z0) (by omega) (by omega)).app (ToS.int (w.heap.size + 3) (w.heap.size + 3) _ z1) (by omega) (by omega)).app (t1.wide (lo' := w.heap.size + 3) (hi' := w1.heap.size) (by omega) (by omega)) (by omega) (by omega))

set_option maxHeartbeats 2000000 in
theorem toExpr (D : Nat → Prop) (w : World) (z0 : Int) (z1 : Int) (a2 : Option Addr) (n2 c2 : Nat) (d2 : Dat) (r2 : Rd w D d2 (.slice a2 n2 c2)) (y2 : szD d2 ≤ 1048576) (k2 : ToC 200 d2) :
    Calls Tryz.prog 154 #[.agg #[.int .i64 z0, .int .i64 z1, .slice a2 n2 c2]] w fun e w' => ∃ b2, e = .returned (.agg #[.int .i64 z0, .int .i64 z1, .slice b2 n2 n2]) ∧ ToS w.heap.size w'.heap.size w' [.num z0, .num z1, d2] [.int .i64 z0, .int .i64 z1, .slice b2 n2 n2] ∧ Keep w w' := by
  refine calls_k fun Q hQ => ?_
  have K : Keep w (((w.alloc (.cells #[.int .i64 z0, .int .i64 z1, .slice a2 n2 c2] 147)).alloc (.cells #[.int .i64 0, .int .i64 0, .slice none 0 0] 58)).alloc (.cells #[.int .i64 z0, .int .i64 z1, .slice none 0 0] 58)) := (Keep.al _ _).trans ((Keep.al _ _).trans (Keep.al _ _))
  have R0 := ((rowOf w #[.int .i64 z0, .int .i64 z1, .slice a2 n2 c2] 147).alloc (.cells #[.int .i64 0, .int .i64 0, .slice none 0 0] 58)).alloc (.cells #[.int .i64 z0, .int .i64 z1, .slice none 0 0] 58)
  have R1 := (rowOf (w.alloc (.cells #[.int .i64 z0, .int .i64 z1, .slice a2 n2 c2] 147)) #[.int .i64 0, .int .i64 0, .slice none 0 0] 58).alloc (.cells #[.int .i64 z0, .int .i64 z1, .slice none 0 0] 58)
  have R2 := rowOf ((w.alloc (.cells #[.int .i64 z0, .int .i64 z1, .slice a2 n2 c2] 147)).alloc (.cells #[.int .i64 0, .int .i64 0, .slice none 0 0] 58)) #[.int .i64 z0, .int .i64 z1, .slice none 0 0] 58
  have q2 := r2.lt.k K
  have S0 : w.heap.size + 3 = (((w.alloc (.cells #[.int .i64 z0, .int .i64 z1, .slice a2 n2 c2] 147)).alloc (.cells #[.int .i64 0, .int .i64 0, .slice none 0 0] 58)).alloc (.cells #[.int .i64 z0, .int .i64 z1, .slice none 0 0] 58)).heap.size := by simp
  clear r2
  simp only [World.size_alloc] at R1 R2
  go_enter Tryz.func154, Tryz.ntmps154
  go_wp2_with fail
  refine (k2 _ _ _ _ _ q2 y2).mono ?_
  rintro e w1 ⟨b2, rfl, o2, p1⟩
  rw [← S0] at o2
  have t1 := ToS.own o2
  clear o2
  have zw1 := p1.size
  simp only [World.size_alloc] at zw1
  replace K := K.trans p1
  replace R0 := row_ext R0 p1 (fun h => h)
  replace R1 := row_ext R1 p1 (fun h => h)
  replace R2 := row_ext R2 p1 (fun h => h)
  replace q2 := q2.k p1
  have v0 := R2.cell (i := 0) (by simp)
  have x0 := R0.cell (i := 0) (by simp)
  have u0 := R1.cell (i := 0) (by simp)
  have v1 := R2.cell (i := 1) (by simp)
  have x1 := R0.cell (i := 1) (by simp)
  have u1 := R1.cell (i := 1) (by simp)
  have v2 := R2.cell (i := 2) (by simp)
  have x2 := R0.cell (i := 2) (by simp)
  have u2 := R1.cell (i := 2) (by simp)
  have f2 := R2.frozen
  have f1 := R1.frozen
  have g0 := f2 0
  have h0 := f1 0
  have g1 := f2 1
  have h1 := f1 1
  have g2 := f2 2
  have h2 := f1 2
  clear f2 f1
  simp at v0 x0 u0 v1 x1 u1 v2 x2 u2
  have X := (((((Ext.refl (fun q => q < w.heap.size + 3) w1).setCell (p := ⟨w.heap.size + 1 + 1, 2, none⟩) (.inr (by simp)) (.slice b2 n2 n2)).setCell (p := ⟨w.heap.size + 1, 0, none⟩) (.inr (by simp)) (.int .i64 z0)).setCell (p := ⟨w.heap.size + 1, 1, none⟩) (.inr (by simp)) (.int .i64 z1)).setCell (p := ⟨w.heap.size + 1, 2, none⟩) (.inr (by simp)) (.slice b2 n2 n2))
  replace t1 := t1.ext X (fun q h1 h2 h3 => by omega)
  replace K := ((((K.setCell (p := ⟨w.heap.size + 1 + 1, 2, none⟩) (.inl (by simp; omega)) (.slice b2 n2 n2)).setCell (p := ⟨w.heap.size + 1, 0, none⟩) (.inl (by simp)) (.int .i64 z0)).setCell (p := ⟨w.heap.size + 1, 1, none⟩) (.inl (by simp)) (.int .i64 z1)).setCell (p := ⟨w.heap.size + 1, 2, none⟩) (.inl (by simp)) (.slice b2 n2 n2))
  clear X R0 R1 R2 q2
  go_wp2_with fail
  refine bodyPost_ret (v := .agg #[.int .i64 z0, .int .i64 z1, .slice b2 n2 n2]) (by simp [results, Tryz.results154, go_sem, u0, u1, u2]) rfl (fin_ hQ ⟨b2, rfl, ?_, K⟩)
  simp only [World.size_setCell]
  exact ((((ToS.nil w.heap.size (w.heap.size + 3) _).app (ToS.int (w.heap.size + 3) (w.heap.size + 3) _ z0) (by omega) (by omega)).app (ToS.int (w.heap.size + 3) (w.heap.size + 3) _ z1) (by omega) (by omega)).app (t1.wide (lo' := w.heap.size + 3) (hi' := w1.heap.size) (by omega) (by omega)) (by omega) (by omega))

set_option maxHeartbeats 2000000 in
theorem toFunc (D : Nat → Prop) (w : World) (a0 : Option Addr) (n0 c0 : Nat) (d0 : Dat) (z1 : Int) (z2 : Int) (z3 : Int) (a4 : Option Addr) (n4 c4 : Nat) (d4 : Dat) (r0 : Rd w D d0 (.slice a0 n0 c0)) (y0 : szD d0 ≤ 1048576) (r4 : Rd w D d4 (.slice a4 n4 c4)) (y4 : szD d4 ≤ 1048576) (k0 : ToC 132 d0) (k4 : ToC 200 d4) :
    Calls Tryz.prog 103 #[.agg #[.slice a0 n0 c0, .int .i64 z1, .int .i64 z2, .int .i64 z3, .slice a4 n4 c4]] w fun e w' => ∃ b0 b4, e = .returned (.agg #[.slice b0 n0 n0, .int .i64 z1, .int .i64 z2, .int .i64 z3, .slice b4 n4 n4]) ∧ ToS w.heap.size w'.heap.size w' [d0, .num z1, .num z2, .num z3, d4] [.slice b0 n0 n0, .int .i64 z1, .int .i64 z2, .int .i64 z3, .slice b4 n4 n4] ∧ Keep w w' := by
  refine calls_k fun Q hQ => ?_
  have K : Keep w (((w.alloc (.cells #[.slice a0 n0 c0, .int .i64 z1, .int .i64 z2, .int .i64 z3, .slice a4 n4 c4] 149)).alloc (.cells #[.slice none 0 0, .int .i64 0, .int .i64 0, .int .i64 0, .slice none 0 0] 60)).alloc (.cells #[.slice none 0 0, .int .i64 0, .int .i64 0, .int .i64 0, .slice none 0 0] 60)) := (Keep.al _ _).trans ((Keep.al _ _).trans (Keep.al _ _))
  have R0 := ((rowOf w #[.slice a0 n0 c0, .int .i64 z1, .int .i64 z2, .int .i64 z3, .slice a4 n4 c4] 149).alloc (.cells #[.slice none 0 0, .int .i64 0, .int .i64 0, .int .i64 0, .slice none 0 0] 60)).alloc (.cells #[.slice none 0 0, .int .i64 0, .int .i64 0, .int .i64 0, .slice none 0 0] 60)
  have R1 := (rowOf (w.alloc (.cells #[.slice a0 n0 c0, .int .i64 z1, .int .i64 z2, .int .i64 z3, .slice a4 n4 c4] 149)) #[.slice none 0 0, .int .i64 0, .int .i64 0, .int .i64 0, .slice none 0 0] 60).alloc (.cells #[.slice none 0 0, .int .i64 0, .int .i64 0, .int .i64 0, .slice none 0 0] 60)
  have R2 := rowOf ((w.alloc (.cells #[.slice a0 n0 c0, .int .i64 z1, .int .i64 z2, .int .i64 z3, .slice a4 n4 c4] 149)).alloc (.cells #[.slice none 0 0, .int .i64 0, .int .i64 0, .int .i64 0, .slice none 0 0] 60)) #[.slice none 0 0, .int .i64 0, .int .i64 0, .int .i64 0, .slice none 0 0] 60
  have q0 := r0.lt.k K
  have q4 := r4.lt.k K
  have S0 : w.heap.size + 3 = (((w.alloc (.cells #[.slice a0 n0 c0, .int .i64 z1, .int .i64 z2, .int .i64 z3, .slice a4 n4 c4] 149)).alloc (.cells #[.slice none 0 0, .int .i64 0, .int .i64 0, .int .i64 0, .slice none 0 0] 60)).alloc (.cells #[.slice none 0 0, .int .i64 0, .int .i64 0, .int .i64 0, .slice none 0 0] 60)).heap.size := by simp
  clear r0 r4
  simp only [World.size_alloc] at R1 R2
  go_enter Tryz.func103, Tryz.ntmps103
  go_wp2_with fail
  refine (k0 _ _ _ _ _ q0 y0).mono ?_
  rintro e w1 ⟨b0, rfl, o0, p1⟩
  rw [← S0] at o0
  have t1 := ToS.own o0
  clear o0
  have zw1 := p1.size
  simp only [World.size_alloc] at zw1
  replace K := K.trans p1
  replace R0 := row_ext R0 p1 (fun h => h)
  replace R1 := row_ext R1 p1 (fun h => h)
  replace R2 := row_ext R2 p1 (fun h => h)
  replace q0 := q0.k p1
  replace q4 := q4.k p1
  have v0 := R2.cell (i := 0) (by simp)
  have x0 := R0.cell (i := 0) (by simp)
  have v1 := R2.cell (i := 1) (by simp)
  have x1 := R0.cell (i := 1) (by simp)
  have v2 := R2.cell (i := 2) (by simp)
  have x2 := R0.cell (i := 2) (by simp)
  have v3 := R2.cell (i := 3) (by simp)
  have x3 := R0.cell (i := 3) (by simp)
  have v4 := R2.cell (i := 4) (by simp)
  have x4 := R0.cell (i := 4) (by simp)
  have f2 := R2.frozen
  have g0 := f2 0
  have g1 := f2 1
  have g2 := f2 2
  have g3 := f2 3
  have g4 := f2 4
  clear f2
  simp at v0 x0 v1 x1 v2 x2 v3 x3 v4 x4
  have X := (((Ext.refl (fun q => q < w.heap.size + 3 ∧ w.heap.size + 2 ≤ q) w1).setCell (p := ⟨w.heap.size + 1 + 1, 0, none⟩) (.inr (by simp)) (.slice b0 n0 n0)).setCell (p := ⟨w.heap.size + 1 + 1, 1, none⟩) (.inr (by simp)) (.int .i64 z1))
  replace R0 := row_ext R0 X (by omega)
  replace R1 := row_ext R1 X (by omega)
  replace R2 := R2.set 0 (.slice b0 n0 n0)
  replace R2 := R2.set 1 (.int .i64 z1)
  replace t1 := t1.ext X (fun q h1 h2 h3 => by omega)
  replace q0 := q0.ext X (fun q h1 h2 => by have := h1.2; omega)
  replace q4 := q4.ext X (fun q h1 h2 => by have := h1.2; omega)
  replace K := K.then_ X (fun q h1 h2 => by omega)
  clear X
  have x0 := R0.cell (i := 0) (by simp)
  have x1 := R0.cell (i := 1) (by simp)
  have x2 := R0.cell (i := 2) (by simp)
  have x3 := R0.cell (i := 3) (by simp)
  have x4 := R0.cell (i := 4) (by simp)
  simp at x0 x1 x2 x3 x4
  go_wp2_with fail
  clear x0 x1 x2 x3 x4
  refine (toExpr _ _ _ _ _ _ _ _ q4 y4 k4).mono ?_
  rintro e w2 ⟨b4, rfl, t2, p2⟩
  simp only [World.size_setCell] at t2
  have zw2 := p2.size
  simp only [World.size_setCell] at zw2
  replace K := K.trans p2
  replace t1 := t1.ext p2 (fun _ _ _ h => h)
  replace R0 := row_ext R0 p2 (fun h => h)
  replace R1 := row_ext R1 p2 (fun h => h)
  replace R2 := row_ext R2 p2 (fun h => h)
  replace q0 := q0.k p2
  replace q4 := q4.k p2
  have v0 := R2.cell (i := 0) (by simp)
  have x0 := R0.cell (i := 0) (by simp)
  have u0 := R1.cell (i := 0) (by simp)
  have v1 := R2.cell (i := 1) (by simp)
  have x1 := R0.cell (i := 1) (by simp)
  have u1 := R1.cell (i := 1) (by simp)
  have v2 := R2.cell (i := 2) (by simp)
  have x2 := R0.cell (i := 2) (by simp)
  have u2 := R1.cell (i := 2) (by simp)
  have v3 := R2.cell (i := 3) (by simp)
  have x3 := R0.cell (i := 3) (by simp)
  have u3 := R1.cell (i := 3) (by simp)
  have v4 := R2.cell (i := 4) (by simp)
  have x4 := R0.cell (i := 4) (by simp)
  have u4 := R1.cell (i := 4) (by simp)
  have f2 := R2.frozen
  have f1 := R1.frozen
  have g0 := f2 0
  have h0 := f1 0
  have g1 := f2 1
  have h1 := f1 1
  have g2 := f2 2
  have h2 := f1 2
  have g3 := f2 3
  have h3 := f1 3
  have g4 := f2 4
  have h4 := f1 4
  clear f2 f1
  simp at v0 x0 u0 v1 x1 u1 v2 x2 u2 v3 x3 u3 v4 x4 u4
  have X := (((((((((Ext.refl (fun q => q < w.heap.size + 3) w2).setCell (p := ⟨w.heap.size + 1 + 1, 2, none⟩) (.inr (by simp)) (.int .i64 z2)).setCell (p := ⟨w.heap.size + 1 + 1, 3, none⟩) (.inr (by simp)) (.int .i64 z3)).setCell (p := ⟨w.heap.size + 1 + 1, 4, none⟩) (.inr (by simp)) (.slice b4 n4 n4)).setCell (p := ⟨w.heap.size + 1, 0, none⟩) (.inr (by simp)) (.slice b0 n0 n0)).setCell (p := ⟨w.heap.size + 1, 1, none⟩) (.inr (by simp)) (.int .i64 z1)).setCell (p := ⟨w.heap.size + 1, 2, none⟩) (.inr (by simp)) (.int .i64 z2)).setCell (p := ⟨w.heap.size + 1, 3, none⟩) (.inr (by simp)) (.int .i64 z3)).setCell (p := ⟨w.heap.size + 1, 4, none⟩) (.inr (by simp)) (.slice b4 n4 n4))
  replace t1 := t1.ext X (fun q h1 h2 h3 => by omega)
  replace t2 := t2.ext X (fun q h1 h2 h3 => by omega)
  replace K := ((((((((K.setCell (p := ⟨w.heap.size + 1 + 1, 2, none⟩) (.inl (by simp; omega)) (.int .i64 z2)).setCell (p := ⟨w.heap.size + 1 + 1, 3, none⟩) (.inl (by simp; omega)) (.int .i64 z3)).setCell (p := ⟨w.heap.size + 1 + 1, 4, none⟩) (.inl (by simp; omega)) (.slice b4 n4 n4)).setCell (p := ⟨w.heap.size + 1, 0, none⟩) (.inl (by simp)) (.slice b0 n0 n0)).setCell (p := ⟨w.heap.size + 1, 1, none⟩) (.inl (by simp)) (.int .i64 z1)).setCell (p := ⟨w.heap.size + 1, 2, none⟩) (.inl (by simp)) (.int .i64 z2)).setCell (p := ⟨w.heap.size + 1, 3, none⟩) (.inl (by simp)) (.int .i64 z3)).setCell (p := ⟨w.heap.size + 1, 4, none⟩) (.inl (by simp)) (.slice b4 n4 n4))
  clear X R0 R1 R2 q0 q4
  go_wp2_with fail
  refine bodyPost_ret (v := .agg #[.slice b0 n0 n0, .int .i64 z1, .int .i64 z2, .int .i64 z3, .slice b4 n4 n4]) (by simp [results, Tryz.results103, go_sem, u0, u1, u2, u3, u4]) rfl (fin_ hQ ⟨b0, b4, rfl, ?_, K⟩)
  simp only [World.size_setCell]
  exact ((((ToS.nil w.heap.size (w.heap.size + 3) _).app (t1.wide (lo' := w.heap.size + 3) (hi' := w1.heap.size) (by omega) (by omega)) (by omega) (by omega)).app (ToS.int (w1.heap.size) (w1.heap.size) _ z1) (by omega) (by omega)).app (t2.wide (lo' := w1.heap.size) (hi' := w2.heap.size) (by omega) (by omega)) (by omega) (by omega))

set_option maxHeartbeats 2000000 in
theorem toProgram (D : Nat → Prop) (w : World) (a0 : Option Addr) (n0 c0 : Nat) (d0 : Dat) (a1 : Option Addr) (n1 c1 : Nat) (d1 : Dat) (r0 : Rd w D d0 (.slice a0 n0 c0)) (y0 : szD d0 ≤ 1048576) (r1 : Rd w D d1 (.slice a1 n1 c1)) (y1 : szD d1 ≤ 1048576) (k0 : ToC 36 d0) (k1 : ToC 51 d1) :
    Calls Tryz.prog 16 #[.agg #[.slice a0 n0 c0, .slice a1 n1 c1]] w fun e w' => ∃ b0 b1, e = .returned (.agg #[.slice b0 n0 n0, .slice b1 n1 n1]) ∧ ToS w.heap.size w'.heap.size w' [d0, d1] [.slice b0 n0 n0, .slice b1 n1 n1] ∧ Keep w w' := by
  refine calls_k fun Q hQ => ?_
  have K : Keep w (((w.alloc (.cells #[.slice a0 n0 c0, .slice a1 n1 c1] 39)).alloc (.cells #[.slice none 0 0, .slice none 0 0] 44)).alloc (.cells #[.slice none 0 0, .slice none 0 0] 44)) := (Keep.al _ _).trans ((Keep.al _ _).trans (Keep.al _ _))
  have R0 := ((rowOf w #[.slice a0 n0 c0, .slice a1 n1 c1] 39).alloc (.cells #[.slice none 0 0, .slice none 0 0] 44)).alloc (.cells #[.slice none 0 0, .slice none 0 0] 44)
  have R1 := (rowOf (w.alloc (.cells #[.slice a0 n0 c0, .slice a1 n1 c1] 39)) #[.slice none 0 0, .slice none 0 0] 44).alloc (.cells #[.slice none 0 0, .slice none 0 0] 44)
  have R2 := rowOf ((w.alloc (.cells #[.slice a0 n0 c0, .slice a1 n1 c1] 39)).alloc (.cells #[.slice none 0 0, .slice none 0 0] 44)) #[.slice none 0 0, .slice none 0 0] 44
  have q0 := r0.lt.k K
  have q1 := r1.lt.k K
  have S0 : w.heap.size + 3 = (((w.alloc (.cells #[.slice a0 n0 c0, .slice a1 n1 c1] 39)).alloc (.cells #[.slice none 0 0, .slice none 0 0] 44)).alloc (.cells #[.slice none 0 0, .slice none 0 0] 44)).heap.size := by simp
  clear r0 r1
  simp only [World.size_alloc] at R1 R2
  go_enter Tryz.func16, Tryz.ntmps16
  go_wp2_with fail
  refine (k0 _ _ _ _ _ q0 y0).mono ?_
  rintro e w1 ⟨b0, rfl, o0, p1⟩
  rw [← S0] at o0
  have t1 := ToS.own o0
  clear o0
  have zw1 := p1.size
  simp only [World.size_alloc] at zw1
  replace K := K.trans p1
  replace R0 := row_ext R0 p1 (fun h => h)
  replace R1 := row_ext R1 p1 (fun h => h)
  replace R2 := row_ext R2 p1 (fun h => h)
  replace q0 := q0.k p1
  replace q1 := q1.k p1
  have v0 := R2.cell (i := 0) (by simp)
  have x0 := R0.cell (i := 0) (by simp)
  have v1 := R2.cell (i := 1) (by simp)
  have x1 := R0.cell (i := 1) (by simp)
  have f2 := R2.frozen
  have g0 := f2 0
  have g1 := f2 1
  clear f2
  simp at v0 x0 v1 x1
  have X := ((Ext.refl (fun q => q < w.heap.size + 3 ∧ w.heap.size + 2 ≤ q) w1).setCell (p := ⟨w.heap.size + 1 + 1, 0, none⟩) (.inr (by simp)) (.slice b0 n0 n0))
  replace R0 := row_ext R0 X (by omega)
  replace R1 := row_ext R1 X (by omega)
  replace R2 := R2.set 0 (.slice b0 n0 n0)
  replace t1 := t1.ext X (fun q h1 h2 h3 => by omega)
  replace q0 := q0.ext X (fun q h1 h2 => by have := h1.2; omega)
  replace q1 := q1.ext X (fun q h1 h2 => by have := h1.2; omega)
  replace K := K.then_ X (fun q h1 h2 => by omega)
  clear X
  have x0 := R0.cell (i := 0) (by simp)
  have x1 := R0.cell (i := 1) (by simp)
  simp at x0 x1
  go_wp2_with fail
  clear x0 x1
  refine (k1 _ _ _ _ _ q1 y1).mono ?_
  rintro e w2 ⟨b1, rfl, o1, p2⟩
  have t2 := ToS.own o1
  clear o1
  simp only [World.size_setCell] at t2
  have zw2 := p2.size
  simp only [World.size_setCell] at zw2
  replace K := K.trans p2
  replace t1 := t1.ext p2 (fun _ _ _ h => h)
  replace R0 := row_ext R0 p2 (fun h => h)
  replace R1 := row_ext R1 p2 (fun h => h)
  replace R2 := row_ext R2 p2 (fun h => h)
  replace q0 := q0.k p2
  replace q1 := q1.k p2
  have v0 := R2.cell (i := 0) (by simp)
  have x0 := R0.cell (i := 0) (by simp)
  have u0 := R1.cell (i := 0) (by simp)
  have v1 := R2.cell (i := 1) (by simp)
  have x1 := R0.cell (i := 1) (by simp)
  have u1 := R1.cell (i := 1) (by simp)
  have f2 := R2.frozen
  have f1 := R1.frozen
  have g0 := f2 0
  have h0 := f1 0
  have g1 := f2 1
  have h1 := f1 1
  clear f2 f1
  simp at v0 x0 u0 v1 x1 u1
  have X := ((((Ext.refl (fun q => q < w.heap.size + 3) w2).setCell (p := ⟨w.heap.size + 1 + 1, 1, none⟩) (.inr (by simp)) (.slice b1 n1 n1)).setCell (p := ⟨w.heap.size + 1, 0, none⟩) (.inr (by simp)) (.slice b0 n0 n0)).setCell (p := ⟨w.heap.size + 1, 1, none⟩) (.inr (by simp)) (.slice b1 n1 n1))
  replace t1 := t1.ext X (fun q h1 h2 h3 => by omega)
  replace t2 := t2.ext X (fun q h1 h2 h3 => by omega)
  replace K := (((K.setCell (p := ⟨w.heap.size + 1 + 1, 1, none⟩) (.inl (by simp; omega)) (.slice b1 n1 n1)).setCell (p := ⟨w.heap.size + 1, 0, none⟩) (.inl (by simp)) (.slice b0 n0 n0)).setCell (p := ⟨w.heap.size + 1, 1, none⟩) (.inl (by simp)) (.slice b1 n1 n1))
  clear X R0 R1 R2 q0 q1
  go_wp2_with fail
  refine bodyPost_ret (v := .agg #[.slice b0 n0 n0, .slice b1 n1 n1]) (by simp [results, Tryz.results16, go_sem, u0, u1]) rfl (fin_ hQ ⟨b0, b1, rfl, ?_, K⟩)
  simp only [World.size_setCell]
  exact (((ToS.nil w.heap.size (w.heap.size + 3) _).app (t1.wide (lo' := w.heap.size + 3) (hi' := w1.heap.size) (by omega) (by omega)) (by omega) (by omega)).app (t2.wide (lo' := w1.heap.size) (hi' := w2.heap.size) (by omega) (by omega)) (by omega) (by omega))

end Go.Proofs.YtkapldpmjkdmcaaGreat
/- The laws' own helpers: copies of slices of data. -/
namespace Go.Proofs.YtkapldpmjkdmcaaGreat
open Go.RowKit

theorem szD_arr {s : Nat} {rows : List (List Dat)} (h : szD (.arr s rows) ≤ 1048576) : rows.length ≤ 1048576 ∧ szRR rows ≤ 1048576 := by
  simp only [szD] at h; omega
theorem szD_cell {rows : List (List Dat)} (h : szRR rows ≤ 1048576) {i : Nat} (hi : i < rows.length) (j : Nat) : szD (dGet (rGet rows i) j) ≤ 1048576 := by
  have h1 := szR_le rows i hi
  have h2 := szD_le (rGet rows i) j
  omega

set_option maxHeartbeats 2000000 in
theorem toIntS (xs : List Int) : ToC 132 (encInts xs) := by
  intro a n c D w h hz
  refine calls_k fun Q hQ => ?_
  obtain ⟨e1, hnc, hm, hat⟩ := ints_at h
  have HL := Lib.hid e1
  have hrl : (xs.map rowI).length = n := by rw [ints_len]; exact e1
  obtain ⟨hz1, hz2⟩ := szD_arr (s := 1) (rows := (xs.map rowI)) hz
  have hn : n ≤ 1048576 := by omega
  have HRL := Lib.hid hrl
  have HA := Lib.hid hat
  clear hat e1 hrl hz hz1 hz2
  go_enter Tryz.func132, Tryz.ntmps132
  go_wp2_with (at_make; refine wpList_makeN _ rfl _ _ 52 rfl 3 (.int .i64 0) #[.int .i64 0] 1 8 Tryz.underlying52 (by kernel_rfl) rfl rfl n rfl rfl (by omega) (by omega) ?_; intro w1 hrow hk1 hsz)
  have O0 := Own.made (zd := [.num 0]) hrow rfl (by omega) (by omega) (fun j hj => by
    rcases j with _ | j
    · exact .num _ 0
    · omega)
  replace O0 := O0.mono (D' := fun k => w.heap.size ≤ k ∧ k < w1.heap.size) (fun k hk => by omega)
  rw [← HRL.out, ← rowsTo_zero, HRL.out] at O0
  clear hrow
  go_loopw [4] (fun iv wr => ∃ j : Nat, j ≤ n ∧ iv = .int .i64 j ∧ Own wr (fun k => w.heap.size ≤ k ∧ k < wr.heap.size) (.arr 1 (rowsTo (xs.map rowI) [.num 0] j)) (.slice (some ⟨w.heap.size, 0, none⟩) n n) ∧ Keep w wr ∧ w.heap.size < wr.heap.size) (fun i _ => n - (intOf i).toNat)
  case atStart => exact ⟨0, Nat.zero_le _, rfl, O0, hk1, by omega⟩
  case round =>
    obtain ⟨j, hj, rfl, hO, hK, hgt⟩ := hrel
    by_cases hlt : j < n
    · obtain ⟨b, o, rfl, hd, d0⟩ := HA.out j hlt
      have x0 := (hK.cell (World.block_lt_of_cell? w _ d0) (fun h => h)).trans d0
      clear d0
      obtain ⟨_, e, _, _, hfz, hcell⟩ := hO.cells hlt
      injection e with e
      injection e with e _ _
      subst e
      obtain ⟨u0, v0⟩ := hcell 0 (by omega)
      have g0 := hfz (j)
      rw [Nat.mul_one, Nat.add_zero] at v0
      clear hcell hfz
      go_wp2_with fail
      go_roundw
      case rel => exact ⟨j + 1, by omega, by go_num, by
        have hput := Own.put hO hlt [.int .i64 (iAt xs j)] [.num (iAt xs j)] rfl (ToS.int wr.heap.size wr.heap.size wr (iAt xs j)) (by omega) (by omega)
        have hset := rowsTo_succ (xs.map rowI) [.num 0] (j := j) (by have := HRL.out; omega)
        rw [ints_row xs j (by have := HL.out; omega)] at hset
        rw [hset] at hput
        rw [Nat.mul_one] at hput
        exact hput.mono (fun k hk => ⟨hk.1, by simp only [World.size_setCell]; omega⟩), by
        have hkk := keep_set (b := w.heap.size) (o := j) (us := [.int .i64 (iAt xs j)]) hK (Nat.le_refl _)
        exact hkk, by simp only [World.size_setCell]; omega⟩
      case measure => simp [intOf]; omega
    · have HJ : Hid (j = n) := by show _ = _; omega
      go_wp2
      exact fin_ hQ ⟨_, rfl, by
        have e := HJ.out
        subst e
        rw [rowsTo_all _ _ HRL.out.symm] at hO
        exact hO.mono (fun k hk => hk.1), hK⟩

set_option maxHeartbeats 2000000 in
theorem toConS (xs : List (List Int)) : ToC 131 (encCons xs) := by
  intro a n c D w h hz
  refine calls_k fun Q hQ => ?_
  obtain ⟨e1, hnc, hm, hat⟩ := cons_at h
  have HL := Lib.hid e1
  have hrl : (xs.map rowC).length = n := by rw [cons_len]; exact e1
  obtain ⟨hz1, hz2⟩ := szD_arr (s := 1) (rows := (xs.map rowC)) hz
  have hn : n ≤ 1048576 := by omega
  have HZ := Lib.hid (fun (j i : Nat) (hj : j < n) => szD_cell hz2 (i := j) (by rw [hrl]; exact hj) i)
  have HRL := Lib.hid hrl
  have HA := Lib.hid hat
  clear hat e1 hrl hz hz1 hz2
  go_enter Tryz.func131, Tryz.ntmps131
  go_wp2_with (at_make; refine wpList_makeN _ rfl _ _ 123 rfl 155 (.agg #[.slice none 0 0]) #[.slice none 0 0] 1 24 Tryz.underlying123 (by kernel_rfl) rfl rfl n rfl rfl (by omega) (by omega) ?_; intro w1 hrow hk1 hsz)
  have O0 := Own.made (zd := [.arr 1 []]) hrow rfl (by omega) (by omega) (fun j hj => by
    rcases j with _ | j
    · exact .nil _ _ _ _
    · omega)
  replace O0 := O0.mono (D' := fun k => w.heap.size ≤ k ∧ k < w1.heap.size) (fun k hk => by omega)
  rw [← HRL.out, ← rowsTo_zero, HRL.out] at O0
  clear hrow
  go_loopw [4] (fun iv wr => ∃ j : Nat, j ≤ n ∧ iv = .int .i64 j ∧ Own wr (fun k => w.heap.size ≤ k ∧ k < wr.heap.size) (.arr 1 (rowsTo (xs.map rowC) [.arr 1 []] j)) (.slice (some ⟨w.heap.size, 0, none⟩) n n) ∧ Keep w wr ∧ w.heap.size < wr.heap.size) (fun i _ => n - (intOf i).toNat)
  case atStart => exact ⟨0, Nat.zero_le _, rfl, O0, hk1, by omega⟩
  case round =>
    obtain ⟨j, hj, rfl, hO, hK, hgt⟩ := hrel
    by_cases hlt : j < n
    · obtain ⟨b, o, rfl, hd, a0, n0, c0, d0, r0⟩ := HA.out j hlt
      have x0 := (hK.cell (World.block_lt_of_cell? w _ d0) (fun h => h)).trans d0
      have q0 := r0.k hK
      have hrow := cons_row xs j (by have := HL.out; omega)
      have y0 := HZ.out j 0 hlt
      rw [hrow] at y0
      simp only [dGet, List.getD, List.getElem?_cons_zero, Option.getD_some] at y0
      clear hrow
      clear d0 r0
      go_wp2_with fail
      refine (toCon _ _ _ _ _ _ q0 y0 (toIntS _)).mono ?_
      rintro e w2 ⟨b0, rfl, ts, p2⟩
      have z2 := p2.size
      replace hO := hO.ext p2 (fun _ _ h => h)
      clear x0
      obtain ⟨_, e, _, _, hfz, hcell⟩ := hO.cells hlt
      injection e with e
      injection e with e _ _
      subst e
      obtain ⟨u0, v0⟩ := hcell 0 (by omega)
      have g0 := hfz (j)
      rw [Nat.mul_one, Nat.add_zero] at v0
      clear hcell hfz
      go_wp2_with fail
      go_roundw
      case rel => exact ⟨j + 1, by omega, by go_num, by
        have hput := Own.put hO hlt [.slice b0 n0 n0] [encInts (cAt xs j)] rfl ts (by omega) (by omega)
        have hset := rowsTo_succ (xs.map rowC) [.arr 1 []] (j := j) (by have := HRL.out; omega)
        rw [cons_row xs j (by have := HL.out; omega)] at hset
        rw [hset] at hput
        rw [Nat.mul_one] at hput
        exact hput.mono (fun k hk => ⟨hk.1, by simp only [World.size_setCell]; omega⟩), by
        have hkk := keep_set (b := w.heap.size) (o := j) (us := [.slice b0 n0 n0]) (hK.trans p2) (Nat.le_refl _)
        exact hkk, by simp only [World.size_setCell]; omega⟩
      case measure => simp [intOf]; omega
    · have HJ : Hid (j = n) := by show _ = _; omega
      go_wp2
      exact fin_ hQ ⟨_, rfl, by
        have e := HJ.out
        subst e
        rw [rowsTo_all _ _ HRL.out.symm] at hO
        exact hO.mono (fun k hk => hk.1), hK⟩

set_option maxHeartbeats 2000000 in
theorem toDeclS (xs : List DeclL) : ToC 36 (encDecls xs) := by
  intro a n c D w h hz
  refine calls_k fun Q hQ => ?_
  obtain ⟨e1, hnc, hm, hat⟩ := decls_at h
  have HL := Lib.hid e1
  have hrl : (xs.map rowD).length = n := by rw [decls_len]; exact e1
  obtain ⟨hz1, hz2⟩ := szD_arr (s := 3) (rows := (xs.map rowD)) hz
  have hn : n ≤ 1048576 := by omega
  have HZ := Lib.hid (fun (j i : Nat) (hj : j < n) => szD_cell hz2 (i := j) (by rw [hrl]; exact hj) i)
  have HRL := Lib.hid hrl
  have HA := Lib.hid hat
  clear hat e1 hrl hz hz1 hz2
  go_enter Tryz.func36, Tryz.ntmps36
  go_wp2_with (at_make; refine wpList_makeN _ rfl _ _ 27 rfl 125 (.agg #[.int .i64 0, .int .i64 0, .slice none 0 0]) #[.int .i64 0, .int .i64 0, .slice none 0 0] 3 40 Tryz.underlying27 (by kernel_rfl) rfl rfl n rfl rfl (by omega) (by omega) ?_; intro w1 hrow hk1 hsz)
  have O0 := Own.made (zd := [.num 0, .num 0, .arr 1 []]) hrow rfl (by omega) (by omega) (fun j hj => by
    rcases j with _ | _ | _ | j
    · exact .num _ 0
    · exact .num _ 0
    · exact .nil _ _ _ _
    · omega)
  replace O0 := O0.mono (D' := fun k => w.heap.size ≤ k ∧ k < w1.heap.size) (fun k hk => by omega)
  rw [← HRL.out, ← rowsTo_zero, HRL.out] at O0
  clear hrow
  go_loopw [4] (fun iv wr => ∃ j : Nat, j ≤ n ∧ iv = .int .i64 j ∧ Own wr (fun k => w.heap.size ≤ k ∧ k < wr.heap.size) (.arr 3 (rowsTo (xs.map rowD) [.num 0, .num 0, .arr 1 []] j)) (.slice (some ⟨w.heap.size, 0, none⟩) n n) ∧ Keep w wr ∧ w.heap.size < wr.heap.size) (fun i _ => n - (intOf i).toNat)
  case atStart => exact ⟨0, Nat.zero_le _, rfl, O0, hk1, by omega⟩
  case round =>
    obtain ⟨j, hj, rfl, hO, hK, hgt⟩ := hrel
    by_cases hlt : j < n
    · obtain ⟨b, o, rfl, hd, a2, n2, c2, d0, d1, d2, r2⟩ := HA.out j hlt
      have x0 := (hK.cell (World.block_lt_of_cell? w _ d0) (fun h => h)).trans d0
      have x1 := (hK.cell (World.block_lt_of_cell? w _ d1) (fun h => h)).trans d1
      have x2 := (hK.cell (World.block_lt_of_cell? w _ d2) (fun h => h)).trans d2
      have q2 := r2.k hK
      have hrow := decls_row xs j (by have := HL.out; omega)
      have y2 := HZ.out j 2 hlt
      rw [hrow] at y2
      simp only [dGet, List.getD, List.getElem?_cons_succ, List.getElem?_cons_zero, Option.getD_some] at y2
      clear hrow
      clear d0 d1 d2 r2
      go_wp2_with fail
      refine (toDecl _ _ _ _ _ _ _ _ q2 y2 (toConS _)).mono ?_
      rintro e w2 ⟨b2, rfl, ts, p2⟩
      have z2 := p2.size
      replace hO := hO.ext p2 (fun _ _ h => h)
      clear x0 x1 x2
      obtain ⟨_, e, _, _, hfz, hcell⟩ := hO.cells hlt
      injection e with e
      injection e with e _ _
      subst e
      obtain ⟨u0, v0⟩ := hcell 0 (by omega)
      have g0 := hfz (j * 3)
      obtain ⟨u1, v1⟩ := hcell 1 (by omega)
      have g1 := hfz (j * 3 + 1)
      obtain ⟨u2, v2⟩ := hcell 2 (by omega)
      have g2 := hfz (j * 3 + 2)
      rw [Nat.add_zero] at v0
      clear hcell hfz
      go_wp2_with fail
      go_roundw
      case rel => exact ⟨j + 1, by omega, by go_num, by
        have hput := Own.put hO hlt [.int .i64 ((dAt xs j).from_), .int .i64 ((dAt xs j).to_), .slice b2 n2 n2] [.num ((dAt xs j).from_), .num ((dAt xs j).to_), encCons ((dAt xs j).cons)] rfl ts (by omega) (by omega)
        have hset := rowsTo_succ (xs.map rowD) [.num 0, .num 0, .arr 1 []] (j := j) (by have := HRL.out; omega)
        rw [decls_row xs j (by have := HL.out; omega)] at hset
        rw [hset] at hput
        exact hput.mono (fun k hk => ⟨hk.1, by simp only [World.size_setCell]; omega⟩), by
        have hkk := keep_set (b := w.heap.size) (o := j * 3) (us := [.int .i64 ((dAt xs j).from_), .int .i64 ((dAt xs j).to_), .slice b2 n2 n2]) (hK.trans p2) (Nat.le_refl _)
        exact hkk, by simp only [World.size_setCell]; omega⟩
      case measure => simp [intOf]; omega
    · have HJ : Hid (j = n) := by show _ = _; omega
      go_wp2
      exact fin_ hQ ⟨_, rfl, by
        have e := HJ.out
        subst e
        rw [rowsTo_all _ _ HRL.out.symm] at hO
        exact hO.mono (fun k hk => hk.1), hK⟩

set_option maxHeartbeats 2000000 in
theorem toExprS_n (N : Nat) : ∀ xs : List ExprL, volD (encExprs xs) < N → ToC 200 (encExprs xs) := by
  induction N with
  | zero => intro xs h; omega
  | succ N ihN =>
  intro xs hvol a n c D w h hz
  have IH : ∀ ys : List ExprL, volD (encExprs ys) < volD (encExprs xs) → ToC 200 (encExprs ys) := fun ys hy => ihN ys (by omega)
  clear ihN hvol
  refine calls_k fun Q hQ => ?_
  obtain ⟨e1, hnc, hm, hat⟩ := exprs_at h
  have HL := Lib.hid e1
  have hrl : (rowsE xs).length = n := by rw [exprs_len]; exact e1
  obtain ⟨hz1, hz2⟩ := szD_arr (s := 3) (rows := (rowsE xs)) hz
  have hn : n ≤ 1048576 := by omega
  have HZ := Lib.hid (fun (j i : Nat) (hj : j < n) => szD_cell hz2 (i := j) (by rw [hrl]; exact hj) i)
  have HRL := Lib.hid hrl
  have HA := Lib.hid hat
  clear hat e1 hrl hz hz1 hz2
  go_enter Tryz.func200, Tryz.ntmps200
  go_wp2_with (at_make; refine wpList_makeN _ rfl _ _ 56 rfl 58 (.agg #[.int .i64 0, .int .i64 0, .slice none 0 0]) #[.int .i64 0, .int .i64 0, .slice none 0 0] 3 40 Tryz.underlying56 (by kernel_rfl) rfl rfl n rfl rfl (by omega) (by omega) ?_; intro w1 hrow hk1 hsz)
  have O0 := Own.made (zd := [.num 0, .num 0, .arr 3 []]) hrow rfl (by omega) (by omega) (fun j hj => by
    rcases j with _ | _ | _ | j
    · exact .num _ 0
    · exact .num _ 0
    · exact .nil _ _ _ _
    · omega)
  replace O0 := O0.mono (D' := fun k => w.heap.size ≤ k ∧ k < w1.heap.size) (fun k hk => by omega)
  rw [← HRL.out, ← rowsTo_zero, HRL.out] at O0
  clear hrow
  go_loopw [4] (fun iv wr => ∃ j : Nat, j ≤ n ∧ iv = .int .i64 j ∧ Own wr (fun k => w.heap.size ≤ k ∧ k < wr.heap.size) (.arr 3 (rowsTo (rowsE xs) [.num 0, .num 0, .arr 3 []] j)) (.slice (some ⟨w.heap.size, 0, none⟩) n n) ∧ Keep w wr ∧ w.heap.size < wr.heap.size) (fun i _ => n - (intOf i).toNat)
  case atStart => exact ⟨0, Nat.zero_le _, rfl, O0, hk1, by omega⟩
  case round =>
    obtain ⟨j, hj, rfl, hO, hK, hgt⟩ := hrel
    by_cases hlt : j < n
    · obtain ⟨b, o, rfl, hd, a2, n2, c2, d0, d1, d2, r2⟩ := HA.out j hlt
      have x0 := (hK.cell (World.block_lt_of_cell? w _ d0) (fun h => h)).trans d0
      have x1 := (hK.cell (World.block_lt_of_cell? w _ d1) (fun h => h)).trans d1
      have x2 := (hK.cell (World.block_lt_of_cell? w _ d2) (fun h => h)).trans d2
      have q2 := r2.k hK
      have hrow := exprs_row xs j (by have := HL.out; omega)
      have y2 := HZ.out j 2 hlt
      rw [hrow] at y2
      simp only [dGet, List.getD, List.getElem?_cons_succ, List.getElem?_cons_zero, Option.getD_some] at y2
      clear hrow
      clear d0 d1 d2 r2
      go_wp2_with fail
      refine (toExpr _ _ _ _ _ _ _ _ q2 y2 (IH _ (by have := vol_lt (s := 3) (rows := (rowsE xs)) (i := j) (j := 2) (by have := HRL.out; omega) (by rw [exprs_row xs j (by have := HL.out; omega)]; simp); rw [rAt, exprs_row xs j (by have := HL.out; omega)] at this; simp only [dGet, List.getD, List.getElem?_cons_succ, List.getElem?_cons_zero, Option.getD_some] at this; exact this))).mono ?_
      rintro e w2 ⟨b2, rfl, ts, p2⟩
      have z2 := p2.size
      replace hO := hO.ext p2 (fun _ _ h => h)
      clear x0 x1 x2
      obtain ⟨_, e, _, _, hfz, hcell⟩ := hO.cells hlt
      injection e with e
      injection e with e _ _
      subst e
      obtain ⟨u0, v0⟩ := hcell 0 (by omega)
      have g0 := hfz (j * 3)
      obtain ⟨u1, v1⟩ := hcell 1 (by omega)
      have g1 := hfz (j * 3 + 1)
      obtain ⟨u2, v2⟩ := hcell 2 (by omega)
      have g2 := hfz (j * 3 + 2)
      rw [Nat.add_zero] at v0
      clear hcell hfz
      go_wp2_with fail
      go_roundw
      case rel => exact ⟨j + 1, by omega, by go_num, by
        have hput := Own.put hO hlt [.int .i64 ((eAt xs j).op), .int .i64 ((eAt xs j).num), .slice b2 n2 n2] [.num ((eAt xs j).op), .num ((eAt xs j).num), encExprs ((eAt xs j).kids)] rfl ts (by omega) (by omega)
        have hset := rowsTo_succ (rowsE xs) [.num 0, .num 0, .arr 3 []] (j := j) (by have := HRL.out; omega)
        rw [exprs_row xs j (by have := HL.out; omega)] at hset
        rw [hset] at hput
        exact hput.mono (fun k hk => ⟨hk.1, by simp only [World.size_setCell]; omega⟩), by
        have hkk := keep_set (b := w.heap.size) (o := j * 3) (us := [.int .i64 ((eAt xs j).op), .int .i64 ((eAt xs j).num), .slice b2 n2 n2]) (hK.trans p2) (Nat.le_refl _)
        exact hkk, by simp only [World.size_setCell]; omega⟩
      case measure => simp [intOf]; omega
    · have HJ : Hid (j = n) := by show _ = _; omega
      go_wp2
      exact fin_ hQ ⟨_, rfl, by
        have e := HJ.out
        subst e
        rw [rowsTo_all _ _ HRL.out.symm] at hO
        exact hO.mono (fun k hk => hk.1), hK⟩
theorem toExprS (xs : List ExprL) : ToC 200 (encExprs xs) := toExprS_n _ xs (Nat.lt_succ_self _)

set_option maxHeartbeats 2000000 in
theorem toFuncS (xs : List FuncL) : ToC 51 (encFuncs xs) := by
  intro a n c D w h hz
  refine calls_k fun Q hQ => ?_
  obtain ⟨e1, hnc, hm, hat⟩ := funcs_at h
  have HL := Lib.hid e1
  have hrl : (xs.map rowF).length = n := by rw [funcs_len]; exact e1
  obtain ⟨hz1, hz2⟩ := szD_arr (s := 5) (rows := (xs.map rowF)) hz
  have hn : n ≤ 1048576 := by omega
  have HZ := Lib.hid (fun (j i : Nat) (hj : j < n) => szD_cell hz2 (i := j) (by rw [hrl]; exact hj) i)
  have HRL := Lib.hid hrl
  have HA := Lib.hid hat
  clear hat e1 hrl hz hz1 hz2
  go_enter Tryz.func51, Tryz.ntmps51
  go_wp2_with (at_make; refine wpList_makeN _ rfl _ _ 42 rfl 60 (.agg #[.slice none 0 0, .int .i64 0, .int .i64 0, .int .i64 0, .slice none 0 0]) #[.slice none 0 0, .int .i64 0, .int .i64 0, .int .i64 0, .slice none 0 0] 5 72 Tryz.underlying42 (by kernel_rfl) rfl rfl n rfl rfl (by omega) (by omega) ?_; intro w1 hrow hk1 hsz)
  have O0 := Own.made (zd := [.arr 1 [], .num 0, .num 0, .num 0, .arr 3 []]) hrow rfl (by omega) (by omega) (fun j hj => by
    rcases j with _ | _ | _ | _ | _ | j
    · exact .nil _ _ _ _
    · exact .num _ 0
    · exact .num _ 0
    · exact .num _ 0
    · exact .nil _ _ _ _
    · omega)
  replace O0 := O0.mono (D' := fun k => w.heap.size ≤ k ∧ k < w1.heap.size) (fun k hk => by omega)
  rw [← HRL.out, ← rowsTo_zero, HRL.out] at O0
  clear hrow
  go_loopw [4] (fun iv wr => ∃ j : Nat, j ≤ n ∧ iv = .int .i64 j ∧ Own wr (fun k => w.heap.size ≤ k ∧ k < wr.heap.size) (.arr 5 (rowsTo (xs.map rowF) [.arr 1 [], .num 0, .num 0, .num 0, .arr 3 []] j)) (.slice (some ⟨w.heap.size, 0, none⟩) n n) ∧ Keep w wr ∧ w.heap.size < wr.heap.size) (fun i _ => n - (intOf i).toNat)
  case atStart => exact ⟨0, Nat.zero_le _, rfl, O0, hk1, by omega⟩
  case round =>
    obtain ⟨j, hj, rfl, hO, hK, hgt⟩ := hrel
    by_cases hlt : j < n
    · obtain ⟨b, o, rfl, hd, a0, n0, c0, a4, n4, c4, d0, d1, d2, d3, d4, r0, r4⟩ := HA.out j hlt
      have x0 := (hK.cell (World.block_lt_of_cell? w _ d0) (fun h => h)).trans d0
      have x1 := (hK.cell (World.block_lt_of_cell? w _ d1) (fun h => h)).trans d1
      have x2 := (hK.cell (World.block_lt_of_cell? w _ d2) (fun h => h)).trans d2
      have x3 := (hK.cell (World.block_lt_of_cell? w _ d3) (fun h => h)).trans d3
      have x4 := (hK.cell (World.block_lt_of_cell? w _ d4) (fun h => h)).trans d4
      have q0 := r0.k hK
      have q4 := r4.k hK
      have hrow := funcs_row xs j (by have := HL.out; omega)
      have y0 := HZ.out j 0 hlt
      rw [hrow] at y0
      simp only [dGet, List.getD, List.getElem?_cons_zero, Option.getD_some] at y0
      have y4 := HZ.out j 4 hlt
      rw [hrow] at y4
      simp only [dGet, List.getD, List.getElem?_cons_succ, List.getElem?_cons_zero, Option.getD_some] at y4
      clear hrow
      clear d0 d1 d2 d3 d4 r0 r4
      go_wp2_with fail
      refine (toFunc _ _ _ _ _ _ _ _ _ _ _ _ _ q0 y0 q4 y4 (toIntS _) (toExprS _)).mono ?_
      rintro e w2 ⟨b0, b4, rfl, ts, p2⟩
      have z2 := p2.size
      replace hO := hO.ext p2 (fun _ _ h => h)
      clear x0 x1 x2 x3 x4
      obtain ⟨_, e, _, _, hfz, hcell⟩ := hO.cells hlt
      injection e with e
      injection e with e _ _
      subst e
      obtain ⟨u0, v0⟩ := hcell 0 (by omega)
      have g0 := hfz (j * 5)
      obtain ⟨u1, v1⟩ := hcell 1 (by omega)
      have g1 := hfz (j * 5 + 1)
      obtain ⟨u2, v2⟩ := hcell 2 (by omega)
      have g2 := hfz (j * 5 + 2)
      obtain ⟨u3, v3⟩ := hcell 3 (by omega)
      have g3 := hfz (j * 5 + 3)
      obtain ⟨u4, v4⟩ := hcell 4 (by omega)
      have g4 := hfz (j * 5 + 4)
      rw [Nat.add_zero] at v0
      clear hcell hfz
      go_wp2_with fail
      go_roundw
      case rel => exact ⟨j + 1, by omega, by go_num, by
        have hput := Own.put hO hlt [.slice b0 n0 n0, .int .i64 ((fAt xs j).result), .int .i64 ((fAt xs j).body.op), .int .i64 ((fAt xs j).body.num), .slice b4 n4 n4] [encInts ((fAt xs j).params), .num ((fAt xs j).result), .num ((fAt xs j).body.op), .num ((fAt xs j).body.num), encExprs ((fAt xs j).body.kids)] rfl ts (by omega) (by omega)
        have hset := rowsTo_succ (xs.map rowF) [.arr 1 [], .num 0, .num 0, .num 0, .arr 3 []] (j := j) (by have := HRL.out; omega)
        rw [funcs_row xs j (by have := HL.out; omega)] at hset
        rw [hset] at hput
        exact hput.mono (fun k hk => ⟨hk.1, by simp only [World.size_setCell]; omega⟩), by
        have hkk := keep_set (b := w.heap.size) (o := j * 5) (us := [.slice b0 n0 n0, .int .i64 ((fAt xs j).result), .int .i64 ((fAt xs j).body.op), .int .i64 ((fAt xs j).body.num), .slice b4 n4 n4]) (hK.trans p2) (Nat.le_refl _)
        exact hkk, by simp only [World.size_setCell]; omega⟩
      case measure => simp [intOf]; omega
    · have HJ : Hid (j = n) := by show _ = _; omega
      go_wp2
      exact fin_ hQ ⟨_, rfl, by
        have e := HJ.out
        subst e
        rw [rowsTo_all _ _ HRL.out.symm] at hO
        exact hO.mono (fun k hk => hk.1), hK⟩

end Go.Proofs.YtkapldpmjkdmcaaGreat
/- The laws' own helpers: comparisons of equal data. -/
namespace Go.Proofs.YtkapldpmjkdmcaaGreat
open Go.RowKit


def EqC (f : FuncId) (d : Dat) : Prop := ∀ (a : Option Addr) (n c : Nat) (a' : Option Addr) (n' c' : Nat) (D D' : Nat → Prop) (w : World), Rd w D d (.slice a n c) → Rd w D' d (.slice a' n' c') →
  Calls Tryz.prog f #[.slice a n c, .slice a' n' c'] w fun e w' => e = .returned (.bool true) ∧ Keep w w'


set_option maxHeartbeats 400000 in
theorem eqIntS (xs : List Int) : EqC 137 (encInts xs) := by
  intro a n c a' n' c' D D' w h h'
  refine calls_k fun Q hQ => ?_
  obtain ⟨e1, hnc, hm, hat⟩ := ints_at h
  obtain ⟨e2, _, _, hat'⟩ := ints_at h'
  obtain rfl : n = n' := by omega
  have HA := Lib.hid hat
  have HA' := Lib.hid hat'
  clear e1 e2 hat hat'
  go_enter Tryz.func137, Tryz.ntmps137
  go_wp2
  go_loopw [5] (fun i wr => ∃ k : Nat, k ≤ n ∧ i = .int .i64 k ∧ Keep w wr) (fun i _ => n - (intOf i).toNat)
  case atStart => exact ⟨0, Nat.zero_le _, rfl, Ext.refl _ _⟩
  case round =>
    obtain ⟨k, hk, rfl, hK⟩ := hrel
    by_cases hlt : k < n
    · obtain ⟨b, o, rfl, hd, c0⟩ := HA.out k hlt
      obtain ⟨b', o', rfl, hd', c1⟩ := HA'.out k hlt
      have g0 := (hK.cell (World.block_lt_of_cell? w _ c0) (fun h => h)).trans c0
      have g1 := (hK.cell (World.block_lt_of_cell? w _ c1) (fun h => h)).trans c1
      clear c0 c1
      go_wp2
      go_quiet (fail)
      go_wp2
      go_roundw
      case rel => exact ⟨k + 1, by omega, by go_num, hK.drewN nq⟩
      case measure => simp [intOf]; omega
    · go_wp2
      exact fin_ hQ ⟨rfl, hK⟩

set_option maxHeartbeats 1000000 in
theorem eqCon (D D' : Nat → Prop) (w : World) (a0 : Option Addr) (n0 c0 : Nat) (a0' : Option Addr) (n0' c0' : Nat) (d0 : Dat) (r0 : Rd w D d0 (.slice a0 n0 c0)) (r0' : Rd w D' d0 (.slice a0' n0' c0')) (k0 : EqC 137 d0) :
    Calls Tryz.prog 192 #[.agg #[.slice a0 n0 c0], .agg #[.slice a0' n0' c0']] w fun e w' => e = .returned (.bool true) ∧ Keep w w' := by
  refine calls_k fun Q hQ => ?_
  have K : Keep w ((w.alloc (.cells #[.slice a0 n0 c0] 155)).alloc (.cells #[.slice a0' n0' c0'] 155)) := (Keep.al _ _).trans (Keep.al _ _)
  have R0 := (rowOf w #[.slice a0 n0 c0] 155).alloc (.cells #[.slice a0' n0' c0'] 155)
  have R1 := rowOf (w.alloc (.cells #[.slice a0 n0 c0] 155)) #[.slice a0' n0' c0'] 155
  have q0 := r0.k K
  have q0' := r0'.k K
  clear r0 r0'
  simp only [World.size_alloc] at R1
  go_enter Tryz.func192, Tryz.ntmps192
  go_wp2_with fail
  refine (k0 _ _ _ _ _ _ _ _ _ q0 q0').mono ?_
  rintro e w1 ⟨rfl, p1⟩
  replace K := K.trans p1
  replace R0 := row_ext R0 p1 (fun h => h)
  replace R1 := row_ext R1 p1 (fun h => h)
  replace q0 := q0.k p1
  replace q0' := q0'.k p1
  have x0 := R0.cell (i := 0) (by simp)
  have y0 := R1.cell (i := 0) (by simp)
  simp at x0 y0
  go_wp2_with fail
  exact fin_ hQ ⟨rfl, K⟩

set_option maxRecDepth 100000 in
set_option maxHeartbeats 2000000 in
theorem eqConS (xs : List (List Int)) : EqC 136 (encCons xs) := by
  intro a n c a' n' c' D D' w h h'
  refine calls_k fun Q hQ => ?_
  obtain ⟨e1, hnc, hm, hat⟩ := cons_at h
  obtain ⟨e2, _, _, hat'⟩ := cons_at h'
  obtain rfl : n = n' := by omega
  have HL := Lib.hid e1
  have HA := Lib.hid hat
  have HA' := Lib.hid hat'
  clear e1 e2 hat hat' h h'
  go_enter Tryz.func136, Tryz.ntmps136
  go_wp2
  go_loopw [5] (fun i wr => ∃ k : Nat, k ≤ n ∧ i = .int .i64 k ∧ Keep w wr) (fun i _ => n - (intOf i).toNat)
  case atStart => exact ⟨0, Nat.zero_le _, rfl, Ext.refl _ _⟩
  case round =>
    obtain ⟨j, hj, rfl, hK⟩ := hrel
    by_cases hlt : j < n
    · obtain ⟨b, o, rfl, hd, a0, n0, c0, d0, r0⟩ := HA.out j hlt
      obtain ⟨b', o', rfl, hd', a0', n0', c0', d0', r0'⟩ := HA'.out j hlt
      have x0 := (hK.cell (World.block_lt_of_cell? w _ d0) (fun h => h)).trans d0
      have y0 := (hK.cell (World.block_lt_of_cell? w _ d0') (fun h => h)).trans d0'
      have q0 := (r0.k hK).ext (w' := wr.drew) (Ext.refl (fun _ => False) wr).drew (fun _ _ h => h)
      have q0' := (r0'.k hK).ext (w' := wr.drew) (Ext.refl (fun _ => False) wr).drew (fun _ _ h => h)
      clear d0 d0' r0 r0'
      go_wp2
      go_still_tail 8, (by kernel_rfl)
      change wpList _ _ _ _ _ wr.drew
      go_wp2_with fail
      refine (eqCon _ _ _ _ _ _ _ _ _ _ q0 q0' (eqIntS _)).mono ?_
      rintro e w1 ⟨rfl, p1⟩
      go_wp2_with fail
      go_roundw
      case rel => exact ⟨j + 1, by omega, by go_num, hK.drew.trans p1⟩
      case measure => simp [intOf]; omega
    · go_wp2
      exact fin_ hQ ⟨rfl, hK⟩

set_option maxHeartbeats 1000000 in
theorem eqDecl (D D' : Nat → Prop) (w : World) (z0 : Int) (z1 : Int) (a2 : Option Addr) (n2 c2 : Nat) (a2' : Option Addr) (n2' c2' : Nat) (d2 : Dat) (r2 : Rd w D d2 (.slice a2 n2 c2)) (r2' : Rd w D' d2 (.slice a2' n2' c2')) (k2 : EqC 136 d2) :
    Calls Tryz.prog 88 #[.agg #[.int .i64 z0, .int .i64 z1, .slice a2 n2 c2], .agg #[.int .i64 z0, .int .i64 z1, .slice a2' n2' c2']] w fun e w' => e = .returned (.bool true) ∧ Keep w w' := by
  refine calls_k fun Q hQ => ?_
  have K : Keep w ((w.alloc (.cells #[.int .i64 z0, .int .i64 z1, .slice a2 n2 c2] 125)).alloc (.cells #[.int .i64 z0, .int .i64 z1, .slice a2' n2' c2'] 125)) := (Keep.al _ _).trans (Keep.al _ _)
  have R0 := (rowOf w #[.int .i64 z0, .int .i64 z1, .slice a2 n2 c2] 125).alloc (.cells #[.int .i64 z0, .int .i64 z1, .slice a2' n2' c2'] 125)
  have R1 := rowOf (w.alloc (.cells #[.int .i64 z0, .int .i64 z1, .slice a2 n2 c2] 125)) #[.int .i64 z0, .int .i64 z1, .slice a2' n2' c2'] 125
  have q2 := r2.k K
  have q2' := r2'.k K
  clear r2 r2'
  simp only [World.size_alloc] at R1
  go_enter Tryz.func88, Tryz.ntmps88
  go_wp2_with fail
  refine (k2 _ _ _ _ _ _ _ _ _ q2 q2').mono ?_
  rintro e w1 ⟨rfl, p1⟩
  replace K := K.trans p1
  replace R0 := row_ext R0 p1 (fun h => h)
  replace R1 := row_ext R1 p1 (fun h => h)
  replace q2 := q2.k p1
  replace q2' := q2'.k p1
  have x0 := R0.cell (i := 0) (by simp)
  have y0 := R1.cell (i := 0) (by simp)
  have x1 := R0.cell (i := 1) (by simp)
  have y1 := R1.cell (i := 1) (by simp)
  have x2 := R0.cell (i := 2) (by simp)
  have y2 := R1.cell (i := 2) (by simp)
  simp at x0 y0 x1 y1 x2 y2
  go_wp2_with fail
  exact fin_ hQ ⟨rfl, K⟩

set_option maxRecDepth 100000 in
set_option maxHeartbeats 2000000 in
theorem eqDeclS (xs : List DeclL) : EqC 42 (encDecls xs) := by
  intro a n c a' n' c' D D' w h h'
  refine calls_k fun Q hQ => ?_
  obtain ⟨e1, hnc, hm, hat⟩ := decls_at h
  obtain ⟨e2, _, _, hat'⟩ := decls_at h'
  obtain rfl : n = n' := by omega
  have HL := Lib.hid e1
  have HA := Lib.hid hat
  have HA' := Lib.hid hat'
  clear e1 e2 hat hat' h h'
  go_enter Tryz.func42, Tryz.ntmps42
  go_wp2
  go_loopw [5] (fun i wr => ∃ k : Nat, k ≤ n ∧ i = .int .i64 k ∧ Keep w wr) (fun i _ => n - (intOf i).toNat)
  case atStart => exact ⟨0, Nat.zero_le _, rfl, Ext.refl _ _⟩
  case round =>
    obtain ⟨j, hj, rfl, hK⟩ := hrel
    by_cases hlt : j < n
    · obtain ⟨b, o, rfl, hd, a2, n2, c2, d0, d1, d2, r2⟩ := HA.out j hlt
      obtain ⟨b', o', rfl, hd', a2', n2', c2', d0', d1', d2', r2'⟩ := HA'.out j hlt
      have x0 := (hK.cell (World.block_lt_of_cell? w _ d0) (fun h => h)).trans d0
      have y0 := (hK.cell (World.block_lt_of_cell? w _ d0') (fun h => h)).trans d0'
      have x1 := (hK.cell (World.block_lt_of_cell? w _ d1) (fun h => h)).trans d1
      have y1 := (hK.cell (World.block_lt_of_cell? w _ d1') (fun h => h)).trans d1'
      have x2 := (hK.cell (World.block_lt_of_cell? w _ d2) (fun h => h)).trans d2
      have y2 := (hK.cell (World.block_lt_of_cell? w _ d2') (fun h => h)).trans d2'
      have q2 := (r2.k hK).ext (w' := wr.drew) (Ext.refl (fun _ => False) wr).drew (fun _ _ h => h)
      have q2' := (r2'.k hK).ext (w' := wr.drew) (Ext.refl (fun _ => False) wr).drew (fun _ _ h => h)
      clear d0 d0' d1 d1' d2 d2' r2 r2'
      go_wp2
      go_still_tail 8, (by kernel_rfl)
      change wpList _ _ _ _ _ wr.drew
      go_wp2_with fail
      refine (eqDecl _ _ _ _ _ _ _ _ _ _ _ _ q2 q2' (eqConS _)).mono ?_
      rintro e w1 ⟨rfl, p1⟩
      go_wp2_with fail
      go_roundw
      case rel => exact ⟨j + 1, by omega, by go_num, hK.drew.trans p1⟩
      case measure => simp [intOf]; omega
    · go_wp2
      exact fin_ hQ ⟨rfl, hK⟩

set_option maxHeartbeats 1000000 in
theorem eqExpr (D D' : Nat → Prop) (w : World) (z0 : Int) (z1 : Int) (a2 : Option Addr) (n2 c2 : Nat) (a2' : Option Addr) (n2' c2' : Nat) (d2 : Dat) (r2 : Rd w D d2 (.slice a2 n2 c2)) (r2' : Rd w D' d2 (.slice a2' n2' c2')) (k2 : EqC 201 d2) :
    Calls Tryz.prog 157 #[.agg #[.int .i64 z0, .int .i64 z1, .slice a2 n2 c2], .agg #[.int .i64 z0, .int .i64 z1, .slice a2' n2' c2']] w fun e w' => e = .returned (.bool true) ∧ Keep w w' := by
  refine calls_k fun Q hQ => ?_
  have K : Keep w ((w.alloc (.cells #[.int .i64 z0, .int .i64 z1, .slice a2 n2 c2] 58)).alloc (.cells #[.int .i64 z0, .int .i64 z1, .slice a2' n2' c2'] 58)) := (Keep.al _ _).trans (Keep.al _ _)
  have R0 := (rowOf w #[.int .i64 z0, .int .i64 z1, .slice a2 n2 c2] 58).alloc (.cells #[.int .i64 z0, .int .i64 z1, .slice a2' n2' c2'] 58)
  have R1 := rowOf (w.alloc (.cells #[.int .i64 z0, .int .i64 z1, .slice a2 n2 c2] 58)) #[.int .i64 z0, .int .i64 z1, .slice a2' n2' c2'] 58
  have q2 := r2.k K
  have q2' := r2'.k K
  clear r2 r2'
  simp only [World.size_alloc] at R1
  go_enter Tryz.func157, Tryz.ntmps157
  go_wp2_with fail
  refine (k2 _ _ _ _ _ _ _ _ _ q2 q2').mono ?_
  rintro e w1 ⟨rfl, p1⟩
  replace K := K.trans p1
  replace R0 := row_ext R0 p1 (fun h => h)
  replace R1 := row_ext R1 p1 (fun h => h)
  replace q2 := q2.k p1
  replace q2' := q2'.k p1
  have x0 := R0.cell (i := 0) (by simp)
  have y0 := R1.cell (i := 0) (by simp)
  have x1 := R0.cell (i := 1) (by simp)
  have y1 := R1.cell (i := 1) (by simp)
  have x2 := R0.cell (i := 2) (by simp)
  have y2 := R1.cell (i := 2) (by simp)
  simp at x0 y0 x1 y1 x2 y2
  go_wp2_with fail
  exact fin_ hQ ⟨rfl, K⟩

set_option maxRecDepth 100000 in
set_option maxHeartbeats 2000000 in
theorem eqExprS_n (N : Nat) : ∀ xs : List ExprL, volD (encExprs xs) < N → EqC 201 (encExprs xs) := by
  induction N with
  | zero => intro xs h; omega
  | succ N ihN =>
  intro xs hvol a n c a' n' c' D D' w h h'
  have IH : ∀ ys : List ExprL, volD (encExprs ys) < volD (encExprs xs) → EqC 201 (encExprs ys) := fun ys hy => ihN ys (by omega)
  clear ihN hvol
  refine calls_k fun Q hQ => ?_
  obtain ⟨e1, hnc, hm, hat⟩ := exprs_at h
  obtain ⟨e2, _, _, hat'⟩ := exprs_at h'
  obtain rfl : n = n' := by omega
  have HL := Lib.hid e1
  have HA := Lib.hid hat
  have HA' := Lib.hid hat'
  clear e1 e2 hat hat' h h'
  go_enter Tryz.func201, Tryz.ntmps201
  go_wp2
  go_loopw [5] (fun i wr => ∃ k : Nat, k ≤ n ∧ i = .int .i64 k ∧ Keep w wr) (fun i _ => n - (intOf i).toNat)
  case atStart => exact ⟨0, Nat.zero_le _, rfl, Ext.refl _ _⟩
  case round =>
    obtain ⟨j, hj, rfl, hK⟩ := hrel
    by_cases hlt : j < n
    · obtain ⟨b, o, rfl, hd, a2, n2, c2, d0, d1, d2, r2⟩ := HA.out j hlt
      obtain ⟨b', o', rfl, hd', a2', n2', c2', d0', d1', d2', r2'⟩ := HA'.out j hlt
      have x0 := (hK.cell (World.block_lt_of_cell? w _ d0) (fun h => h)).trans d0
      have y0 := (hK.cell (World.block_lt_of_cell? w _ d0') (fun h => h)).trans d0'
      have x1 := (hK.cell (World.block_lt_of_cell? w _ d1) (fun h => h)).trans d1
      have y1 := (hK.cell (World.block_lt_of_cell? w _ d1') (fun h => h)).trans d1'
      have x2 := (hK.cell (World.block_lt_of_cell? w _ d2) (fun h => h)).trans d2
      have y2 := (hK.cell (World.block_lt_of_cell? w _ d2') (fun h => h)).trans d2'
      have q2 := (r2.k hK).ext (w' := wr.drew) (Ext.refl (fun _ => False) wr).drew (fun _ _ h => h)
      have q2' := (r2'.k hK).ext (w' := wr.drew) (Ext.refl (fun _ => False) wr).drew (fun _ _ h => h)
      clear d0 d0' d1 d1' d2 d2' r2 r2'
      go_wp2
      go_still_tail 8, (by kernel_rfl)
      change wpList _ _ _ _ _ wr.drew
      go_wp2_with fail
      refine (eqExpr _ _ _ _ _ _ _ _ _ _ _ _ q2 q2' (IH _ (by have := vol_lt (s := 3) (rows := (rowsE xs)) (i := j) (j := 2) (by rw [exprs_len]; have := HL.out; omega) (by rw [exprs_row xs j (by have := HL.out; omega)]; simp); rw [rAt, exprs_row xs j (by have := HL.out; omega)] at this; simp only [dGet, List.getD, List.getElem?_cons_succ, List.getElem?_cons_zero, Option.getD_some] at this; exact this))).mono ?_
      rintro e w1 ⟨rfl, p1⟩
      go_wp2_with fail
      go_roundw
      case rel => exact ⟨j + 1, by omega, by go_num, hK.drew.trans p1⟩
      case measure => simp [intOf]; omega
    · go_wp2
      exact fin_ hQ ⟨rfl, hK⟩
theorem eqExprS (xs : List ExprL) : EqC 201 (encExprs xs) := eqExprS_n _ xs (Nat.lt_succ_self _)

set_option maxHeartbeats 1000000 in
theorem eqFunc (D D' : Nat → Prop) (w : World) (a0 : Option Addr) (n0 c0 : Nat) (a0' : Option Addr) (n0' c0' : Nat) (d0 : Dat) (z1 : Int) (z2 : Int) (z3 : Int) (a4 : Option Addr) (n4 c4 : Nat) (a4' : Option Addr) (n4' c4' : Nat) (d4 : Dat) (r0 : Rd w D d0 (.slice a0 n0 c0)) (r0' : Rd w D' d0 (.slice a0' n0' c0')) (r4 : Rd w D d4 (.slice a4 n4 c4)) (r4' : Rd w D' d4 (.slice a4' n4' c4')) (k0 : EqC 137 d0) (k4 : EqC 201 d4) :
    Calls Tryz.prog 110 #[.agg #[.slice a0 n0 c0, .int .i64 z1, .int .i64 z2, .int .i64 z3, .slice a4 n4 c4], .agg #[.slice a0' n0' c0', .int .i64 z1, .int .i64 z2, .int .i64 z3, .slice a4' n4' c4']] w fun e w' => e = .returned (.bool true) ∧ Keep w w' := by
  refine calls_k fun Q hQ => ?_
  have K : Keep w ((w.alloc (.cells #[.slice a0 n0 c0, .int .i64 z1, .int .i64 z2, .int .i64 z3, .slice a4 n4 c4] 60)).alloc (.cells #[.slice a0' n0' c0', .int .i64 z1, .int .i64 z2, .int .i64 z3, .slice a4' n4' c4'] 60)) := (Keep.al _ _).trans (Keep.al _ _)
  have R0 := (rowOf w #[.slice a0 n0 c0, .int .i64 z1, .int .i64 z2, .int .i64 z3, .slice a4 n4 c4] 60).alloc (.cells #[.slice a0' n0' c0', .int .i64 z1, .int .i64 z2, .int .i64 z3, .slice a4' n4' c4'] 60)
  have R1 := rowOf (w.alloc (.cells #[.slice a0 n0 c0, .int .i64 z1, .int .i64 z2, .int .i64 z3, .slice a4 n4 c4] 60)) #[.slice a0' n0' c0', .int .i64 z1, .int .i64 z2, .int .i64 z3, .slice a4' n4' c4'] 60
  have q0 := r0.k K
  have q0' := r0'.k K
  have q4 := r4.k K
  have q4' := r4'.k K
  clear r0 r0' r4 r4'
  simp only [World.size_alloc] at R1
  go_enter Tryz.func110, Tryz.ntmps110
  go_wp2_with fail
  refine (k0 _ _ _ _ _ _ _ _ _ q0 q0').mono ?_
  rintro e w1 ⟨rfl, p1⟩
  replace K := K.trans p1
  replace R0 := row_ext R0 p1 (fun h => h)
  replace R1 := row_ext R1 p1 (fun h => h)
  replace q0 := q0.k p1
  replace q0' := q0'.k p1
  replace q4 := q4.k p1
  replace q4' := q4'.k p1
  have x0 := R0.cell (i := 0) (by simp)
  have y0 := R1.cell (i := 0) (by simp)
  have x1 := R0.cell (i := 1) (by simp)
  have y1 := R1.cell (i := 1) (by simp)
  have x2 := R0.cell (i := 2) (by simp)
  have y2 := R1.cell (i := 2) (by simp)
  have x3 := R0.cell (i := 3) (by simp)
  have y3 := R1.cell (i := 3) (by simp)
  have x4 := R0.cell (i := 4) (by simp)
  have y4 := R1.cell (i := 4) (by simp)
  simp at x0 y0 x1 y1 x2 y2 x3 y3 x4 y4
  go_wp2_with fail
  clear x0 y0 x1 y1 x2 y2 x3 y3 x4 y4
  refine (eqExpr _ _ _ _ _ _ _ _ _ _ _ _ q4 q4' k4).mono ?_
  rintro e w2 ⟨rfl, p2⟩
  replace K := K.trans p2
  replace R0 := row_ext R0 p2 (fun h => h)
  replace R1 := row_ext R1 p2 (fun h => h)
  replace q0 := q0.k p2
  replace q0' := q0'.k p2
  replace q4 := q4.k p2
  replace q4' := q4'.k p2
  have x0 := R0.cell (i := 0) (by simp)
  have y0 := R1.cell (i := 0) (by simp)
  have x1 := R0.cell (i := 1) (by simp)
  have y1 := R1.cell (i := 1) (by simp)
  have x2 := R0.cell (i := 2) (by simp)
  have y2 := R1.cell (i := 2) (by simp)
  have x3 := R0.cell (i := 3) (by simp)
  have y3 := R1.cell (i := 3) (by simp)
  have x4 := R0.cell (i := 4) (by simp)
  have y4 := R1.cell (i := 4) (by simp)
  simp at x0 y0 x1 y1 x2 y2 x3 y3 x4 y4
  go_wp2_with fail
  exact fin_ hQ ⟨rfl, K⟩

set_option maxRecDepth 100000 in
set_option maxHeartbeats 2000000 in
theorem eqFuncS (xs : List FuncL) : EqC 55 (encFuncs xs) := by
  intro a n c a' n' c' D D' w h h'
  refine calls_k fun Q hQ => ?_
  obtain ⟨e1, hnc, hm, hat⟩ := funcs_at h
  obtain ⟨e2, _, _, hat'⟩ := funcs_at h'
  obtain rfl : n = n' := by omega
  have HL := Lib.hid e1
  have HA := Lib.hid hat
  have HA' := Lib.hid hat'
  clear e1 e2 hat hat' h h'
  go_enter Tryz.func55, Tryz.ntmps55
  go_wp2
  go_loopw [5] (fun i wr => ∃ k : Nat, k ≤ n ∧ i = .int .i64 k ∧ Keep w wr) (fun i _ => n - (intOf i).toNat)
  case atStart => exact ⟨0, Nat.zero_le _, rfl, Ext.refl _ _⟩
  case round =>
    obtain ⟨j, hj, rfl, hK⟩ := hrel
    by_cases hlt : j < n
    · obtain ⟨b, o, rfl, hd, a0, n0, c0, a4, n4, c4, d0, d1, d2, d3, d4, r0, r4⟩ := HA.out j hlt
      obtain ⟨b', o', rfl, hd', a0', n0', c0', a4', n4', c4', d0', d1', d2', d3', d4', r0', r4'⟩ := HA'.out j hlt
      have x0 := (hK.cell (World.block_lt_of_cell? w _ d0) (fun h => h)).trans d0
      have y0 := (hK.cell (World.block_lt_of_cell? w _ d0') (fun h => h)).trans d0'
      have x1 := (hK.cell (World.block_lt_of_cell? w _ d1) (fun h => h)).trans d1
      have y1 := (hK.cell (World.block_lt_of_cell? w _ d1') (fun h => h)).trans d1'
      have x2 := (hK.cell (World.block_lt_of_cell? w _ d2) (fun h => h)).trans d2
      have y2 := (hK.cell (World.block_lt_of_cell? w _ d2') (fun h => h)).trans d2'
      have x3 := (hK.cell (World.block_lt_of_cell? w _ d3) (fun h => h)).trans d3
      have y3 := (hK.cell (World.block_lt_of_cell? w _ d3') (fun h => h)).trans d3'
      have x4 := (hK.cell (World.block_lt_of_cell? w _ d4) (fun h => h)).trans d4
      have y4 := (hK.cell (World.block_lt_of_cell? w _ d4') (fun h => h)).trans d4'
      have q0 := (r0.k hK).ext (w' := wr.drew) (Ext.refl (fun _ => False) wr).drew (fun _ _ h => h)
      have q0' := (r0'.k hK).ext (w' := wr.drew) (Ext.refl (fun _ => False) wr).drew (fun _ _ h => h)
      have q4 := (r4.k hK).ext (w' := wr.drew) (Ext.refl (fun _ => False) wr).drew (fun _ _ h => h)
      have q4' := (r4'.k hK).ext (w' := wr.drew) (Ext.refl (fun _ => False) wr).drew (fun _ _ h => h)
      clear d0 d0' d1 d1' d2 d2' d3 d3' d4 d4' r0 r0' r4 r4'
      go_wp2
      go_still_tail 8, (by kernel_rfl)
      change wpList _ _ _ _ _ wr.drew
      go_wp2_with fail
      refine (eqFunc _ _ _ _ _ _ _ _ _ _ _ _ _ _ _ _ _ _ _ _ q0 q0' q4 q4' (eqIntS _) (eqExprS _)).mono ?_
      rintro e w1 ⟨rfl, p1⟩
      go_wp2_with fail
      go_roundw
      case rel => exact ⟨j + 1, by omega, by go_num, hK.drew.trans p1⟩
      case measure => simp [intOf]; omega
    · go_wp2
      exact fin_ hQ ⟨rfl, hK⟩

set_option maxHeartbeats 1000000 in
theorem eqProgram (D D' : Nat → Prop) (w : World) (a0 : Option Addr) (n0 c0 : Nat) (a0' : Option Addr) (n0' c0' : Nat) (d0 : Dat) (a1 : Option Addr) (n1 c1 : Nat) (a1' : Option Addr) (n1' c1' : Nat) (d1 : Dat) (r0 : Rd w D d0 (.slice a0 n0 c0)) (r0' : Rd w D' d0 (.slice a0' n0' c0')) (r1 : Rd w D d1 (.slice a1 n1 c1)) (r1' : Rd w D' d1 (.slice a1' n1' c1')) (k0 : EqC 42 d0) (k1 : EqC 55 d1) :
    Calls Tryz.prog 18 #[.agg #[.slice a0 n0 c0, .slice a1 n1 c1], .agg #[.slice a0' n0' c0', .slice a1' n1' c1']] w fun e w' => e = .returned (.bool true) ∧ Keep w w' := by
  refine calls_k fun Q hQ => ?_
  have K : Keep w ((w.alloc (.cells #[.slice a0 n0 c0, .slice a1 n1 c1] 44)).alloc (.cells #[.slice a0' n0' c0', .slice a1' n1' c1'] 44)) := (Keep.al _ _).trans (Keep.al _ _)
  have R0 := (rowOf w #[.slice a0 n0 c0, .slice a1 n1 c1] 44).alloc (.cells #[.slice a0' n0' c0', .slice a1' n1' c1'] 44)
  have R1 := rowOf (w.alloc (.cells #[.slice a0 n0 c0, .slice a1 n1 c1] 44)) #[.slice a0' n0' c0', .slice a1' n1' c1'] 44
  have q0 := r0.k K
  have q0' := r0'.k K
  have q1 := r1.k K
  have q1' := r1'.k K
  clear r0 r0' r1 r1'
  simp only [World.size_alloc] at R1
  go_enter Tryz.func18, Tryz.ntmps18
  go_wp2_with fail
  refine (k0 _ _ _ _ _ _ _ _ _ q0 q0').mono ?_
  rintro e w1 ⟨rfl, p1⟩
  replace K := K.trans p1
  replace R0 := row_ext R0 p1 (fun h => h)
  replace R1 := row_ext R1 p1 (fun h => h)
  replace q0 := q0.k p1
  replace q0' := q0'.k p1
  replace q1 := q1.k p1
  replace q1' := q1'.k p1
  have x0 := R0.cell (i := 0) (by simp)
  have y0 := R1.cell (i := 0) (by simp)
  have x1 := R0.cell (i := 1) (by simp)
  have y1 := R1.cell (i := 1) (by simp)
  simp at x0 y0 x1 y1
  go_wp2_with fail
  clear x0 y0 x1 y1
  refine (k1 _ _ _ _ _ _ _ _ _ q1 q1').mono ?_
  rintro e w2 ⟨rfl, p2⟩
  replace K := K.trans p2
  replace R0 := row_ext R0 p2 (fun h => h)
  replace R1 := row_ext R1 p2 (fun h => h)
  replace q0 := q0.k p2
  replace q0' := q0'.k p2
  replace q1 := q1.k p2
  replace q1' := q1'.k p2
  have x0 := R0.cell (i := 0) (by simp)
  have y0 := R1.cell (i := 0) (by simp)
  have x1 := R0.cell (i := 1) (by simp)
  have y1 := R1.cell (i := 1) (by simp)
  simp at x0 y0 x1 y1
  go_wp2_with fail
  exact fin_ hQ ⟨rfl, K⟩

set_option maxHeartbeats 1000000 in
theorem eqStep (D D' : Nat → Prop) (w : World) (z0 : Int) (z1 : Int) (z2 : Int) (a3 : Option Addr) (n3 c3 : Nat) (a3' : Option Addr) (n3' c3' : Nat) (d3 : Dat) (a4 : Option Addr) (n4 c4 : Nat) (a4' : Option Addr) (n4' c4' : Nat) (d4 : Dat) (r3 : Rd w D d3 (.slice a3 n3 c3)) (r3' : Rd w D' d3 (.slice a3' n3' c3')) (r4 : Rd w D d4 (.slice a4 n4 c4)) (r4' : Rd w D' d4 (.slice a4' n4' c4')) (k3 : EqC 137 d3) (k4 : EqC 233 d4) :
    Calls Tryz.prog 224 #[.agg #[.int .i64 z0, .int .i64 z1, .int .i64 z2, .slice a3 n3 c3, .slice a4 n4 c4], .agg #[.int .i64 z0, .int .i64 z1, .int .i64 z2, .slice a3' n3' c3', .slice a4' n4' c4']] w fun e w' => e = .returned (.bool true) ∧ Keep w w' := by
  refine calls_k fun Q hQ => ?_
  have K : Keep w ((w.alloc (.cells #[.int .i64 z0, .int .i64 z1, .int .i64 z2, .slice a3 n3 c3, .slice a4 n4 c4] 136)).alloc (.cells #[.int .i64 z0, .int .i64 z1, .int .i64 z2, .slice a3' n3' c3', .slice a4' n4' c4'] 136)) := (Keep.al _ _).trans (Keep.al _ _)
  have R0 := (rowOf w #[.int .i64 z0, .int .i64 z1, .int .i64 z2, .slice a3 n3 c3, .slice a4 n4 c4] 136).alloc (.cells #[.int .i64 z0, .int .i64 z1, .int .i64 z2, .slice a3' n3' c3', .slice a4' n4' c4'] 136)
  have R1 := rowOf (w.alloc (.cells #[.int .i64 z0, .int .i64 z1, .int .i64 z2, .slice a3 n3 c3, .slice a4 n4 c4] 136)) #[.int .i64 z0, .int .i64 z1, .int .i64 z2, .slice a3' n3' c3', .slice a4' n4' c4'] 136
  have q3 := r3.k K
  have q3' := r3'.k K
  have q4 := r4.k K
  have q4' := r4'.k K
  clear r3 r3' r4 r4'
  simp only [World.size_alloc] at R1
  go_enter Tryz.func224, Tryz.ntmps224
  go_wp2_with fail
  refine (k3 _ _ _ _ _ _ _ _ _ q3 q3').mono ?_
  rintro e w1 ⟨rfl, p1⟩
  replace K := K.trans p1
  replace R0 := row_ext R0 p1 (fun h => h)
  replace R1 := row_ext R1 p1 (fun h => h)
  replace q3 := q3.k p1
  replace q3' := q3'.k p1
  replace q4 := q4.k p1
  replace q4' := q4'.k p1
  have x0 := R0.cell (i := 0) (by simp)
  have y0 := R1.cell (i := 0) (by simp)
  have x1 := R0.cell (i := 1) (by simp)
  have y1 := R1.cell (i := 1) (by simp)
  have x2 := R0.cell (i := 2) (by simp)
  have y2 := R1.cell (i := 2) (by simp)
  have x3 := R0.cell (i := 3) (by simp)
  have y3 := R1.cell (i := 3) (by simp)
  have x4 := R0.cell (i := 4) (by simp)
  have y4 := R1.cell (i := 4) (by simp)
  simp at x0 y0 x1 y1 x2 y2 x3 y3 x4 y4
  go_wp2_with fail
  clear x0 y0 x1 y1 x2 y2 x3 y3 x4 y4
  refine (k4 _ _ _ _ _ _ _ _ _ q4 q4').mono ?_
  rintro e w2 ⟨rfl, p2⟩
  replace K := K.trans p2
  replace R0 := row_ext R0 p2 (fun h => h)
  replace R1 := row_ext R1 p2 (fun h => h)
  replace q3 := q3.k p2
  replace q3' := q3'.k p2
  replace q4 := q4.k p2
  replace q4' := q4'.k p2
  have x0 := R0.cell (i := 0) (by simp)
  have y0 := R1.cell (i := 0) (by simp)
  have x1 := R0.cell (i := 1) (by simp)
  have y1 := R1.cell (i := 1) (by simp)
  have x2 := R0.cell (i := 2) (by simp)
  have y2 := R1.cell (i := 2) (by simp)
  have x3 := R0.cell (i := 3) (by simp)
  have y3 := R1.cell (i := 3) (by simp)
  have x4 := R0.cell (i := 4) (by simp)
  have y4 := R1.cell (i := 4) (by simp)
  simp at x0 y0 x1 y1 x2 y2 x3 y3 x4 y4
  go_wp2_with fail
  exact fin_ hQ ⟨rfl, K⟩

set_option maxHeartbeats 1000000 in
theorem eqBlock (D D' : Nat → Prop) (w : World) (a0 : Option Addr) (n0 c0 : Nat) (a0' : Option Addr) (n0' c0' : Nat) (d0 : Dat) (z1 : Int) (r0 : Rd w D d0 (.slice a0 n0 c0)) (r0' : Rd w D' d0 (.slice a0' n0' c0')) (k0 : EqC 193 d0) :
    Calls Tryz.prog 138 #[.agg #[.slice a0 n0 c0, .int .i64 z1], .agg #[.slice a0' n0' c0', .int .i64 z1]] w fun e w' => e = .returned (.bool true) ∧ Keep w w' := by
  refine calls_k fun Q hQ => ?_
  have K : Keep w ((w.alloc (.cells #[.slice a0 n0 c0, .int .i64 z1] 69)).alloc (.cells #[.slice a0' n0' c0', .int .i64 z1] 69)) := (Keep.al _ _).trans (Keep.al _ _)
  have R0 := (rowOf w #[.slice a0 n0 c0, .int .i64 z1] 69).alloc (.cells #[.slice a0' n0' c0', .int .i64 z1] 69)
  have R1 := rowOf (w.alloc (.cells #[.slice a0 n0 c0, .int .i64 z1] 69)) #[.slice a0' n0' c0', .int .i64 z1] 69
  have q0 := r0.k K
  have q0' := r0'.k K
  clear r0 r0'
  simp only [World.size_alloc] at R1
  go_enter Tryz.func138, Tryz.ntmps138
  go_wp2_with fail
  refine (k0 _ _ _ _ _ _ _ _ _ q0 q0').mono ?_
  rintro e w1 ⟨rfl, p1⟩
  replace K := K.trans p1
  replace R0 := row_ext R0 p1 (fun h => h)
  replace R1 := row_ext R1 p1 (fun h => h)
  replace q0 := q0.k p1
  replace q0' := q0'.k p1
  have x0 := R0.cell (i := 0) (by simp)
  have y0 := R1.cell (i := 0) (by simp)
  have x1 := R0.cell (i := 1) (by simp)
  have y1 := R1.cell (i := 1) (by simp)
  simp at x0 y0 x1 y1
  go_wp2_with fail
  exact fin_ hQ ⟨rfl, K⟩

set_option maxRecDepth 100000 in
set_option maxHeartbeats 4000000 in
theorem eqSB_n (N : Nat) : (∀ xs : List StepL, volD (encSteps xs) < N → EqC 193 (encSteps xs)) ∧ (∀ xs : List BlockL, volD (encBlocks xs) < N → EqC 233 (encBlocks xs)) := by
  induction N with
  | zero => exact ⟨fun xs h => by omega, fun xs h => by omega⟩
  | succ N ihN =>
  obtain ⟨ihS, ihB⟩ := ihN
  refine ⟨?_, ?_⟩
  · intro xs hvol a n c a' n' c' D D' w h h'
    have IHStep : ∀ ys : List StepL, volD (encSteps ys) < volD (encSteps xs) → EqC 193 (encSteps ys) := fun ys hy => ihS ys (by omega)
    have IHBlock : ∀ ys : List BlockL, volD (encBlocks ys) < volD (encSteps xs) → EqC 233 (encBlocks ys) := fun ys hy => ihB ys (by omega)
    clear ihS ihB hvol
    refine calls_k fun Q hQ => ?_
    obtain ⟨e1, hnc, hm, hat⟩ := steps_at h
    obtain ⟨e2, _, _, hat'⟩ := steps_at h'
    obtain rfl : n = n' := by omega
    have HL := Lib.hid e1
    have HA := Lib.hid hat
    have HA' := Lib.hid hat'
    clear e1 e2 hat hat' h h'
    go_enter Tryz.func193, Tryz.ntmps193
    go_wp2
    go_loopw [5] (fun i wr => ∃ k : Nat, k ≤ n ∧ i = .int .i64 k ∧ Keep w wr) (fun i _ => n - (intOf i).toNat)
    case atStart => exact ⟨0, Nat.zero_le _, rfl, Ext.refl _ _⟩
    case round =>
      obtain ⟨j, hj, rfl, hK⟩ := hrel
      by_cases hlt : j < n
      · obtain ⟨b, o, rfl, hd, a3, n3, c3, a4, n4, c4, d0, d1, d2, d3, d4, r3, r4⟩ := HA.out j hlt
        obtain ⟨b', o', rfl, hd', a3', n3', c3', a4', n4', c4', d0', d1', d2', d3', d4', r3', r4'⟩ := HA'.out j hlt
        have x0 := (hK.cell (World.block_lt_of_cell? w _ d0) (fun h => h)).trans d0
        have y0 := (hK.cell (World.block_lt_of_cell? w _ d0') (fun h => h)).trans d0'
        have x1 := (hK.cell (World.block_lt_of_cell? w _ d1) (fun h => h)).trans d1
        have y1 := (hK.cell (World.block_lt_of_cell? w _ d1') (fun h => h)).trans d1'
        have x2 := (hK.cell (World.block_lt_of_cell? w _ d2) (fun h => h)).trans d2
        have y2 := (hK.cell (World.block_lt_of_cell? w _ d2') (fun h => h)).trans d2'
        have x3 := (hK.cell (World.block_lt_of_cell? w _ d3) (fun h => h)).trans d3
        have y3 := (hK.cell (World.block_lt_of_cell? w _ d3') (fun h => h)).trans d3'
        have x4 := (hK.cell (World.block_lt_of_cell? w _ d4) (fun h => h)).trans d4
        have y4 := (hK.cell (World.block_lt_of_cell? w _ d4') (fun h => h)).trans d4'
        have q3 := (r3.k hK).ext (w' := wr.drew) (Ext.refl (fun _ => False) wr).drew (fun _ _ h => h)
        have q3' := (r3'.k hK).ext (w' := wr.drew) (Ext.refl (fun _ => False) wr).drew (fun _ _ h => h)
        have q4 := (r4.k hK).ext (w' := wr.drew) (Ext.refl (fun _ => False) wr).drew (fun _ _ h => h)
        have q4' := (r4'.k hK).ext (w' := wr.drew) (Ext.refl (fun _ => False) wr).drew (fun _ _ h => h)
        clear d0 d0' d1 d1' d2 d2' d3 d3' d4 d4' r3 r3' r4 r4'
        go_wp2
        go_still_tail 8, (by kernel_rfl)
        change wpList _ _ _ _ _ wr.drew
        go_wp2_with fail
        refine (eqStep _ _ _ _ _ _ _ _ _ _ _ _ _ _ _ _ _ _ _ _ q3 q3' q4 q4' (eqIntS _) (IHBlock _ (by have := vol_lt (s := 5) (rows := (rowsS xs)) (i := j) (j := 4) (by rw [steps_len]; have := HL.out; omega) (by rw [steps_row xs j (by have := HL.out; omega)]; simp); rw [rAt, steps_row xs j (by have := HL.out; omega)] at this; simp only [dGet, List.getD, List.getElem?_cons_succ, List.getElem?_cons_zero, Option.getD_some] at this; exact this))).mono ?_
        rintro e w1 ⟨rfl, p1⟩
        go_wp2_with fail
        go_roundw
        case rel => exact ⟨j + 1, by omega, by go_num, hK.drew.trans p1⟩
        case measure => simp [intOf]; omega
      · go_wp2
        exact fin_ hQ ⟨rfl, hK⟩
  · intro xs hvol a n c a' n' c' D D' w h h'
    have IHStep : ∀ ys : List StepL, volD (encSteps ys) < volD (encBlocks xs) → EqC 193 (encSteps ys) := fun ys hy => ihS ys (by omega)
    have IHBlock : ∀ ys : List BlockL, volD (encBlocks ys) < volD (encBlocks xs) → EqC 233 (encBlocks ys) := fun ys hy => ihB ys (by omega)
    clear ihS ihB hvol
    refine calls_k fun Q hQ => ?_
    obtain ⟨e1, hnc, hm, hat⟩ := blocks_at h
    obtain ⟨e2, _, _, hat'⟩ := blocks_at h'
    obtain rfl : n = n' := by omega
    have HL := Lib.hid e1
    have HA := Lib.hid hat
    have HA' := Lib.hid hat'
    clear e1 e2 hat hat' h h'
    go_enter Tryz.func233, Tryz.ntmps233
    go_wp2
    go_loopw [5] (fun i wr => ∃ k : Nat, k ≤ n ∧ i = .int .i64 k ∧ Keep w wr) (fun i _ => n - (intOf i).toNat)
    case atStart => exact ⟨0, Nat.zero_le _, rfl, Ext.refl _ _⟩
    case round =>
      obtain ⟨j, hj, rfl, hK⟩ := hrel
      by_cases hlt : j < n
      · obtain ⟨b, o, rfl, hd, a0, n0, c0, d0, d1, r0⟩ := HA.out j hlt
        obtain ⟨b', o', rfl, hd', a0', n0', c0', d0', d1', r0'⟩ := HA'.out j hlt
        have x0 := (hK.cell (World.block_lt_of_cell? w _ d0) (fun h => h)).trans d0
        have y0 := (hK.cell (World.block_lt_of_cell? w _ d0') (fun h => h)).trans d0'
        have x1 := (hK.cell (World.block_lt_of_cell? w _ d1) (fun h => h)).trans d1
        have y1 := (hK.cell (World.block_lt_of_cell? w _ d1') (fun h => h)).trans d1'
        have q0 := (r0.k hK).ext (w' := wr.drew) (Ext.refl (fun _ => False) wr).drew (fun _ _ h => h)
        have q0' := (r0'.k hK).ext (w' := wr.drew) (Ext.refl (fun _ => False) wr).drew (fun _ _ h => h)
        clear d0 d0' d1 d1' r0 r0'
        go_wp2
        go_still_tail 8, (by kernel_rfl)
        change wpList _ _ _ _ _ wr.drew
        go_wp2_with fail
        refine (eqBlock _ _ _ _ _ _ _ _ _ _ _ q0 q0' (IHStep _ (by have := vol_lt (s := 2) (rows := (rowsB xs)) (i := j) (j := 0) (by rw [blocks_len]; have := HL.out; omega) (by rw [blocks_row xs j (by have := HL.out; omega)]; simp); rw [rAt, blocks_row xs j (by have := HL.out; omega)] at this; simp only [dGet, List.getD, List.getElem?_cons_zero, Option.getD_some] at this; exact this))).mono ?_
        rintro e w1 ⟨rfl, p1⟩
        go_wp2_with fail
        go_roundw
        case rel => exact ⟨j + 1, by omega, by go_num, hK.drew.trans p1⟩
        case measure => simp [intOf]; omega
      · go_wp2
        exact fin_ hQ ⟨rfl, hK⟩
theorem eqStepS (xs : List StepL) : EqC 193 (encSteps xs) := (eqSB_n _).1 xs (Nat.lt_succ_self _)
set_option maxHeartbeats 1000000 in
theorem eqRoutine (D D' : Nat → Prop) (w : World) (a0 : Option Addr) (n0 c0 : Nat) (a0' : Option Addr) (n0' c0' : Nat) (d0 : Dat) (a1 : Option Addr) (n1 c1 : Nat) (a1' : Option Addr) (n1' c1' : Nat) (d1 : Dat) (z2 : Int) (a3 : Option Addr) (n3 c3 : Nat) (a3' : Option Addr) (n3' c3' : Nat) (d3 : Dat) (z4 : Int) (r0 : Rd w D d0 (.slice a0 n0 c0)) (r0' : Rd w D' d0 (.slice a0' n0' c0')) (r1 : Rd w D d1 (.slice a1 n1 c1)) (r1' : Rd w D' d1 (.slice a1' n1' c1')) (r3 : Rd w D d3 (.slice a3 n3 c3)) (r3' : Rd w D' d3 (.slice a3' n3' c3')) (k0 : EqC 137 d0) (k1 : EqC 137 d1) (k3 : EqC 193 d3) :
    Calls Tryz.prog 89 #[.agg #[.slice a0 n0 c0, .slice a1 n1 c1, .int .i64 z2, .slice a3 n3 c3, .int .i64 z4], .agg #[.slice a0' n0' c0', .slice a1' n1' c1', .int .i64 z2, .slice a3' n3' c3', .int .i64 z4]] w fun e w' => e = .returned (.bool true) ∧ Keep w w' := by
  refine calls_k fun Q hQ => ?_
  have K : Keep w ((w.alloc (.cells #[.slice a0 n0 c0, .slice a1 n1 c1, .int .i64 z2, .slice a3 n3 c3, .int .i64 z4] 71)).alloc (.cells #[.slice a0' n0' c0', .slice a1' n1' c1', .int .i64 z2, .slice a3' n3' c3', .int .i64 z4] 71)) := (Keep.al _ _).trans (Keep.al _ _)
  have R0 := (rowOf w #[.slice a0 n0 c0, .slice a1 n1 c1, .int .i64 z2, .slice a3 n3 c3, .int .i64 z4] 71).alloc (.cells #[.slice a0' n0' c0', .slice a1' n1' c1', .int .i64 z2, .slice a3' n3' c3', .int .i64 z4] 71)
  have R1 := rowOf (w.alloc (.cells #[.slice a0 n0 c0, .slice a1 n1 c1, .int .i64 z2, .slice a3 n3 c3, .int .i64 z4] 71)) #[.slice a0' n0' c0', .slice a1' n1' c1', .int .i64 z2, .slice a3' n3' c3', .int .i64 z4] 71
  have q0 := r0.k K
  have q0' := r0'.k K
  have q1 := r1.k K
  have q1' := r1'.k K
  have q3 := r3.k K
  have q3' := r3'.k K
  clear r0 r0' r1 r1' r3 r3'
  simp only [World.size_alloc] at R1
  go_enter Tryz.func89, Tryz.ntmps89
  go_wp2_with fail
  refine (k0 _ _ _ _ _ _ _ _ _ q0 q0').mono ?_
  rintro e w1 ⟨rfl, p1⟩
  replace K := K.trans p1
  replace R0 := row_ext R0 p1 (fun h => h)
  replace R1 := row_ext R1 p1 (fun h => h)
  replace q0 := q0.k p1
  replace q0' := q0'.k p1
  replace q1 := q1.k p1
  replace q1' := q1'.k p1
  replace q3 := q3.k p1
  replace q3' := q3'.k p1
  have x0 := R0.cell (i := 0) (by simp)
  have y0 := R1.cell (i := 0) (by simp)
  have x1 := R0.cell (i := 1) (by simp)
  have y1 := R1.cell (i := 1) (by simp)
  have x2 := R0.cell (i := 2) (by simp)
  have y2 := R1.cell (i := 2) (by simp)
  have x3 := R0.cell (i := 3) (by simp)
  have y3 := R1.cell (i := 3) (by simp)
  have x4 := R0.cell (i := 4) (by simp)
  have y4 := R1.cell (i := 4) (by simp)
  simp at x0 y0 x1 y1 x2 y2 x3 y3 x4 y4
  go_wp2_with fail
  clear x0 y0 x1 y1 x2 y2 x3 y3 x4 y4
  refine (k1 _ _ _ _ _ _ _ _ _ q1 q1').mono ?_
  rintro e w2 ⟨rfl, p2⟩
  replace K := K.trans p2
  replace R0 := row_ext R0 p2 (fun h => h)
  replace R1 := row_ext R1 p2 (fun h => h)
  replace q0 := q0.k p2
  replace q0' := q0'.k p2
  replace q1 := q1.k p2
  replace q1' := q1'.k p2
  replace q3 := q3.k p2
  replace q3' := q3'.k p2
  have x0 := R0.cell (i := 0) (by simp)
  have y0 := R1.cell (i := 0) (by simp)
  have x1 := R0.cell (i := 1) (by simp)
  have y1 := R1.cell (i := 1) (by simp)
  have x2 := R0.cell (i := 2) (by simp)
  have y2 := R1.cell (i := 2) (by simp)
  have x3 := R0.cell (i := 3) (by simp)
  have y3 := R1.cell (i := 3) (by simp)
  have x4 := R0.cell (i := 4) (by simp)
  have y4 := R1.cell (i := 4) (by simp)
  simp at x0 y0 x1 y1 x2 y2 x3 y3 x4 y4
  go_wp2_with fail
  clear x0 y0 x1 y1 x2 y2 x3 y3 x4 y4
  refine (eqBlock _ _ _ _ _ _ _ _ _ _ _ q3 q3' k3).mono ?_
  rintro e w3 ⟨rfl, p3⟩
  replace K := K.trans p3
  replace R0 := row_ext R0 p3 (fun h => h)
  replace R1 := row_ext R1 p3 (fun h => h)
  replace q0 := q0.k p3
  replace q0' := q0'.k p3
  replace q1 := q1.k p3
  replace q1' := q1'.k p3
  replace q3 := q3.k p3
  replace q3' := q3'.k p3
  have x0 := R0.cell (i := 0) (by simp)
  have y0 := R1.cell (i := 0) (by simp)
  have x1 := R0.cell (i := 1) (by simp)
  have y1 := R1.cell (i := 1) (by simp)
  have x2 := R0.cell (i := 2) (by simp)
  have y2 := R1.cell (i := 2) (by simp)
  have x3 := R0.cell (i := 3) (by simp)
  have y3 := R1.cell (i := 3) (by simp)
  have x4 := R0.cell (i := 4) (by simp)
  have y4 := R1.cell (i := 4) (by simp)
  simp at x0 y0 x1 y1 x2 y2 x3 y3 x4 y4
  go_wp2_with fail
  exact fin_ hQ ⟨rfl, K⟩

set_option maxRecDepth 100000 in
set_option maxHeartbeats 2000000 in
theorem eqRoutineS (xs : List RoutL) : EqC 43 (encRouts xs) := by
  intro a n c a' n' c' D D' w h h'
  refine calls_k fun Q hQ => ?_
  obtain ⟨e1, hnc, hm, hat⟩ := routs_at h
  obtain ⟨e2, _, _, hat'⟩ := routs_at h'
  obtain rfl : n = n' := by omega
  have HL := Lib.hid e1
  have HA := Lib.hid hat
  have HA' := Lib.hid hat'
  clear e1 e2 hat hat' h h'
  go_enter Tryz.func43, Tryz.ntmps43
  go_wp2
  go_loopw [5] (fun i wr => ∃ k : Nat, k ≤ n ∧ i = .int .i64 k ∧ Keep w wr) (fun i _ => n - (intOf i).toNat)
  case atStart => exact ⟨0, Nat.zero_le _, rfl, Ext.refl _ _⟩
  case round =>
    obtain ⟨j, hj, rfl, hK⟩ := hrel
    by_cases hlt : j < n
    · obtain ⟨b, o, rfl, hd, a0, n0, c0, a1, n1, c1, a3, n3, c3, d0, d1, d2, d3, d4, r0, r1, r3⟩ := HA.out j hlt
      obtain ⟨b', o', rfl, hd', a0', n0', c0', a1', n1', c1', a3', n3', c3', d0', d1', d2', d3', d4', r0', r1', r3'⟩ := HA'.out j hlt
      have x0 := (hK.cell (World.block_lt_of_cell? w _ d0) (fun h => h)).trans d0
      have y0 := (hK.cell (World.block_lt_of_cell? w _ d0') (fun h => h)).trans d0'
      have x1 := (hK.cell (World.block_lt_of_cell? w _ d1) (fun h => h)).trans d1
      have y1 := (hK.cell (World.block_lt_of_cell? w _ d1') (fun h => h)).trans d1'
      have x2 := (hK.cell (World.block_lt_of_cell? w _ d2) (fun h => h)).trans d2
      have y2 := (hK.cell (World.block_lt_of_cell? w _ d2') (fun h => h)).trans d2'
      have x3 := (hK.cell (World.block_lt_of_cell? w _ d3) (fun h => h)).trans d3
      have y3 := (hK.cell (World.block_lt_of_cell? w _ d3') (fun h => h)).trans d3'
      have x4 := (hK.cell (World.block_lt_of_cell? w _ d4) (fun h => h)).trans d4
      have y4 := (hK.cell (World.block_lt_of_cell? w _ d4') (fun h => h)).trans d4'
      have q0 := (r0.k hK).ext (w' := wr.drew) (Ext.refl (fun _ => False) wr).drew (fun _ _ h => h)
      have q0' := (r0'.k hK).ext (w' := wr.drew) (Ext.refl (fun _ => False) wr).drew (fun _ _ h => h)
      have q1 := (r1.k hK).ext (w' := wr.drew) (Ext.refl (fun _ => False) wr).drew (fun _ _ h => h)
      have q1' := (r1'.k hK).ext (w' := wr.drew) (Ext.refl (fun _ => False) wr).drew (fun _ _ h => h)
      have q3 := (r3.k hK).ext (w' := wr.drew) (Ext.refl (fun _ => False) wr).drew (fun _ _ h => h)
      have q3' := (r3'.k hK).ext (w' := wr.drew) (Ext.refl (fun _ => False) wr).drew (fun _ _ h => h)
      clear d0 d0' d1 d1' d2 d2' d3 d3' d4 d4' r0 r0' r1 r1' r3 r3'
      go_wp2
      go_still_tail 8, (by kernel_rfl)
      change wpList _ _ _ _ _ wr.drew
      go_wp2_with fail
      refine (eqRoutine _ _ _ _ _ _ _ _ _ _ _ _ _ _ _ _ _ _ _ _ _ _ _ _ _ _ q0 q0' q1 q1' q3 q3' (eqIntS _) (eqIntS _) (eqStepS _)).mono ?_
      rintro e w1 ⟨rfl, p1⟩
      go_wp2_with fail
      go_roundw
      case rel => exact ⟨j + 1, by omega, by go_num, hK.drew.trans p1⟩
      case measure => simp [intOf]; omega
    · go_wp2
      exact fin_ hQ ⟨rfl, hK⟩

set_option maxHeartbeats 1000000 in
theorem eqNormal (D D' : Nat → Prop) (w : World) (a0 : Option Addr) (n0 c0 : Nat) (a0' : Option Addr) (n0' c0' : Nat) (d0 : Dat) (a1 : Option Addr) (n1 c1 : Nat) (a1' : Option Addr) (n1' c1' : Nat) (d1 : Dat) (r0 : Rd w D d0 (.slice a0 n0 c0)) (r0' : Rd w D' d0 (.slice a0' n0' c0')) (r1 : Rd w D d1 (.slice a1 n1 c1)) (r1' : Rd w D' d1 (.slice a1' n1' c1')) (k0 : EqC 42 d0) (k1 : EqC 43 d1) :
    Calls Tryz.prog 11 #[.agg #[.slice a0 n0 c0, .slice a1 n1 c1], .agg #[.slice a0' n0' c0', .slice a1' n1' c1']] w fun e w' => e = .returned (.bool true) ∧ Keep w w' := by
  refine calls_k fun Q hQ => ?_
  have K : Keep w ((w.alloc (.cells #[.slice a0 n0 c0, .slice a1 n1 c1] 30)).alloc (.cells #[.slice a0' n0' c0', .slice a1' n1' c1'] 30)) := (Keep.al _ _).trans (Keep.al _ _)
  have R0 := (rowOf w #[.slice a0 n0 c0, .slice a1 n1 c1] 30).alloc (.cells #[.slice a0' n0' c0', .slice a1' n1' c1'] 30)
  have R1 := rowOf (w.alloc (.cells #[.slice a0 n0 c0, .slice a1 n1 c1] 30)) #[.slice a0' n0' c0', .slice a1' n1' c1'] 30
  have q0 := r0.k K
  have q0' := r0'.k K
  have q1 := r1.k K
  have q1' := r1'.k K
  clear r0 r0' r1 r1'
  simp only [World.size_alloc] at R1
  go_enter Tryz.func11, Tryz.ntmps11
  go_wp2_with fail
  refine (k0 _ _ _ _ _ _ _ _ _ q0 q0').mono ?_
  rintro e w1 ⟨rfl, p1⟩
  replace K := K.trans p1
  replace R0 := row_ext R0 p1 (fun h => h)
  replace R1 := row_ext R1 p1 (fun h => h)
  replace q0 := q0.k p1
  replace q0' := q0'.k p1
  replace q1 := q1.k p1
  replace q1' := q1'.k p1
  have x0 := R0.cell (i := 0) (by simp)
  have y0 := R1.cell (i := 0) (by simp)
  have x1 := R0.cell (i := 1) (by simp)
  have y1 := R1.cell (i := 1) (by simp)
  simp at x0 y0 x1 y1
  go_wp2_with fail
  clear x0 y0 x1 y1
  refine (k1 _ _ _ _ _ _ _ _ _ q1 q1').mono ?_
  rintro e w2 ⟨rfl, p2⟩
  replace K := K.trans p2
  replace R0 := row_ext R0 p2 (fun h => h)
  replace R1 := row_ext R1 p2 (fun h => h)
  replace q0 := q0.k p2
  replace q0' := q0'.k p2
  replace q1 := q1.k p2
  replace q1' := q1'.k p2
  have x0 := R0.cell (i := 0) (by simp)
  have y0 := R1.cell (i := 0) (by simp)
  have x1 := R0.cell (i := 1) (by simp)
  have y1 := R1.cell (i := 1) (by simp)
  simp at x0 y0 x1 y1
  go_wp2_with fail
  exact fin_ hQ ⟨rfl, K⟩

end Go.Proofs.YtkapldpmjkdmcaaGreat
