/- Rows of functions of the call's own: a function is written over; fewer rows. -/
import Derived.Test.YtaeddcnakilnlaaMGA
namespace Go.Proofs.Ytaeddcnakilnlaa
open Go.RowKit

/-- The first rows alone. -/
theorem AccR.take {w : World} {base : Nat} {D : Nat → Prop} {T : TypeId} {s : Nat} {rows : List (List Dat)} {b n c m : Nat} (h : AccR w base D T s (.slice (some ⟨b, 0, none⟩) n c) rows) (hm : m ≤ rows.length) :
    AccR w base D T s (.slice (some ⟨b, 0, none⟩) m c) (rows.take m) := by
  obtain ⟨xs, h1, h2, h5⟩ := h
  have hl : (rows.take m).length = m := by rw [List.length_take]; omega
  rcases h1.2 with ⟨e, _⟩ | ⟨g, cap, cur, e, hb, hg, hnc, hmax, hsz, htake⟩
  · cases e
  · injection e with e1 e2 e3
    injection e1 with e1
    injection e1 with e1
    subst e1; subst e3
    have hms : m * s ≤ rows.length * s := Nat.mul_le_mul_right s hm
    have hget : ∀ i, i < m → rGet (rows.take m) i = rGet rows i := fun i hi => by simp [rGet, List.getD, hi]
    refine ⟨xs.take (m * s), ⟨by rw [List.length_take, h1.1, hl]; omega, .inr ⟨b, c, cur, by rw [hl], hb, hg, by rw [hl]; omega, hmax, hsz, ?_⟩⟩, ?_, ?_⟩
    · rw [hl, ← htake, List.take_take, Nat.min_eq_left hms]
    · intro i hi
      rw [hl] at hi
      rw [hget i hi]
      exact h2 i (by omega)
    · intro i j hi hj
      rw [hl] at hi
      obtain ⟨u, hu, ho⟩ := h5 i j (by omega) hj
      refine ⟨u, ?_, ?_⟩
      · rw [List.getElem?_take, if_pos (idx_lt hi hj)]; exact hu
      · rw [rAt, hget i hi]; exact ho

/-- A function is written over. -/
theorem AccR.putF {w : World} {base : Nat} {D : Nat → Prop} {T : TypeId} {v : Value} {fs : List FuncL} {b k : Nat} {f : FuncL} {up uk : Value} (h : AccR w base D T 5 v (fs.map rowF)) (hb : v.ownBlock = some b) (hk : k < fs.length)
    (hp : Rd w (fun k => D k ∧ k ≠ b) (encInts f.params) up) (hkk : Rd w (fun k => D k ∧ k ≠ b) (encExprs f.body.kids) uk) :
    AccR (((((w.setCell ⟨b, k * 5, none⟩ up).setCell ⟨b, k * 5 + 1, none⟩ (.int .i64 f.result)).setCell ⟨b, k * 5 + 2, none⟩ (.int .i64 f.body.op)).setCell ⟨b, k * 5 + 3, none⟩ (.int .i64 f.body.num)).setCell ⟨b, k * 5 + 4, none⟩ uk) base D T 5 v ((fs.set k f).map rowF) := by
  have hl : k < (fs.map rowF).length := by simpa using hk
  have x0 : Ext (fun m => m = b) w (w.setCell ⟨b, k * 5, none⟩ up) := (Ext.refl (fun m => m = b) w).setCell (p := ⟨b, k * 5, none⟩) (.inr rfl) _
  have x1 := x0.setCell (p := ⟨b, k * 5 + 1, none⟩) (.inr rfl) (.int .i64 f.result)
  have x2 := x1.setCell (p := ⟨b, k * 5 + 2, none⟩) (.inr rfl) (.int .i64 f.body.op)
  have x3 := x2.setCell (p := ⟨b, k * 5 + 3, none⟩) (.inr rfl) (.int .i64 f.body.num)
  have h1 := h.put (i := k) (j := 0) (d := encInts f.params) hb hl (by omega) hp
  have h2 := h1.put (i := k) (j := 1) (d := .num f.result) hb (by rw [upd_len]; exact hl) (by omega) (.num _)
  have h3 := h2.put (i := k) (j := 2) (d := .num f.body.op) hb (by rw [upd_len, upd_len]; exact hl) (by omega) (.num _)
  have h4 := h3.put (i := k) (j := 3) (d := .num f.body.num) hb (by rw [upd_len, upd_len, upd_len]; exact hl) (by omega) (.num _)
  have h5 := h4.put (i := k) (j := 4) (d := encExprs f.body.kids) hb (by rw [upd_len, upd_len, upd_len, upd_len]; exact hl) (by omega) (hkk.ext x3 (fun m hm h => hm.2 h))
  have e : upd (upd (upd (upd (upd (fs.map rowF) k 0 (encInts f.params)) k 1 (.num f.result)) k 2 (.num f.body.op)) k 3 (.num f.body.num)) k 4 (encExprs f.body.kids) = (fs.set k f).map rowF := by
    have r0 := funcs_row fs k hk
    simp only [upd]
    repeat rw [rGet_set (by simpa using hk), if_pos rfl]
    rw [r0]
    simp [List.map_set, rowF]
  rw [e] at h5
  exact h5
theorem put5x (w : World) (b o : Nat) (u0 u1 u2 u3 u4 : Value) : Ext (fun q => q = b) w (((((w.setCell ⟨b, o, none⟩ u0).setCell ⟨b, o + 1, none⟩ u1).setCell ⟨b, o + 2, none⟩ u2).setCell ⟨b, o + 3, none⟩ u3).setCell ⟨b, o + 4, none⟩ u4) :=
  (((((Ext.refl (fun q => q = b) w).setCell (p := ⟨b, o, none⟩) (.inr rfl) _).setCell (p := ⟨b, o + 1, none⟩) (.inr rfl) _).setCell (p := ⟨b, o + 2, none⟩) (.inr rfl) _).setCell (p := ⟨b, o + 3, none⟩) (.inr rfl) _).setCell (p := ⟨b, o + 4, none⟩) (.inr rfl) _
end Go.Proofs.Ytaeddcnakilnlaa
