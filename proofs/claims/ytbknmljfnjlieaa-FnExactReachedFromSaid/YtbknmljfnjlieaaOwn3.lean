/- An element of a slice of the call's own: opened for writing, and shut again. -/
import Derived.Test.YtbknmljfnjlieaaGA
namespace Go.Proofs.Ytbknmljfnjlieaa
open Go.RowKit

theorem Own.val {w : World} {D : Nat → Prop} {d : Dat} {u u' : Value} (e : u = u') (h : Own w D d u') : Own w D d u := e ▸ h
theorem Own.num_inv {w : World} {D : Nat → Prop} {z : Int} {v : Value} (h : Own w D (.num z) v) : v = .int .i64 z := by cases h; rfl
theorem Own.slice_inv {w : World} {D : Nat → Prop} {s : Nat} {rows : List (List Dat)} {v : Value} (h : Own w D (.arr s rows) v) : ∃ a n c, v = .slice a n c := by
  cases h with
  | nil => exact ⟨_, _, _, rfl⟩
  | arr => exact ⟨_, _, _, rfl⟩
theorem Own.openRow {w : World} {D : Nat → Prop} {s : Nat} {R : List (List Dat)} {a : Option Addr} {n c j : Nat} (h : Own w D (.arr s R) (.slice a n c)) (hj : j < n) :
    ∃ (b : Nat) (T : TypeId) (N : Nat) (f : Nat → Value) (E : Nat → Nat → Prop), a = some ⟨b, 0, none⟩ ∧ D b ∧ w.rowIs b T N f ∧ n * s ≤ N ∧ (∀ i k, i < s → E i k → D k ∧ k ≠ b) ∧ (∀ i i' k, i < s → i' < s → E i k → E i' k → i = i') ∧ (∀ i, i < s → Own w (E i) (rAt R j i) (f (j * s + i))) ∧
      ∀ (w' : World) (f' : Nat → Value) (r : List Dat), w'.rowIs b T N f' → Ext (fun k => k = b ∨ ∃ i, i < s ∧ E i k) w w' → (∀ k, ¬ (j * s ≤ k ∧ k < j * s + s) → f' k = f k) → r.length = s → (∀ i, i < s → Own w' (E i) (dGet r i) (f' (j * s + i))) → Own w' D (.arr s (R.set j r)) (.slice a n c) := by
  cases h with
  | nil => omega
  | arr D E0 s rows b c T N f hD h0 hs0 hc hm hs' hN hrow hE0 hdis0 hr =>
    refine ⟨b, T, N, f, E0 j, rfl, hD, hrow, hN, fun i k hi hk => hE0 j i k hj hi hk, fun i i' k hi hi' hk hk' => (hdis0 j i j i' k hj hi hj hi' hk hk').2, fun i hi => hr j i hj hi, ?_⟩
    intro w' f' r hrow' hx hoff hlen ho
    have hl : (R.set j r).length = R.length := by simp
    have q := Own.arr (w := w') D E0 s (R.set j r) b c T N f' hD (by rw [hl]; exact h0) hs0 (by rw [hl]; exact hc) (by rw [hl]; exact hm)
      (fun i hi => by
        rw [hl] at hi
        rw [rGet_set hj]
        by_cases e : i = j
        · rw [if_pos e, hlen]
        · rw [if_neg e, hs' i hi]) (by rw [hl]; exact hN) hrow' (by rw [hl]; exact hE0) (by rw [hl]; exact hdis0)
      (fun i l hi hli => by
        rw [hl] at hi
        by_cases e : i = j
        · subst e
          rw [rAt, rGet_set hj, if_pos rfl]
          exact ho l hli
        · rw [rAt, rGet_set hj, if_neg e, hoff _ (fun hq => e (idx_inj hli (j' := i * s + l - j * s) (by omega) (by omega)).1)]
          refine (hr i l hi hli).ext hx (fun k hk hk' => ?_)
          rcases hk' with e1 | ⟨i', hi', hk'⟩
          · exact (hE0 i l k hi hli hk).2 e1
          · exact e (hdis0 i l j i' k hi hli hj hi' hk hk').1)
    rw [hl] at q
    exact q
end Go.Proofs.Ytbknmljfnjlieaa
