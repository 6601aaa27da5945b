/- The program's types of expressions: match. -/
import Derived.Test.YtmekdccgjgfiaaaQAY
import Derived.Test.YtmekdccgjgfiaaaQAW
import Derived.Test.YtmekdccgjgfiaaaQAI
namespace Go.Proofs.Ytmekdccgjgfiaaa
open Go.RowKit

theorem consL_rg {ds : List DeclL} (hf : Few ds) (t : Int) {i : Nat} (h : i < (consL ds t).length) : 0 ≤ iAt (consL ds t) i ∧ iAt (consL ds t) i ≤ 1049576 := by
  rw [iAt_eq h]
  have hm := List.getElem_mem h
  generalize (consL ds t)[i] = z at hm
  unfold consL at hm
  split at hm
  · next hr =>
    obtain ⟨k, hk, rfl⟩ := List.mem_map.1 hm
    have h1 := List.mem_range.1 hk
    have h2 := hf.2 (t.toNat - 1) (by omega)
    have h3 := firstN_le hf (k := t.toNat - 1) (by omega)
    have h4 := hf.1
    omega
  · simp at hm
theorem Rd.tailN {w : World} {D : Nat → Prop} {es : List ExprL} {b o n c : Nat} (hn : 2 ≤ n) (h : Rd w D (encExprs es) (.slice (some ⟨b, o, none⟩) n c)) : Rd w D (encExprs es.tail) (.slice (some ⟨b, o + 3, none⟩) (n - 1) (c - 1)) := by
  obtain ⟨k, rfl⟩ : ∃ k, n = k + 2 := ⟨n - 2, by omega⟩
  exact Rd.tailE h
theorem Rd.consI {w : World} {b m : Nat} {xs : List (List Int)} (f : Nat → Value) (hcell : ∀ i, i < m → w.cell? ⟨b, i, none⟩ = some (f i)) (hr : ∀ i, i < m → Rd w (fun _ => True) (encInts (cAt xs i)) (f i)) (h0 : 0 < m) (hlen : xs.length = m) (hm : m ≤ 1049576) :
    Rd w (fun _ => True) (encCons xs) (.slice (some ⟨b, 0, none⟩) m m) := by
  subst hlen
  have q := Rd.arr (w := w) (D := fun _ => True) 1 (xs.map rowC) b 0 xs.length (fun i _ => f i) trivial (by simpa using h0) (by omega) (by simp) (by simp; omega)
    (fun i hi => by rw [cons_row xs i (by simpa using hi)]; rfl)
    (fun i j hi hj => by
      obtain rfl : j = 0 := by omega
      rw [Nat.mul_one, Nat.add_zero, Nat.zero_add]; exact hcell i (by simpa using hi))
    (fun i j hi hj => by
      obtain rfl : j = 0 := by omega
      rw [rAt, cons_row xs i (by simpa using hi)]; exact hr i (by simpa using hi))
  rw [cons_len] at q
  exact q

section
variable (ds : List DeclL) (sg : List SigL) (hok : sigsOk ds sg = true)
include hok

end
end Go.Proofs.Ytmekdccgjgfiaaa
