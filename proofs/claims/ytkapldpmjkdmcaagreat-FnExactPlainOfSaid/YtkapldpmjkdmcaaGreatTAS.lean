/- build of the program: choices by a number. -/
import Derived.Test.YtkapldpmjkdmcaaGreatTAR
import Derived.Test.YtkapldpmjkdmcaaGreatTAC
import Derived.Test.YtkapldpmjkdmcaaGreatTAJ
import Derived.Test.YtkapldpmjkdmcaaGreatTAB
import Derived.Test.YtkapldpmjkdmcaaGreatTAF
namespace Go.Proofs.YtkapldpmjkdmcaaGreat
open Go.RowKit

section
variable (ds : List DeclL) (sg : List SigL) (hok : sigsOk ds sg = true)
include hok
end
end Go.Proofs.YtkapldpmjkdmcaaGreat
/- build of the program: choices by a value. -/
namespace Go.Proofs.YtkapldpmjkdmcaaGreat
open Go.RowKit

section
variable (ds : List DeclL) (sg : List SigL) (hok : sigsOk ds sg = true)
include hok
end
end Go.Proofs.YtkapldpmjkdmcaaGreat
/- Rows of a clone in the making: the first elements are the call's own, the others are still those that were cloned. -/
namespace Go.Proofs.YtkapldpmjkdmcaaGreat
open Go.RowKit

/-- Of some elements of s cells each the first j hold data of the call's own, in blocks from lo on and below hi; the others can be read, in blocks of D0. -/
def Mix (w : World) (D0 : Nat → Prop) (lo hi s : Nat) (f : Nat → Value) (rows : List (List Dat)) (j : Nat) : Prop :=
  (∀ i, i < rows.length → (rGet rows i).length = s) ∧ lo ≤ hi ∧ ∃ E : Nat → Nat → Nat → Prop,
    (∀ i l k, i < j → l < s → E i l k → lo ≤ k ∧ k < hi) ∧
    (∀ i l i' l' k, i < j → l < s → i' < j → l' < s → E i l k → E i' l' k → i = i' ∧ l = l') ∧
    (∀ i l, i < j → i < rows.length → l < s → Own w (E i l) (rAt rows i l) (f (i * s + l))) ∧
    ∀ i l, j ≤ i → i < rows.length → l < s → Rd w D0 (rAt rows i l) (f (i * s + l))

section
variable {S D0 : Nat → Prop} {w w' : World} {lo hi s j : Nat} {f f' : Nat → Value} {rows : List (List Dat)}
theorem Mix.ext (h : Mix w D0 lo hi s f rows j) (hx : Ext S w w') (h1 : ∀ k, lo ≤ k → k < hi → ¬ S k) (h2 : ∀ k, D0 k → ¬ S k) : Mix w' D0 lo hi s f rows j := by
  obtain ⟨a, b, E, e1, e2, e3, e4⟩ := h
  exact ⟨a, b, E, e1, e2, fun i l hi hr hl => (e3 i l hi hr hl).ext hx (fun k hk => h1 k (e1 i l k hi hl hk).1 (e1 i l k hi hl hk).2), fun i l hi hr hl => (e4 i l hi hr hl).ext hx h2⟩
theorem Mix.k (h : Mix w D0 lo hi s f rows j) (hx : Keep w w') : Mix w' D0 lo hi s f rows j := h.ext hx (fun _ _ _ h => h) (fun _ _ h => h)
theorem Mix.mono {D1 : Nat → Prop} (h : Mix w D0 lo hi s f rows j) (hd : ∀ k, D0 k → D1 k) : Mix w D1 lo hi s f rows j := by
  obtain ⟨a, b, E, e1, e2, e3, e4⟩ := h
  exact ⟨a, b, E, e1, e2, e3, fun i l hi hr hl => (e4 i l hi hr hl).mono hd⟩
theorem Mix.at (h : Mix w D0 lo hi s f rows j) {l : Nat} (hr : j < rows.length) (hl : l < s) : Rd w D0 (rAt rows j l) (f (j * s + l)) := by
  obtain ⟨_, _, _, _, _, _, e4⟩ := h
  exact e4 j l (Nat.le_refl _) hr hl
theorem Mix.lo_le (h : Mix w D0 lo hi s f rows j) : lo ≤ hi := h.2.1
/-- One element more is the call's own. -/
theorem Mix.next {l0 hi' : Nat} {D2 : Nat → Prop} (h : Mix w D0 lo hi s f rows j) (hj : j < rows.length) (hl0 : l0 < s) (hnum : ∀ l, l < s → l ≠ l0 → ∃ z, rAt rows j l = .num z)
    (hf : ∀ i, i ≠ j * s + l0 → f' i = f i) (ho : Own w D2 (rAt rows j l0) (f' (j * s + l0))) (hD2 : ∀ k, D2 k → hi ≤ k ∧ k < hi') (hh : hi ≤ hi') : Mix w D0 lo hi' s f' rows (j + 1) := by
  obtain ⟨a, b, E, e1, e2, e3, e4⟩ := h
  refine ⟨a, Nat.le_trans b hh, fun i l k => if i = j then (l = l0 ∧ D2 k) else E i l k, fun i l k hi hl hk => ?_, fun i l i' l' k hi hl hi' hl' hk hk' => ?_, fun i l hi hr hl => ?_, fun i l hi hr hl => ?_⟩
  · by_cases e : i = j
    · simp only [if_pos e] at hk
      have := hD2 k hk.2
      omega
    · simp only [if_neg e] at hk
      have := e1 i l k (by omega) hl hk
      omega
  · by_cases e : i = j <;> by_cases e' : i' = j
    · simp only [if_pos e] at hk
      simp only [if_pos e'] at hk'
      exact ⟨by omega, by rw [hk.1, hk'.1]⟩
    · simp only [if_pos e] at hk
      simp only [if_neg e'] at hk'
      have h1 := hD2 k hk.2
      have h2 := e1 i' l' k (by omega) hl' hk'
      omega
    · simp only [if_neg e] at hk
      simp only [if_pos e'] at hk'
      have h1 := hD2 k hk'.2
      have h2 := e1 i l k (by omega) hl hk
      omega
    · simp only [if_neg e] at hk
      simp only [if_neg e'] at hk'
      exact e2 i l i' l' k (by omega) hl (by omega) hl' hk hk'
  · by_cases e : i = j
    · subst e
      by_cases e2 : l = l0
      · subst e2
        refine ho.mono (fun k hk => ?_)
        simp [hk]
      · obtain ⟨z, hz⟩ := hnum l hl e2
        have hr := e4 i l (Nat.le_refl _) hr hl
        rw [hz] at hr
        have hv := hr.num_inv
        rw [hz, hf (i * s + l) (fun h => e2 (idx_inj hl hl0 h).2), hv]
        exact .num _ z
    · simp only [if_neg e]
      rw [hf (i * s + l) (fun h => e (idx_inj hl hl0 h).1)]
      exact e3 i l (by omega) hr hl
  · rw [hf (i * s + l) (fun h => by have := (idx_inj hl hl0 h).1; omega)]
    exact e4 i l (by omega) hr hl
/-- All elements are. -/
theorem Mix.own {b N c : Nat} {T : TypeId} (h : Mix w D0 lo hi s f rows rows.length) (hrow : w.rowIs b T N f) (hN : rows.length * s ≤ N) (hc : rows.length ≤ c) (hm : rows.length ≤ 9223372036854775807) (hs0 : 0 < s) (hb : b < lo) :
    Own w (fun k => b ≤ k) (.arr s rows) (.slice (some ⟨b, 0, none⟩) rows.length c) := by
  obtain ⟨a, b', E, e1, e2, e3, e4⟩ := h
  rcases Nat.eq_zero_or_pos rows.length with h0 | h0
  · have : rows = [] := List.eq_nil_of_length_eq_zero h0
    subst this
    exact .nil _ _ _ _
  · exact .arr _ E s rows b c T N f (Nat.le_refl _) h0 hs0 hc hm a hN hrow (fun i j k hi hj hk => by have := e1 i j k hi hj hk; omega) (fun i j i' j' k hi hj hi' hj' => e2 i j i' j' k hi hj hi' hj') (fun i j hi hj => e3 i j hi hi hj)
/-- What was cloned: its row. -/
theorem AccR.row {base : Nat} {D : Nat → Prop} {T : TypeId} {v : Value} (h : AccR w base D T s v rows) (h0 : 0 < rows.length) : ∃ b c N f, v = .slice (some ⟨b, 0, none⟩) rows.length c ∧ base ≤ b ∧ b < w.heap.size ∧ rows.length ≤ c ∧ rows.length ≤ 9223372036854775807 ∧ rows.length * s ≤ N ∧ w.rowIs b T N f ∧
    Mix w (fun k => D k ∧ k ≠ b ∧ k < w.heap.size) w.heap.size w.heap.size s f rows 0 := by
  obtain ⟨xs, h1, h2, h5⟩ := h
  rcases h1.2 with ⟨e, he⟩ | ⟨g, cap, cur, e, hb, hg, hnc, hmax, hsz, htake⟩
  · omega
  · subst e
    have hmul : rows.length * s ≤ cap * s := Nat.mul_le_mul_right s hnc
    refine ⟨g, cap, cap * s, fun i => cur.getD i undef, rfl, hb, (Array.getElem?_eq_some_iff.1 hg).1, hnc, by simp only [maxLen] at hmax; omega, hmul, ⟨cur, hg, hsz, fun i hi => ?_⟩, h2, Nat.le_refl _, fun _ _ _ => False, fun _ _ _ _ _ h => h.elim, fun _ _ _ _ _ _ _ _ _ h => h.elim, fun i l hi => by omega, fun i l _ hi hl => ?_⟩
    · simp [Array.getD, show i < cur.size by omega]
    · obtain ⟨u, hu, ho⟩ := h5 i l hi hl
      have hlt := idx_lt hi hl
      have hlt2 : i * s + l < cur.size := by rw [hsz]; omega
      rw [← htake, List.getElem?_take, if_pos hlt, Array.getElem?_toList, Array.getElem?_eq_getElem hlt2] at hu
      have : cur.getD (i * s + l) undef = u := by simp [Array.getD, hlt2]; simpa using hu
      show Rd w _ _ (cur.getD (i * s + l) undef)
      rw [this]
      exact ho.mono (fun k hk => ⟨hk.1, fun e => hk.2.1 (by rw [e]; rfl), hk.2.2⟩)
end
end Go.Proofs.YtkapldpmjkdmcaaGreat
/- lower of the reference: choices by a number. -/
namespace Go.Proofs.YtkapldpmjkdmcaaGreat
open Go.RowKit

section
variable (ds : List DeclL) (sg : List SigL) (hok : sigsOk ds sg = true)
include hok
end
end Go.Proofs.YtkapldpmjkdmcaaGreat
/- lower of the reference: choices by a value. -/
namespace Go.Proofs.YtkapldpmjkdmcaaGreat
open Go.RowKit

section
variable (ds : List DeclL) (sg : List SigL) (hok : sigsOk ds sg = true)
include hok
end
end Go.Proofs.YtkapldpmjkdmcaaGreat
