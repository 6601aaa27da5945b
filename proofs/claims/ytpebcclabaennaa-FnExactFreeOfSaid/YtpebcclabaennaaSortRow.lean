/- slices.Sort and slices.Compact over a row of integers of the call's own. -/
import Derived.Test.YtpebcclabaennaaShelf
import Derived.Test.YtpebcclabaennaaAppend
namespace Go.Proofs.Ytpebcclabaennaa
open Go.RowKit Go.Sort

theorem rowPut {w : World} {g : Nat} {T : TypeId} {cur : Array Value} (hg : w.heap[g]? = some (.cells cur T (0, 0))) (k : Nat) (d : Array Int) (os : Array Obj) (hd : d.size ≤ cur.size) :
    Ext (fun r => r = g) w (grow (putRow (Value.int .i64) (Sort.ahead w k) g 0 d) os) ∧
      ∃ cur', (grow (putRow (Value.int .i64) (Sort.ahead w k) g 0 d) os).heap[g]? = some (.cells cur' T (0, 0)) ∧ cur'.size = cur.size ∧ cur'.toList.take d.size = d.toList.map (Value.int .i64) := by
  have hlt : g < w.heap.size := (Array.getElem?_eq_some_iff.1 hg).1
  have hh : (grow (putRow (Value.int .i64) (Sort.ahead w k) g 0 d) os).heap = w.heap.modify g (onCells (putCells (Value.int .i64) 0 d)) ++ os := rfl
  refine ⟨⟨rfl, rfl, rfl, ?_, fun r hr hne => ?_⟩, putCells (Value.int .i64) 0 d cur, ?_, ?_, ?_⟩
  · rw [hh]; simp
  · rw [hh, Array.getElem?_append_left (by simpa using hr), Array.getElem?_modify, if_neg (fun e => hne e.symm)]
  · rw [hh, Array.getElem?_append_left (by simpa using hlt), Array.getElem?_modify, if_pos rfl, hg]; rfl
  · simp [putCells]
  · apply List.ext_getElem?
    intro i
    rw [List.getElem?_take, List.getElem?_map, Array.getElem?_toList, Array.getElem?_toList]
    by_cases hi : i < d.size
    · rw [if_pos hi]
      have hi2 : i < cur.size := by omega
      simp only [putCells, Array.getElem?_mapIdx, Array.getElem?_eq_getElem hi2, Option.map_some]
      rw [if_pos ⟨Nat.zero_le _, by omega⟩, Nat.sub_zero, Array.getElem?_eq_getElem hi, getElem!_pos d i hi]
      rfl
    · rw [if_neg hi, Array.getElem?_eq_none (by omega)]; rfl

theorem unfrozen_row {w : World} {g : Nat} {T : TypeId} {cur : Array Value} (hg : w.heap[g]? = some (.cells cur T (0, 0))) (j : Nat) : w.frozen? ⟨g, j, none⟩ = false :=
  frozen_of_row _ _ _ _ _ hg

theorem sortOwn (base : Nat) (v : Value) (n : Nat) (xs : List Int) (w : World) (h : w.ownsRow base 3 1 v n (xs.map (Value.int .i64))) (hn : n ≤ 1000000) :
    Calls Try.prog 91 #[v] w fun e w' => e = .returned (.tuple #[]) ∧ w'.ownsRow base 3 1 v n ((xs.mergeSort fun x y => decide (x ≤ y)).map (Value.int .i64)) ∧ Ext (fun r => v.ownBlock = some r) w w' := by
  have hl : xs.length = n := by simpa using h.1
  rcases h.2 with ⟨rfl, rfl⟩ | ⟨g, cap, cur, rfl, hb, hg, hnc, hcm, hsz, htake⟩
  · have : xs = [] := List.eq_nil_of_length_eq_zero hl
    subst this
    refine (Try.slices_Sort_int_none none 0 w).mono ?_
    rintro e w' ⟨rfl, rfl⟩
    exact ⟨rfl, by simpa using h, Ext.refl _ _⟩
  · subst hl
    have hlt : g < w.heap.size := (Array.getElem?_eq_some_iff.1 hg).1
    rw [Nat.mul_one] at hsz htake
    have hH : Holds (Value.int .i64) w g 0 xs.toArray := by
      intro j hj
      have hj' : j < xs.length := by simpa using hj
      refine ⟨?_, unfrozen_row hg (0 + j)⟩
      rw [Nat.zero_add, cell_of_row _ g j cur 3 (0, 0) hg]
      have h1 : (cur.toList.take xs.length)[j]? = (xs.map (Value.int .i64))[j]? := by rw [htake]
      rw [List.getElem?_take, if_pos hj', List.getElem?_map, Array.getElem?_toList] at h1
      rw [h1, List.getElem?_eq_getElem hj']
      simp [hj']
    refine (Try.slices_Sort_int g 0 cap xs w hH hlt (by omega)).mono ?_
    rintro e w' ⟨rfl, k, os, rfl⟩
    have hml : (xs.mergeSort fun x y => decide (x ≤ y)).length = xs.length := List.length_mergeSort _
    obtain ⟨hX, cur', hc1, hc2, hc3⟩ := rowPut hg k (xs.mergeSort fun x y => decide (x ≤ y)).toArray os (by simp [hml]; omega)
    refine ⟨rfl, ⟨by simp [hml], .inr ⟨g, cap, cur', rfl, hb, hc1, hnc, hcm, by omega, ?_⟩⟩, hX.mono (fun r _ hr => by rw [hr]; rfl)⟩
    rw [Nat.mul_one]
    simpa [hml] using hc3
theorem compact_len (zs : List Int) : (Lib.compact zs).length ≤ zs.length := by
  unfold Lib.compact Lib.compactUpTo
  rw [List.length_map]
  exact Nat.le_trans (List.length_filter_le _ _) (by simp)
theorem compactOwn (base : Nat) (a : Option Addr) (n c : Nat) (xs : List Int) (w : World) (h : w.ownsRow base 3 1 (.slice a n c) n (xs.map (Value.int .i64))) (hn : n ≤ 1000000) :
    Calls Try.prog 92 #[.slice a n c] w fun e w' => ∃ n', e = .returned (.slice a n' c) ∧ n' = (Lib.compact xs).length ∧ w'.ownsRow base 3 1 (.slice a n' c) n' ((Lib.compact xs).map (Value.int .i64)) ∧ Ext (fun r => (Value.slice a n c).ownBlock = some r) w w' := by
  have hl : xs.length = n := by simpa using h.1
  rcases h.2 with ⟨e, rfl⟩ | ⟨g, cap, cur, e, hb, hg, hnc, hcm, hsz, htake⟩
  · have : xs = [] := List.eq_nil_of_length_eq_zero hl
    subst this
    injection e with e1 e2 e3
    subst e1 e3
    refine (Try.slices_Compact_int_empty none 0 w).mono ?_
    rintro e w' ⟨rfl, rfl⟩
    exact ⟨0, rfl, rfl, by simpa [Lib.compact, Lib.compactUpTo] using h, Ext.refl _ _⟩
  · injection e with e1 e2 e3
    subst e1 e3 hl
    have hlt : g < w.heap.size := (Array.getElem?_eq_some_iff.1 hg).1
    rw [Nat.mul_one] at hsz htake
    have hH : Holds (Value.int .i64) w g 0 xs.toArray := by
      intro j hj
      have hj' : j < xs.length := by simpa using hj
      refine ⟨?_, unfrozen_row hg (0 + j)⟩
      rw [Nat.zero_add, cell_of_row _ g j cur 3 (0, 0) hg]
      have h1 : (cur.toList.take xs.length)[j]? = (xs.map (Value.int .i64))[j]? := by rw [htake]
      rw [List.getElem?_take, if_pos hj', List.getElem?_map, Array.getElem?_toList] at h1
      rw [h1, List.getElem?_eq_getElem hj']
      simp [hj']
    refine (Try.slices_Compact_int g 0 c xs w hH (by omega) hnc).mono ?_
    rintro e w' ⟨rfl, k, rfl⟩
    have hcl := compact_len xs
    obtain ⟨hX, cur', hc1, hc2, hc3⟩ := rowPut hg k (Lib.compact xs ++ List.replicate (xs.length - (Lib.compact xs).length) 0).toArray #[] (by simp; omega)
    rw [grow_empty] at hX hc1
    refine ⟨_, rfl, rfl, ⟨by simp, .inr ⟨g, c, cur', rfl, hb, hc1, by omega, hcm, by omega, ?_⟩⟩, hX.mono (fun r _ hr => by rw [hr]; rfl)⟩
    rw [Nat.mul_one]
    have h2 : (cur'.toList.take (Lib.compact xs ++ List.replicate (xs.length - (Lib.compact xs).length) (0 : Int)).toArray.size).take (Lib.compact xs).length = ((Lib.compact xs ++ List.replicate (xs.length - (Lib.compact xs).length) (0 : Int)).map (Value.int .i64)).take (Lib.compact xs).length := by rw [hc3]
    rw [List.take_take, Nat.min_eq_left (by simp)] at h2
    rw [h2, List.map_append, List.take_left' (by simp)]
end Go.Proofs.Ytpebcclabaennaa
