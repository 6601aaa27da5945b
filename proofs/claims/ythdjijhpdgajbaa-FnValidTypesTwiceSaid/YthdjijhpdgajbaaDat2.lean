/- Plain functions on data: how many elements, how many integers, the marks. -/
import Derived.Test.YthdjijhpdgajbaaDat
namespace Go.Proofs.Ythdjijhpdgajbaa
open Go.RowKit

mutual
/-- How many elements all slices have. -/
def szD : Dat → Nat
  | .num _ => 0
  | .arr _ rows => rows.length + szRR rows
def szRR : List (List Dat) → Nat
  | [] => 0
  | r :: rs => szR r + szRR rs
def szR : List Dat → Nat
  | [] => 0
  | d :: ds => szD d + szR ds
end
mutual
/-- How many integers there are. -/
def cntD : Dat → Nat
  | .num _ => 1
  | .arr _ rows => cntRR rows
def cntRR : List (List Dat) → Nat
  | [] => 0
  | r :: rs => cntR r + cntRR rs
def cntR : List Dat → Nat
  | [] => 0
  | d :: ds => cntD d + cntR ds
end
mutual
/-- A bound for recursion. -/
def volD : Dat → Nat
  | .num _ => 1
  | .arr _ rows => 1 + volRR rows
def volRR : List (List Dat) → Nat
  | [] => 0
  | r :: rs => volR r + volRR rs
def volR : List Dat → Nat
  | [] => 0
  | d :: ds => volD d + volR ds
end
mutual
/-- The integers are k, k + 1, and so on. -/
def mkD : Dat → Int → Dat
  | .num _, k => .num k
  | .arr s rows, k => .arr s (mkRR rows k)
def mkRR : List (List Dat) → Int → List (List Dat)
  | [], _ => []
  | r :: rs, k => mkR r k :: mkRR rs (k + (cntR r : Int))
def mkR : List Dat → Int → List Dat
  | [], _ => []
  | d :: ds, k => mkD d k :: mkR ds (k + (cntD d : Int))
end

theorem szRR_append (a b : List (List Dat)) : szRR (a ++ b) = szRR a + szRR b := by induction a <;> simp_all [szRR, Nat.add_assoc]
theorem cntRR_append (a b : List (List Dat)) : cntRR (a ++ b) = cntRR a + cntRR b := by induction a <;> simp_all [cntRR, Nat.add_assoc]
theorem mkRR_len (a : List (List Dat)) (k : Int) : (mkRR a k).length = a.length := by
  induction a generalizing k with
  | nil => rfl
  | cons r rs ih => simp [mkRR, ih]
theorem mkR_len (a : List Dat) (k : Int) : (mkR a k).length = a.length := by
  induction a generalizing k with
  | nil => rfl
  | cons r rs ih => simp [mkR, ih]

theorem take_succ_rows (rows : List (List Dat)) (i : Nat) (h : i < rows.length) : rows.take (i + 1) = rows.take i ++ [rGet rows i] := by
  rw [List.take_succ_eq_append_getElem h, rGet_lt h]
theorem szRR_take (rows : List (List Dat)) (i : Nat) (h : i < rows.length) : szRR (rows.take (i + 1)) = szRR (rows.take i) + szR (rGet rows i) := by
  rw [take_succ_rows rows i h, szRR_append]; simp [szRR]
theorem cntRR_take (rows : List (List Dat)) (i : Nat) (h : i < rows.length) : cntRR (rows.take (i + 1)) = cntRR (rows.take i) + cntR (rGet rows i) := by
  rw [take_succ_rows rows i h, cntRR_append]; simp [cntRR]
theorem szRR_take_le (rows : List (List Dat)) (i : Nat) : szRR (rows.take i) ≤ szRR rows := by
  rw [← List.take_append_drop i rows, szRR_append]
  simp
theorem cntRR_take_le (rows : List (List Dat)) (i : Nat) : cntRR (rows.take i) ≤ cntRR rows := by
  rw [← List.take_append_drop i rows, cntRR_append]
  simp
theorem szR_le (rows : List (List Dat)) (i : Nat) (h : i < rows.length) : szR (rGet rows i) ≤ szRR rows := by
  have h1 := szRR_take rows i h
  have h2 := szRR_take_le rows (i + 1)
  omega
theorem szD_le (r : List Dat) (j : Nat) : szD (dGet r j) ≤ szR r := by
  induction r generalizing j with
  | nil => simp [dGet, szD, List.getD]
  | cons d ds ih =>
    rcases j with _ | j
    · simp [dGet, szR, List.getD]
    · have := ih j
      simp only [dGet, List.getD, List.getElem?_cons_succ] at this ⊢
      simp only [szR]
      omega
theorem volRR_le (rows : List (List Dat)) (i : Nat) (h : i < rows.length) : volR (rGet rows i) ≤ volRR rows := by
  induction rows generalizing i with
  | nil => simp at h
  | cons r rs ih =>
    rcases i with _ | i
    · simp [rGet, volRR, List.getD]
    · have := ih i (by simpa using h)
      simp only [rGet, List.getD, List.getElem?_cons_succ] at this ⊢
      simp only [volRR]
      omega
theorem volR_le (r : List Dat) (j : Nat) (h : j < r.length) : volD (dGet r j) ≤ volR r := by
  induction r generalizing j with
  | nil => simp at h
  | cons d ds ih =>
    rcases j with _ | j
    · simp [dGet, volR, List.getD]
    · have := ih j (by simpa using h)
      simp only [dGet, List.getD, List.getElem?_cons_succ] at this ⊢
      simp only [volR]
      omega
theorem vol_lt {s : Nat} {rows : List (List Dat)} {i j : Nat} (h : i < rows.length) (hj : j < (rGet rows i).length) : volD (rAt rows i j) < volD (.arr s rows) := by
  have h1 := volRR_le rows i h
  have h2 := volR_le (rGet rows i) j hj
  simp only [volD, rAt]
  omega

/-- Rows of at most s cells: the integers are bounded by the elements. -/
def RowsFit : Nat → Prop := fun _ => True

/-- The rows are marked up to j. -/
def mkTo (rows : List (List Dat)) (k : Int) (j : Nat) : List (List Dat) := (mkRR rows k).take j ++ rows.drop j
theorem mkTo_zero (rows : List (List Dat)) (k : Int) : mkTo rows k 0 = rows := by simp [mkTo]
theorem mkTo_all (rows : List (List Dat)) (k : Int) {n : Nat} (h : n = rows.length) : mkTo rows k n = mkRR rows k := by
  subst h; simp [mkTo, List.take_of_length_le (Nat.le_of_eq (mkRR_len rows k))]
theorem mkTo_len (rows : List (List Dat)) (k : Int) (j : Nat) : (mkTo rows k j).length = rows.length := by
  simp [mkTo, mkRR_len]; omega
theorem mkTo_get (rows : List (List Dat)) (k : Int) (j : Nat) (h : j < rows.length) : rGet (mkTo rows k j) j = rGet rows j := by
  have h1 : ((mkRR rows k).take j).length = j := by simp [mkRR_len]; omega
  simp [rGet, List.getD, mkTo, List.getElem?_append_right (Nat.le_of_eq h1), h1]
theorem mkRR_get (rows : List (List Dat)) (k : Int) (j : Nat) (h : j < rows.length) : rGet (mkRR rows k) j = mkR (rGet rows j) (k + (cntRR (rows.take j) : Int)) := by
  induction rows generalizing k j with
  | nil => simp at h
  | cons r rs ih =>
    rcases j with _ | j
    · simp [rGet, mkRR, List.getD, cntRR]
    · have := ih (k + (cntR r : Int)) j (by simpa using h)
      simp only [rGet, mkRR, List.getD, List.getElem?_cons_succ] at this ⊢
      rw [this]
      simp only [List.take_succ_cons, cntRR]
      congr 1
      omega
theorem mkTo_succ (rows : List (List Dat)) (k : Int) (j : Nat) (h : j < rows.length) : mkTo rows k (j + 1) = (mkTo rows k j).set j (mkR (rGet rows j) (k + (cntRR (rows.take j) : Int))) := by
  have h1 : ((mkRR rows k).take j).length = j := by simp [mkRR_len]; omega
  rw [← mkRR_get rows k j h]
  simp only [mkTo]
  have hj : j < (mkRR rows k).length := by rw [mkRR_len]; exact h
  rw [List.take_succ_eq_append_getElem hj, List.drop_eq_getElem_cons h, ← rGet_lt hj]
  rw [List.set_append_right _ _ (Nat.le_of_eq h1), h1, Nat.sub_self, List.set_cons_zero, List.append_assoc]
  rfl

theorem made_rows (n : Nat) (r : List Dat) (i : Nat) (h : i < n) : rGet (List.replicate n r) i = r := by simp [rGet, List.getD, h]

/-- Behind make: n elements, all of them the zero value. -/
theorem Own.made {w : World} {b : Nat} {T : TypeId} {n s : Nat} {zs : Array Value} {zd : List Dat} (hrow : w.rowIs b T (n * s) (fun i => zs.getD (i % s) undef)) (hzd : zd.length = s) (hs0 : 0 < s) (hn : n ≤ 9223372036854775807)
    (hz : ∀ j, j < s → Own w (fun _ => False) (dGet zd j) (zs.getD j undef)) : Own w (fun k => k = b) (.arr s (List.replicate n zd)) (.slice (some ⟨b, 0, none⟩) n n) := by
  rcases Nat.eq_zero_or_pos n with rfl | h0
  · exact .nil _ _ _ _
  · have q := Own.arr (w := w) (fun k => k = b) (fun _ _ _ => False) s (List.replicate n zd) b n T (n * s) (fun i => zs.getD (i % s) undef) rfl (by simpa using h0) hs0 (by simp) (by simpa using hn)
      (fun i hi => by rw [made_rows n zd i (by simpa using hi)]; exact hzd) (by simp) hrow (fun _ _ _ _ _ h => h.elim) (fun _ _ _ _ _ _ _ _ _ h => h.elim)
      (fun i j hi hj => by
        show Own w _ _ (zs.getD ((i * s + j) % s) undef)
        rw [Nat.mul_comm, Nat.mul_add_mod, Nat.mod_eq_of_lt hj, rAt, made_rows n zd i (by simpa using hi)]
        exact hz j hj)
    rw [List.length_replicate] at q
    exact q
end Go.Proofs.Ythdjijhpdgajbaa
