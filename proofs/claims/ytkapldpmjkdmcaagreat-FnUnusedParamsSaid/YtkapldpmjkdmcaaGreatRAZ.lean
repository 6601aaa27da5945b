/- The laws' own helpers: lists of integers compared, searched, contained in one another, ascending. -/
import Derived.Test.YtkapldpmjkdmcaaGreatRAC
import Derived.Test.YtkapldpmjkdmcaaGreatRAY
import Derived.Test.YtkapldpmjkdmcaaGreatRAF
import Derived.Lib.SlicesCompact
namespace Go.Proofs.YtkapldpmjkdmcaaGreat
open Go.RowKit

theorem equalInts_same (a : Option Addr) (n c : Nat) (a' : Option Addr) (n' c' : Nat) (xs : List Int) (D D' : Nat → Prop) (w : World) (h : IntsL w D a n xs) (h' : IntsL w D' a' n' xs) (hn : n ≤ 1099511627776) :
    Calls Tryz.prog 22 #[.slice a n c, .slice a' n' c'] w fun e w' => e = .returned (.bool true) ∧ Keep w w' := by
  refine (equalInts_law a n c a' n' c' xs xs D D' w h h' hn).mono ?_
  rw [decide_eq_true rfl]
  exact fun _ _ h => h
set_option maxHeartbeats 400000 in
theorem isIn_any (a : Option Addr) (n c : Nat) (xs : List Int) (x : Int) (D : Nat → Prop) (w : World) (h : IntsL w D a n xs) (hn : n ≤ 1099511627776) :
    Calls Tryz.prog 26 #[.slice a n c, .int .i64 x] w fun e w' => e = .returned (.bool (decide (x ∈ xs))) ∧ w = w' := by
  refine calls_k fun Q hQ => ?_
  have HL := Lib.hid h.1
  go_enter Tryz.func26, Tryz.ntmps26
  go_wp2
  go_loop [5] (fun i => ∃ j : Nat, j ≤ n ∧ i = .int .i64 j ∧ Hid (∀ l, l < j → iAt xs l ≠ x)) (fun i => n - (intOf i).toNat)
  case atStart => exact ⟨0, Nat.zero_le _, rfl, fun l hl => absurd hl (by omega)⟩
  case round =>
    obtain ⟨j, hj, rfl, H⟩ := hrel
    by_cases hlt : j < n
    · obtain ⟨b, o, rfl, hd, hc⟩ := h.2 (by omega)
      have d0 := hc j hlt
      clear hc h
      by_cases he : iAt xs j = x
      · have t := beq_iff_eq.2 he
        have HE := Lib.hid he
        clear he
        go_wp2
        exact fin_ hQ ⟨ret_b (by rw [decide_eq_true]; rw [← HE.out, iAt_get (by have := HL.out; omega)]; exact List.getElem_mem _), rfl⟩
      · have t := beq_eq_false_iff_ne.2 he
        have HE := Lib.hid he
        clear he
        go_wp2
        go_round
        case rel => exact ⟨j + 1, by omega, by go_num, fun l hl => by
          rcases Nat.lt_succ_iff_lt_or_eq.1 hl with h | rfl
          · exact H.out l h
          · exact HE.out⟩
        case measure => simp [intOf]; omega
    · go_wp2
      exact fin_ hQ ⟨ret_b (by
        rw [decide_eq_false]
        intro hm
        obtain ⟨i, hi, e⟩ := List.getElem_of_mem hm
        exact H.out i (by have := HL.out; omega) (by rw [iAt_get hi, e])), rfl⟩
/-- A strictly ascending list. -/
def AscI (xs : List Int) : Prop := ∀ i, i + 1 < xs.length → iAt xs i < iAt xs (i + 1)
set_option maxHeartbeats 400000 in
theorem ascends_yes (a : Option Addr) (n c : Nat) (xs : List Int) (D : Nat → Prop) (w : World) (h : IntsL w D a n xs) (hn : n ≤ 1099511627776) (hx : AscI xs) :
    Calls Tryz.prog 27 #[.slice a n c] w fun e w' => e = .returned (.bool true) ∧ Keep w w' := by
  refine calls_k fun Q hQ => ?_
  have HL := Lib.hid h.1
  have HX := Lib.hid hx
  clear hx
  go_enter Tryz.func27, Tryz.ntmps27
  go_wp2
  go_loopw [3] (fun i wr => ∃ j : Nat, i = .int .i64 ((j : Int) + 1) ∧ Keep w wr) (fun i _ => n - (intOf i).toNat)
  case atStart => exact ⟨0, rfl, Ext.refl _ _⟩
  case round =>
    obtain ⟨j, rfl, hK⟩ := hrel
    by_cases hlt : j + 1 < n
    · obtain ⟨b, o, rfl, hd, hc⟩ := (h.ext hK (fun _ _ h => h)).2 (by omega)
      have d0 := hc j (by omega)
      have d1 := hc (j + 1) hlt
      have t := HX.out j (by have := HL.out; omega)
      have t2 : decide (iAt xs (j + 1) ≤ iAt xs j) = false := by simp; omega
      clear hc h
      go_wp2
      go_quiet (fail)
      go_wp2
      go_roundw
      case rel => exact ⟨j + 1, by go_num, hK.drewN nq⟩
      case measure => simp [intOf]; omega
    · go_wp2
      exact fin_ hQ ⟨rfl, hK⟩
end Go.Proofs.YtkapldpmjkdmcaaGreat
/- What the drawn laws on expressions share. -/
namespace Go.Proofs.YtkapldpmjkdmcaaGreat
open Go.RowKit
end Go.Proofs.YtkapldpmjkdmcaaGreat
/- Ascending lists of integers as sets: insertion, indices of what is true; plain. -/
namespace Go.Proofs.YtkapldpmjkdmcaaGreat
open Go.RowKit

/-- An ascending list with a number at its place, once. -/
def insL : List Int → Int → List Int
  | [], n => [n]
  | x :: xs, n => if n < x then n :: x :: xs else if n = x then x :: xs else x :: insL xs n
def Asc (xs : List Int) : Prop := xs.Pairwise (· < ·)

theorem insL_len (xs : List Int) (n : Int) : (insL xs n).length ≤ xs.length + 1 := by
  induction xs with
  | nil => simp [insL]
  | cons x xs ih =>
    simp only [insL]
    split
    · simp
    · split
      · simp
      · simp only [List.length_cons]; omega
theorem insL_mem (xs : List Int) (n x : Int) : x ∈ insL xs n ↔ x = n ∨ x ∈ xs := by
  induction xs with
  | nil => simp [insL]
  | cons y ys ih =>
    simp only [insL]
    split
    · simp
    · split
      · next h => subst h; simp
      · simp only [List.mem_cons, ih]
        constructor
        · rintro (h | h | h)
          · exact .inr (.inl h)
          · exact .inl h
          · exact .inr (.inr h)
        · rintro (h | h | h)
          · exact .inr (.inl h)
          · exact .inl h
          · exact .inr (.inr h)
theorem insL_asc {xs : List Int} {n : Int} (h : Asc xs) : Asc (insL xs n) := by
  induction xs with
  | nil => simp [insL, Asc]
  | cons y ys ih =>
    obtain ⟨h1, h2⟩ := List.pairwise_cons.1 h
    simp only [insL]
    split
    · next hn =>
      refine List.pairwise_cons.2 ⟨fun z hz => ?_, h⟩
      rcases List.mem_cons.1 hz with rfl | hz
      · exact hn
      · have := h1 z hz; omega
    · split
      · exact h
      · next hn hne =>
        refine List.pairwise_cons.2 ⟨fun z hz => ?_, ih h2⟩
        rcases (insL_mem ys n z).1 hz with rfl | hz
        · omega
        · exact h1 z hz
theorem asc_ext : ∀ {xs ys : List Int}, Asc xs → Asc ys → (∀ x, x ∈ xs ↔ x ∈ ys) → xs = ys
  | [], [], _, _, _ => rfl
  | [], y :: ys, _, _, h => absurd ((h y).2 (by simp)) (by simp)
  | x :: xs, [], _, _, h => absurd ((h x).1 (by simp)) (by simp)
  | x :: xs, y :: ys, hx, hy, h => by
    obtain ⟨hx1, hx2⟩ := List.pairwise_cons.1 hx
    obtain ⟨hy1, hy2⟩ := List.pairwise_cons.1 hy
    have e : x = y := by
      rcases List.mem_cons.1 ((h x).1 (by simp)) with e | hm
      · exact e
      · rcases List.mem_cons.1 ((h y).2 (by simp)) with e | hm'
        · exact e.symm
        · have := hy1 x hm; have := hx1 y hm'; omega
    subst e
    have e2 : xs = ys := asc_ext hx2 hy2 (fun z => by
      constructor
      · intro hz
        rcases List.mem_cons.1 ((h z).1 (by simp [hz])) with e | hm
        · have := hx1 z hz; omega
        · exact hm
      · intro hz
        rcases List.mem_cons.1 ((h z).2 (by simp [hz])) with e | hm
        · have := hy1 z hz; omega
        · exact hm)
    rw [e2]

/-- What holds in the loop of insert behind j elements. -/
def InsR (xs : List Int) (n : Int) (j : Nat) (out : List Int) (done : Bool) : Prop :=
  if done = true then out ++ xs.drop j = insL xs n else out = xs.take j ∧ insL xs n = xs.take j ++ insL (xs.drop j) n
theorem InsR.start (xs : List Int) (n : Int) : InsR xs n 0 [] false := by simp [InsR]
theorem drop_iAt {xs : List Int} {j : Nat} (h : j < xs.length) : xs.drop j = iAt xs j :: xs.drop (j + 1) := by rw [List.drop_eq_getElem_cons h, iAt_eq h]
section
variable {xs : List Int} {n : Int} {j : Nat} {out : List Int}
theorem InsR.same (h : InsR xs n j out false) (hj : j < xs.length) (hx : iAt xs j = n) : InsR xs n (j + 1) (out ++ [iAt xs j]) true := by
  simp only [InsR, Bool.false_eq_true, if_false, if_true] at h ⊢
  obtain ⟨h1, h2⟩ := h
  rw [h2, h1, drop_iAt hj, insL, if_neg (by omega), if_pos hx.symm, List.append_assoc]
  rfl
theorem InsR.over (h : InsR xs n j out false) (hj : j < xs.length) (hx : n < iAt xs j) : InsR xs n (j + 1) (out ++ [n] ++ [iAt xs j]) true := by
  simp only [InsR, Bool.false_eq_true, if_false, if_true] at h ⊢
  obtain ⟨h1, h2⟩ := h
  rw [h2, h1, drop_iAt hj, insL, if_pos hx]
  simp
theorem InsR.rest (h : InsR xs n j out true) (hj : j < xs.length) : InsR xs n (j + 1) (out ++ [iAt xs j]) true := by
  simp only [InsR, if_true] at h ⊢
  rw [← h, drop_iAt hj]
  simp
theorem InsR.done (h : InsR xs n j out true) (hj : xs.length ≤ j) : out = insL xs n := by
  simp only [InsR, if_true] at h
  rw [List.drop_of_length_le hj, List.append_nil] at h
  exact h
theorem InsR.last (h : InsR xs n j out false) (hj : xs.length ≤ j) : out ++ [n] = insL xs n := by
  simp only [InsR, Bool.false_eq_true, if_false] at h
  obtain ⟨h1, h2⟩ := h
  rw [h2, h1, List.drop_of_length_le hj]
  rfl
end

def bAtL (bs : List Bool) (i : Nat) : Bool := bs.getD i false
theorem bAtL_eq {bs : List Bool} {i : Nat} (h : i < bs.length) : bAtL bs i = bs[i] := by simp [bAtL, List.getElem?_eq_getElem h]
/-- The indices of what is true, ascending, from k on. -/
def idxFrom : Nat → List Bool → List Int
  | _, [] => []
  | k, b :: bs => if b = true then (k : Int) :: idxFrom (k + 1) bs else idxFrom (k + 1) bs
def idxL (bs : List Bool) : List Int := idxFrom 0 bs
theorem idxFrom_append (k : Nat) (a b : List Bool) : idxFrom k (a ++ b) = idxFrom k a ++ idxFrom (k + a.length) b := by
  induction a generalizing k with
  | nil => simp [idxFrom]
  | cons x xs ih =>
    simp only [List.cons_append, idxFrom, ih, List.length_cons]
    rw [show k + 1 + xs.length = k + (xs.length + 1) by omega]
    split <;> simp
theorem idxL_take {bs : List Bool} {j : Nat} (h : j < bs.length) : idxL (bs.take (j + 1)) = idxL (bs.take j) ++ if bAtL bs j = true then [(j : Int)] else [] := by
  rw [List.take_succ_eq_append_getElem h, idxL, idxFrom_append, ← bAtL_eq h]
  have : (bs.take j).length = j := by simp; omega
  rw [this, Nat.zero_add]
  simp only [idxFrom]
  rfl
theorem idxFrom_len (k : Nat) (bs : List Bool) : (idxFrom k bs).length ≤ bs.length := by
  induction bs generalizing k with
  | nil => simp [idxFrom]
  | cons b bs ih => simp only [idxFrom]; have := ih (k + 1); split <;> simp <;> omega
theorem idxL_len (bs : List Bool) : (idxL bs).length ≤ bs.length := idxFrom_len 0 bs
theorem idxFrom_mem (k : Nat) (bs : List Bool) (x : Int) : x ∈ idxFrom k bs ↔ ∃ i : Nat, i < bs.length ∧ x = ((k + i : Nat) : Int) ∧ bAtL bs i = true := by
  induction bs generalizing k with
  | nil => simp [idxFrom]
  | cons b bs ih =>
    have hs : (∃ i : Nat, i < (b :: bs).length ∧ x = ((k + i : Nat) : Int) ∧ bAtL (b :: bs) i = true) ↔ (x = (k : Int) ∧ b = true) ∨ ∃ i : Nat, i < bs.length ∧ x = ((k + 1 + i : Nat) : Int) ∧ bAtL bs i = true := by
      constructor
      · rintro ⟨i, hi, hx, hb⟩
        rcases i with _ | i
        · exact .inl ⟨by simpa using hx, by simpa [bAtL] using hb⟩
        · exact .inr ⟨i, by simpa using hi, by rw [hx]; congr 1; omega, by simpa [bAtL] using hb⟩
      · rintro (⟨hx, hb⟩ | ⟨i, hi, hx, hb⟩)
        · exact ⟨0, by simp, by simpa using hx, by simpa [bAtL] using hb⟩
        · exact ⟨i + 1, by simpa using hi, by rw [hx]; congr 1; omega, by simpa [bAtL] using hb⟩
    rw [hs, ← ih (k + 1)]
    simp only [idxFrom]
    split
    · next hb => simp [hb]
    · next hb => simp [hb]
theorem idxL_mem (bs : List Bool) (x : Int) : x ∈ idxL bs ↔ ∃ i : Nat, i < bs.length ∧ x = (i : Int) ∧ bAtL bs i = true := by
  rw [idxL, idxFrom_mem]; simp
theorem idxFrom_asc (k : Nat) (bs : List Bool) : Asc (idxFrom k bs) := by
  induction bs generalizing k with
  | nil => simp [idxFrom, Asc]
  | cons b bs ih =>
    simp only [idxFrom]
    split
    · refine List.pairwise_cons.2 ⟨fun z hz => ?_, ih _⟩
      obtain ⟨i, _, rfl, _⟩ := (idxFrom_mem _ _ _).1 hz
      omega
    · exact ih _
theorem idxL_asc (bs : List Bool) : Asc (idxL bs) := idxFrom_asc 0 bs
end Go.Proofs.YtkapldpmjkdmcaaGreat
/- Free variables, plain: by insertion, and by sorting and compacting what is found. -/
namespace Go.Proofs.YtkapldpmjkdmcaaGreat
open Go.RowKit

/-- A node is a variable below z. -/
def isFree (z op num : Int) : Bool := decide (op = 12) && decide (0 ≤ num) && decide (num < z)
/-- The reference's visits: insertion. -/
def fvis (z : Int) (op num : Int) (s : List Int) : List Int := if isFree z op num then insL s num else s
/-- The program's visits: what is found goes to the end. -/
def gvis (z : Int) (op num : Int) (s : List Int) : List Int := if isFree z op num then s ++ [num] else s
def freeL (z op num : Int) (es : List ExprL) : List Int := if nEs es + 1 ≤ 30 then visE (fvis z) (.mk op num es) [] else []

section
variable (z : Int)
mutual
theorem fvisE_len : ∀ (e : ExprL) (s : List Int), (visE (fvis z) e s).length ≤ s.length + nE e
  | .mk op num ks, s => by
    have h := fvisEs_len ks (fvis z op num s)
    have h1 : (fvis z op num s).length ≤ s.length + 1 := by
      unfold fvis; split
      · exact insL_len s num
      · omega
    simp only [visE, nE]; omega
theorem fvisEs_len : ∀ (es : List ExprL) (s : List Int), (visEs (fvis z) es s).length ≤ s.length + nEs es
  | [], s => by simp [visEs]
  | e :: es, s => by
    have h1 := fvisE_len e s
    have h2 := fvisEs_len es (visE (fvis z) e s)
    simp only [visEs, nEs]; omega
end
mutual
theorem gvisE_len : ∀ (e : ExprL) (s : List Int), (visE (gvis z) e s).length ≤ s.length + nE e
  | .mk op num ks, s => by
    have h := gvisEs_len ks (gvis z op num s)
    have h1 : (gvis z op num s).length ≤ s.length + 1 := by
      unfold gvis; split
      · simp
      · omega
    simp only [visE, nE]; omega
theorem gvisEs_len : ∀ (es : List ExprL) (s : List Int), (visEs (gvis z) es s).length ≤ s.length + nEs es
  | [], s => by simp [visEs]
  | e :: es, s => by
    have h1 := gvisE_len e s
    have h2 := gvisEs_len es (visE (gvis z) e s)
    simp only [visEs, nEs]; omega
end
mutual
theorem fvisE_asc : ∀ (e : ExprL) (s : List Int), Asc s → Asc (visE (fvis z) e s)
  | .mk op num ks, s, h => by
    rw [visE]
    refine fvisEs_asc ks _ ?_
    unfold fvis; split
    · exact insL_asc h
    · exact h
theorem fvisEs_asc : ∀ (es : List ExprL) (s : List Int), Asc s → Asc (visEs (fvis z) es s)
  | [], s, h => by rw [visEs]; exact h
  | e :: es, s, h => by rw [visEs]; exact fvisEs_asc es _ (fvisE_asc e s h)
end
theorem fgvis (op num : Int) (s t : List Int) (h : ∀ x, x ∈ s ↔ x ∈ t) : ∀ x, x ∈ fvis z op num s ↔ x ∈ gvis z op num t := by
  intro x
  unfold fvis gvis
  split
  · rw [insL_mem, List.mem_append, List.mem_singleton, h x, or_comm]
  · exact h x
mutual
theorem fgvisE : ∀ (e : ExprL) (s t : List Int), (∀ x, x ∈ s ↔ x ∈ t) → ∀ x, x ∈ visE (fvis z) e s ↔ x ∈ visE (gvis z) e t
  | .mk op num ks, s, t, h => by
    rw [visE, visE]
    exact fgvisEs ks _ _ (fgvis z op num s t h)
theorem fgvisEs : ∀ (es : List ExprL) (s t : List Int), (∀ x, x ∈ s ↔ x ∈ t) → ∀ x, x ∈ visEs (fvis z) es s ↔ x ∈ visEs (gvis z) es t
  | [], s, t, h => by rw [visEs, visEs]; exact h
  | e :: es, s, t, h => by rw [visEs, visEs]; exact fgvisEs es _ _ (fgvisE e s t h)
end
end

theorem compact_mem (zs : List Int) (x : Int) : x ∈ Lib.compact zs ↔ x ∈ zs := by
  unfold Lib.compact Lib.compactUpTo
  constructor
  · intro h
    obtain ⟨j, hj, rfl⟩ := List.mem_map.1 h
    have hj' : j < zs.length := List.mem_range.1 (List.mem_filter.1 hj).1
    simp [hj']
  · intro h
    have hex : ∃ j, j < zs.length ∧ zs.toArray[j]! = x := by
      obtain ⟨j, hj, e⟩ := List.getElem_of_mem h
      exact ⟨j, hj, by simp [hj, e]⟩
    have hmin : ∀ n j, j < n → j < zs.length → zs.toArray[j]! = x → ∃ i, i < zs.length ∧ zs.toArray[i]! = x ∧ (i = 0 ∨ zs.toArray[i - 1]! ≠ x) := by
      intro n
      induction n with
      | zero => intro j hj; omega
      | succ n ih =>
        intro j hj hl hx
        by_cases h0 : j = 0
        · exact ⟨j, hl, hx, .inl h0⟩
        · by_cases he : zs.toArray[j - 1]! = x
          · exact ih (j - 1) (by omega) (by omega) he
          · exact ⟨j, hl, hx, .inr he⟩
    obtain ⟨j, hl, hx⟩ := hex
    obtain ⟨i, hi, he, hk⟩ := hmin (j + 1) j (by omega) hl hx
    refine List.mem_map.2 ⟨i, List.mem_filter.2 ⟨List.mem_range.2 hi, ?_⟩, he⟩
    unfold Lib.keeps
    refine decide_eq_true ?_
    rcases hk with hk | hk
    · exact .inl hk
    · exact .inr (by rw [he]; exact fun h => hk h.symm)
theorem compact_asc {zs : List Int} (h : zs.Pairwise (· ≤ ·)) : Asc (Lib.compact zs) := by
  unfold Lib.compact Lib.compactUpTo Asc
  rw [List.pairwise_map]
  have hle : ∀ i j, i ≤ j → j < zs.length → zs.toArray[i]! ≤ zs.toArray[j]! := by
    intro i j hij hj
    rcases Nat.eq_or_lt_of_le hij with rfl | hlt
    · exact Int.le_refl _
    · have := List.pairwise_iff_getElem.1 h i j (by omega) hj hlt
      simpa [hj, show i < zs.length by omega] using this
  refine List.Pairwise.imp_of_mem (R := (· < ·)) ?_ (List.Pairwise.filter _ (List.pairwise_lt_range))
  intro i j hi hj hlt
  have hj' : j < zs.length := List.mem_range.1 (List.mem_filter.1 hj).1
  have hk := (List.mem_filter.1 hj).2
  unfold Lib.keeps at hk
  have hk' := of_decide_eq_true hk
  rcases hk' with hk' | hk'
  · omega
  · have h1 := hle i (j - 1) (by omega) (by omega)
    have h2 := hle (j - 1) j (by omega) hj'
    omega
/-- What the program makes of what it finds is what the reference has. -/
theorem free_both (z op num : Int) (es : List ExprL) (h : nEs es + 1 ≤ 30) (zs : List Int) (hs : zs.Pairwise (· ≤ ·)) (hm : ∀ x, x ∈ zs ↔ x ∈ visE (gvis z) (.mk op num es) []) : Lib.compact zs = freeL z op num es := by
  rw [freeL, if_pos h]
  refine asc_ext (compact_asc hs) (fvisE_asc z _ _ (by simp [Asc])) (fun x => ?_)
  rw [compact_mem, hm, fgvisE z _ [] [] (fun _ => Iff.rfl)]
end Go.Proofs.YtkapldpmjkdmcaaGreat
/- Plain facts for the laws on free variables. -/
namespace Go.Proofs.YtkapldpmjkdmcaaGreat
open Go.RowKit

theorem AscI.of {xs : List Int} (h : Asc xs) : AscI xs := by
  intro i hi
  rw [iAt_get (by omega), iAt_get hi]
  exact List.pairwise_iff_getElem.1 h i (i + 1) (by omega) hi (by omega)

theorem fvis_mem (z x op num : Int) (s : List Int) : x ∈ fvis z op num s ↔ x ∈ s ∨ (0 ≤ x ∧ x < z ∧ op = 12 ∧ num = x) := by
  unfold fvis
  by_cases h : isFree z op num = true
  · rw [if_pos h, insL_mem]
    simp only [isFree, Bool.and_eq_true, decide_eq_true_eq] at h
    constructor
    · rintro (rfl | h1)
      · exact .inr ⟨h.1.2, h.2, h.1.1, rfl⟩
      · exact .inl h1
    · rintro (h1 | ⟨_, _, _, rfl⟩)
      · exact .inr h1
      · exact .inl rfl
  · rw [if_neg h]
    constructor
    · exact .inl
    · rintro (h1 | ⟨h1, h2, h3, rfl⟩)
      · exact h1
      · exact absurd (by simp [isFree, h1, h2, h3]) h
mutual
theorem fvisE_mem (z x : Int) : ∀ (e : ExprL) (s : List Int), x ∈ visE (fvis z) e s ↔ x ∈ s ∨ (0 ≤ x ∧ x < z ∧ 0 < mE x e)
  | .mk op num ks, s => by
    rw [visE, fvisEs_mem z x ks, fvis_mem, mE]
    by_cases h : op = 12 ∧ num = x
    · rw [if_pos h]
      constructor
      · rintro ((h1 | ⟨h1, h2, _⟩) | ⟨h1, h2, _⟩)
        · exact .inl h1
        · exact .inr ⟨h1, h2, by omega⟩
        · exact .inr ⟨h1, h2, by omega⟩
      · rintro (h1 | ⟨h1, h2, _⟩)
        · exact .inl (.inl h1)
        · exact .inl (.inr ⟨h1, h2, h⟩)
    · rw [if_neg h]
      constructor
      · rintro ((h1 | ⟨_, _, h3⟩) | ⟨h1, h2, h3⟩)
        · exact .inl h1
        · exact absurd h3 h
        · exact .inr ⟨h1, h2, by omega⟩
      · rintro (h1 | ⟨h1, h2, h3⟩)
        · exact .inl (.inl h1)
        · exact .inr ⟨h1, h2, by omega⟩
theorem fvisEs_mem (z x : Int) : ∀ (es : List ExprL) (s : List Int), x ∈ visEs (fvis z) es s ↔ x ∈ s ∨ (0 ≤ x ∧ x < z ∧ 0 < mEs x es)
  | [], s => by simp [visEs, mEs]
  | e :: es, s => by
    rw [visEs, fvisEs_mem z x es, fvisE_mem z x e, mEs]
    constructor
    · rintro ((h1 | ⟨h1, h2, h3⟩) | ⟨h1, h2, h3⟩)
      · exact .inl h1
      · exact .inr ⟨h1, h2, by omega⟩
      · exact .inr ⟨h1, h2, by omega⟩
    · rintro (h1 | ⟨h1, h2, h3⟩)
      · exact .inl (.inl h1)
      · by_cases h4 : 0 < mE x e
        · exact .inl (.inr ⟨h1, h2, h4⟩)
        · exact .inr ⟨h1, h2, by omega⟩
end
theorem freeL_mem {z op num x : Int} {es : List ExprL} (h : nEs es + 1 ≤ 30) : x ∈ freeL z op num es ↔ 0 ≤ x ∧ x < z ∧ 0 < mE x (.mk op num es) := by
  rw [freeL, if_pos h, fvisE_mem]
  simp
theorem freeL_asc (z op num : Int) (es : List ExprL) : Asc (freeL z op num es) := by
  unfold freeL
  split
  · exact fvisE_asc _ _ _ List.Pairwise.nil
  · exact List.Pairwise.nil

end Go.Proofs.YtkapldpmjkdmcaaGreat
