/- The laws' copies: integers, constructors, declarations, into memory of the call's own. -/
import Derived.Test.YthdjijhpdgajbaaOwn
namespace Go.Proofs.Ythdjijhpdgajbaa
open Go.RowKit

theorem infoInt : (Try.prog.info? 3).map (fun i => (i.zero, i.size, i.bytes)) = some (some (.int .i64 0), 1, 8) := by kernel_rfl
theorem infoCon : (Try.prog.info? 34).map (fun i => (i.zero, i.size, i.bytes)) = some (some (.agg #[.slice none 0 0]), 1, 24) := by kernel_rfl
theorem infoDecl : (Try.prog.info? 28).map (fun i => (i.zero, i.size, i.bytes)) = some (some (.agg #[.int .i64 0, .int .i64 0, .slice none 0 0]), 3, 40) := by kernel_rfl

/-- Blocks from B on. -/
abbrev From (B : Nat) : Nat → Prop := fun k => B ≤ k

set_option maxHeartbeats 400000 in
theorem toIntS (a : Option Addr) (n c : Nat) (xs : List Int) (D : Nat → Prop) (w : World) (h : IntsL w D a n xs) (hn : n ≤ 1048576) :
    Calls Try.prog 57 #[.slice a n c] w fun e w' => ∃ a', e = .returned (.slice a' n n) ∧ OwnInts w' (From w.heap.size) a' n xs ∧ Keep w w' := by
  refine calls_k fun Q hQ => ?_
  have HL := Lib.hid h.1
  go_enter Try.func57, Try.ntmps57
  go_wp2_with (at_make; refine wpList_makeN _ rfl _ _ 30 rfl 3 (.int .i64 0) #[.int .i64 0] 1 8 Try.underlying30 infoInt rfl rfl n rfl rfl (by omega) (by omega) ?_; intro w1 hrow hk1 hsz)
  have hrow' := Lib.hid hrow
  clear hrow
  go_loopw [4] (fun i wr => ∃ (k : Nat) (f : Nat → Value), k ≤ n ∧ i = .int .i64 k ∧ Hid (wr.rowIs w.heap.size 3 (n * 1) f) ∧ Hid (∀ j, j < k → f j = .int .i64 (iAt xs j)) ∧ Keep w wr) (fun i _ => n - (intOf i).toNat)
  case atStart => exact ⟨0, _, Nat.zero_le _, rfl, hrow', fun j hj => absurd hj (by omega), hk1⟩
  case round =>
    obtain ⟨k, f, hk, rfl, hrow, hf, hK⟩ := hrel
    by_cases hlt : k < n
    · have h1 := h.ext hK (fun _ _ h => h)
      obtain ⟨b, o, rfl, hd, hc⟩ := h1.2 (by omega)
      have c0 := hc k hlt
      have d0 := hrow.out.cell (i := k) (by omega)
      have d1 := hrow.out.frozen k
      clear hc h1 h
      go_wp2
      go_roundw
      case rel => exact ⟨k + 1, _, by omega, by go_num, hrow.out.set k _, fun j hj => by
        rcases Nat.lt_succ_iff_lt_or_eq.1 hj with h | rfl
        · simp only [if_neg (show j ≠ k by omega)]; exact hf.out j h
        · simp, hK.setCell (p := ⟨w.heap.size, k, none⟩) (.inl (Nat.le_refl _)) _⟩
      case measure => simp [intOf]; omega
    · go_wp2
      exact fin_ hQ ⟨_, rfl, ⟨HL.out, fun _ => ⟨_, _, f, rfl, Nat.le_refl _, by omega, hrow.out, fun i hi => hf.out i (by omega)⟩⟩, hK⟩

set_option maxHeartbeats 400000 in
theorem toCon (a : Option Addr) (n c : Nat) (xs : List Int) (D : Nat → Prop) (w : World) (h : IntsL w D a n xs) (hn : n ≤ 1048576) :
    Calls Try.prog 54 #[.agg #[.slice a n c]] w fun e w' => ∃ a', e = .returned (.agg #[.slice a' n n]) ∧ OwnInts w' (From w.heap.size) a' n xs ∧ Keep w w' := by
  refine calls_k fun Q hQ => ?_
  have hk : Keep w (((w.alloc (.cells #[.slice a n c] 76)).alloc (.cells #[.slice none 0 0] 34)).alloc (.cells #[.slice none 0 0] 34)) := (((Ext.refl _ w).alloc _).alloc _).alloc _
  have h1 := h.ext hk (fun _ _ h => h)
  go_enter Try.func54, Try.ntmps54
  go_wp2_with fail
  refine (toIntS _ _ _ _ _ _ h1 hn).mono ?_
  rintro e w1 ⟨a', rfl, ho, hk1⟩
  have e1 : w1.cell? ⟨w.heap.size + 1, 0, none⟩ = some (.slice none 0 0) := by rw [hk1.cell (p := ⟨w.heap.size + 1, 0, none⟩) (by simp) (fun h => h)]; simp [go_sem]
  have e2 : w1.cell? ⟨w.heap.size + 1 + 1, 0, none⟩ = some (.slice none 0 0) := by rw [hk1.cell (p := ⟨w.heap.size + 1 + 1, 0, none⟩) (by simp) (fun h => h)]; simp [go_sem]
  have g1 : w1.frozen? ⟨w.heap.size + 1, 0, none⟩ = false := by rw [hk1.frozen (p := ⟨w.heap.size + 1, 0, none⟩) (by simp) (fun h => h)]; simp [go_sem]
  have g2 : w1.frozen? ⟨w.heap.size + 1 + 1, 0, none⟩ = false := by rw [hk1.frozen (p := ⟨w.heap.size + 1 + 1, 0, none⟩) (by simp) (fun h => h)]; simp [go_sem]
  have HO := Lib.hid ho
  clear ho h1 h
  go_wp2_with fail
  refine bodyPost_ret (v := .agg #[.slice a' n n]) (by simp [results, Try.results54, go_sem, e1]) rfl (fin_ hQ ⟨a', rfl, ?_, ?_⟩)
  · refine (HO.out.ext (S := fun k => k < w.heap.size + 3) (((Ext.refl _ _).setCell (.inr (by simp)) _).setCell (.inr (by simp)) _) (fun k hk => ?_)).mono (fun k hk => ?_)
    · simp [From] at hk; omega
    · simp [From] at hk ⊢; omega
  · exact ((hk.trans hk1).setCell (.inl (by simp; omega)) _).setCell (.inl (by simp)) _

set_option maxHeartbeats 1000000 in
theorem toConS (a : Option Addr) (n c : Nat) (cs : List (List Int)) (D : Nat → Prop) (w : World) (h : ConsR w D a n cs) (hn : n ≤ 1048576) (hm : ∀ i, i < n → (cAt cs i).length ≤ 1048576) :
    Calls Try.prog 49 #[.slice a n c] w fun e w' => ∃ a', e = .returned (.slice a' n n) ∧ OwnCons w' (From w.heap.size) a' n cs ∧ Keep w w' := by
  refine calls_k fun Q hQ => ?_
  have HL := Lib.hid h.1
  have HM := Lib.hid hm
  clear hm
  go_enter Try.func49, Try.ntmps49
  go_wp2_with (at_make; refine wpList_makeN _ rfl _ _ 26 rfl 34 (.agg #[.slice none 0 0]) #[.slice none 0 0] 1 24 Try.underlying26 infoCon rfl rfl n rfl rfl (by omega) (by omega) ?_; intro w1 hrow hk1 hsz)
  have hrow' := Lib.hid hrow
  clear hrow
  go_loopw [4] (fun i wr => ∃ (k : Nat) (f : Nat → Value), k ≤ n ∧ i = .int .i64 k ∧ Hid (wr.rowIs w.heap.size 34 (n * 1) f) ∧ Hid (∀ j, j < k → ∃ a' m c, f j = .slice a' m c ∧ m ≤ c ∧ OwnInts wr (From (w.heap.size + 1)) a' m (cAt cs j)) ∧ Keep w wr ∧ w.heap.size < wr.heap.size) (fun i _ => n - (intOf i).toNat)
  case atStart => exact ⟨0, _, Nat.zero_le _, rfl, hrow', fun j hj => absurd hj (by omega), hk1, by omega⟩
  case round =>
    obtain ⟨k, f, hk, rfl, hrow, hf, hK, hgt⟩ := hrel
    by_cases hlt : k < n
    · have h1 := h.ext hK (fun _ _ h => h)
      obtain ⟨b, o, rfl, hd, hc⟩ := h1.2 (by omega)
      obtain ⟨a2, m2, c2, c0, hmc, hints⟩ := hc k hlt
      have hm2 : m2 ≤ 1048576 := by have := HM.out k hlt; have := hints.1; omega
      clear hc h1 h
      go_wp2_with fail
      refine (toCon _ _ _ _ _ _ hints hm2).mono ?_
      rintro e w2 ⟨a', rfl, ho, hk2⟩
      have hrow2 := Lib.hid (row_ext hrow.out hk2 (fun h => h))
      have d0 := hrow2.out.cell (i := k) (by omega)
      have d1 := hrow2.out.frozen k
      have HO := Lib.hid ho
      clear ho hints
      go_wp2_with fail
      go_roundw
      case rel => exact ⟨k + 1, _, by omega, by go_num, hrow2.out.set k _, fun j hj => by
        have hx : Ext (· = w.heap.size) w2 (w2.setCell ⟨w.heap.size, k, none⟩ (.slice a' m2 m2)) := (Ext.refl (· = w.heap.size) _).setCell (p := ⟨w.heap.size, k, none⟩) (.inr rfl) _
        rcases Nat.lt_succ_iff_lt_or_eq.1 hj with h | rfl
        · obtain ⟨a3, m3, c3, q1, q2, q3⟩ := hf.out j h
          refine ⟨a3, m3, c3, by simp only [if_neg (show j ≠ k by omega)]; exact q1, q2, (q3.ext hk2 (fun _ _ h => h)).ext hx (fun i hi e => ?_)⟩
          simp only [From] at hi; omega
        · refine ⟨a', m2, m2, by simp, Nat.le_refl _, (HO.out.ext hx (fun i hi e => ?_)).mono (fun i hi => ?_)⟩
          · simp only [From] at hi; omega
          · simp only [From] at hi ⊢; omega, (hK.trans hk2).setCell (p := ⟨w.heap.size, k, none⟩) (.inl (Nat.le_refl _)) _, by
          have := hk2.size; simp [World.setCell]; omega⟩
      case measure => simp [intOf]; omega
    · go_wp2
      exact fin_ hQ ⟨_, rfl, ⟨HL.out, fun _ => ⟨_, _, f, rfl, Nat.le_refl _, by omega, hrow.out, fun i hi => by
        obtain ⟨a3, m3, c3, q1, q2, q3⟩ := hf.out i (by omega)
        exact ⟨a3, m3, c3, q1, q2, q3.mono (fun j hj => by simp only [From] at hj ⊢; omega)⟩⟩⟩, hK⟩
end Go.Proofs.Ythdjijhpdgajbaa
