/- The laws' copies of declarations. -/
import Derived.Test.YthdjijhpdgajbaaToDecl
namespace Go.Proofs.Ythdjijhpdgajbaa
open Go.RowKit

set_option maxHeartbeats 1000000 in
theorem toDecl (x y : Int) (a : Option Addr) (n c : Nat) (cs : List (List Int)) (D : Nat → Prop) (w : World) (h : ConsR w D a n cs) (hn : n ≤ 1048576) (hm : ∀ i, i < n → (cAt cs i).length ≤ 1048576) :
    Calls Try.prog 40 #[.agg #[.int .i64 x, .int .i64 y, .slice a n c]] w fun e w' => ∃ a', e = .returned (.agg #[.int .i64 x, .int .i64 y, .slice a' n n]) ∧ OwnCons w' (From w.heap.size) a' n cs ∧ Keep w w' := by
  refine calls_k fun Q hQ => ?_
  have hk : Keep w (((w.alloc (.cells #[.int .i64 x, .int .i64 y, .slice a n c] 62)).alloc (.cells #[.int .i64 0, .int .i64 0, .slice none 0 0] 28)).alloc (.cells #[.int .i64 x, .int .i64 y, .slice none 0 0] 28)) := (((Ext.refl _ w).alloc _).alloc _).alloc _
  have h1 := h.ext hk (fun _ _ h => h)
  have HM := Lib.hid hm
  clear hm
  go_enter Try.func40, Try.ntmps40
  go_wp2_with fail
  refine (toConS _ _ _ _ _ _ h1 hn HM.out).mono ?_
  rintro e w1 ⟨a', rfl, ho, hk1⟩
  have e1 : ∀ i, i < 3 → w1.cell? ⟨w.heap.size + 1, i, none⟩ = #[.int .i64 0, .int .i64 0, .slice none 0 0][i]? := fun i hi => by rw [hk1.cell (p := ⟨w.heap.size + 1, i, none⟩) (by simp) (fun h => h)]; simp [go_sem]
  have e2 : ∀ i, i < 3 → w1.cell? ⟨w.heap.size + 1 + 1, i, none⟩ = #[.int .i64 x, .int .i64 y, .slice none 0 0][i]? := fun i hi => by rw [hk1.cell (p := ⟨w.heap.size + 1 + 1, i, none⟩) (by simp) (fun h => h)]; simp [go_sem]
  have g1 : ∀ i, w1.frozen? ⟨w.heap.size + 1, i, none⟩ = false := fun i => by rw [hk1.frozen (p := ⟨w.heap.size + 1, i, none⟩) (by simp) (fun h => h)]; simp [go_sem]
  have g2 : ∀ i, w1.frozen? ⟨w.heap.size + 1 + 1, i, none⟩ = false := fun i => by rw [hk1.frozen (p := ⟨w.heap.size + 1 + 1, i, none⟩) (by simp) (fun h => h)]; simp [go_sem]
  have p0 := e1 0 (by omega)
  have p1 := e1 1 (by omega)
  have p2 := e1 2 (by omega)
  have q0 := e2 0 (by omega)
  have q1 := e2 1 (by omega)
  have q2 := e2 2 (by omega)
  simp at p0 p1 p2 q0 q1 q2
  have HO := Lib.hid ho
  clear ho h1 h e1 e2
  go_wp2_with fail
  refine bodyPost_ret (v := .agg #[.int .i64 x, .int .i64 y, .slice a' n n]) (by simp [results, Try.results40, go_sem, p0, p1, p2]) rfl (fin_ hQ ⟨a', rfl, ?_, ?_⟩)
  · refine (HO.out.ext (S := fun k => k < w.heap.size + 3) (((((Ext.refl _ _).setCell (.inr (by simp)) _).setCell (.inr (by simp)) _).setCell (.inr (by simp)) _).setCell (.inr (by simp)) _) (fun k hk => ?_)).mono (fun k hk => ?_)
    · simp [From] at hk; omega
    · simp [From] at hk ⊢; omega
  · exact (((((hk.trans hk1).setCell (.inl (by simp; omega)) _).setCell (.inl (by simp)) _).setCell (.inl (by simp)) _).setCell (.inl (by simp)) _)

set_option maxHeartbeats 1000000 in
theorem toDeclS (a : Option Addr) (n c : Nat) (ds : List DeclL) (D : Nat → Prop) (w : World) (h : DeclsR w D a n ds) (hn : n ≤ 1048576) (hm : ∀ i, i < n → (dAt ds i).cons.length ≤ 1048576 ∧ ∀ j, j < (dAt ds i).cons.length → (cAt (dAt ds i).cons j).length ≤ 1048576) :
    Calls Try.prog 18 #[.slice a n c] w fun e w' => ∃ a', e = .returned (.slice a' n n) ∧ OwnDecls w' (From w.heap.size) a' n ds ∧ Keep w w' := by
  refine calls_k fun Q hQ => ?_
  have HL := Lib.hid h.1
  have HM := Lib.hid hm
  clear hm
  go_enter Try.func18, Try.ntmps18
  go_wp2_with (at_make; refine wpList_makeN _ rfl _ _ 23 rfl 28 (.agg #[.int .i64 0, .int .i64 0, .slice none 0 0]) #[.int .i64 0, .int .i64 0, .slice none 0 0] 3 40 Try.underlying23 infoDecl rfl rfl n rfl rfl (by omega) (by omega) ?_; intro w1 hrow hk1 hsz)
  have hrow' := Lib.hid hrow
  clear hrow
  go_loopw [4] (fun i wr => ∃ (k : Nat) (f : Nat → Value), k ≤ n ∧ i = .int .i64 k ∧ Hid (wr.rowIs w.heap.size 28 (n * 3) f) ∧ Hid (∀ j, j < k → f (j * 3) = .int .i64 (dAt ds j).from_ ∧ f (j * 3 + 1) = .int .i64 (dAt ds j).to_ ∧ ∃ a' m c, f (j * 3 + 2) = .slice a' m c ∧ m ≤ c ∧ OwnCons wr (From (w.heap.size + 1)) a' m (dAt ds j).cons) ∧ Keep w wr ∧ w.heap.size < wr.heap.size) (fun i _ => n - (intOf i).toNat)
  case atStart => exact ⟨0, _, Nat.zero_le _, rfl, hrow', fun j hj => absurd hj (by omega), hk1, by omega⟩
  case round =>
    obtain ⟨k, f, hk, rfl, hrow, hf, hK, hgt⟩ := hrel
    by_cases hlt : k < n
    · have h1 := h.ext hK (fun _ _ h => h)
      obtain ⟨b, o, rfl, hd, hc⟩ := h1.2 (by omega)
      obtain ⟨c0, c1, a2, m2, c2, c3, hmc, hcons⟩ := hc k hlt
      have hm2 : m2 ≤ 1048576 := by have := (HM.out k hlt).1; have := hcons.1; omega
      have HM2 := Lib.hid (fun i (hi : i < m2) => (HM.out k hlt).2 i (by have := hcons.1; omega))
      clear hc h1 h
      go_wp2_with fail
      refine (toDecl _ _ _ _ _ _ _ _ hcons hm2 HM2.out).mono ?_
      rintro e w2 ⟨a', rfl, ho, hk2⟩
      have hrow2 := Lib.hid (row_ext hrow.out hk2 (fun h => h))
      have d0 := hrow2.out.cell (i := k * 3) (by omega)
      have d1 := hrow2.out.cell (i := k * 3 + 1) (by omega)
      have d2 := hrow2.out.cell (i := k * 3 + 2) (by omega)
      have g0 := hrow2.out.frozen (k * 3)
      have g1 := hrow2.out.frozen (k * 3 + 1)
      have g2 := hrow2.out.frozen (k * 3 + 2)
      have HO := Lib.hid ho
      clear ho hcons
      go_wp2_with fail
      go_roundw
      case rel => exact ⟨k + 1, _, by omega, by go_num, ((hrow2.out.set (k * 3) _).set (k * 3 + 1) _).set (k * 3 + 2) _, fun j hj => by
        have hx : Ext (· = w.heap.size) w2 (((w2.setCell ⟨w.heap.size, k * 3, none⟩ (.int .i64 (dAt ds k).from_)).setCell ⟨w.heap.size, k * 3 + 1, none⟩ (.int .i64 (dAt ds k).to_)).setCell ⟨w.heap.size, k * 3 + 2, none⟩ (.slice a' m2 m2)) :=
          (((Ext.refl (· = w.heap.size) _).setCell (.inr rfl) _).setCell (.inr rfl) _).setCell (.inr rfl) _
        rcases Nat.lt_succ_iff_lt_or_eq.1 hj with h | rfl
        · obtain ⟨r0, r1, a3, m3, c3, q1, q2, q3⟩ := hf.out j h
          refine ⟨?_, ?_, a3, m3, c3, ?_, q2, (q3.ext hk2 (fun _ _ h => h)).ext hx (fun i hi e => ?_)⟩
          · simp only [if_neg (show j * 3 ≠ k * 3 by omega), if_neg (show j * 3 ≠ k * 3 + 1 by omega), if_neg (show j * 3 ≠ k * 3 + 2 by omega)]; exact r0
          · simp only [if_neg (show j * 3 + 1 ≠ k * 3 by omega), if_neg (show j * 3 + 1 ≠ k * 3 + 1 by omega), if_neg (show j * 3 + 1 ≠ k * 3 + 2 by omega)]; exact r1
          · simp only [if_neg (show j * 3 + 2 ≠ k * 3 by omega), if_neg (show j * 3 + 2 ≠ k * 3 + 1 by omega), if_neg (show j * 3 + 2 ≠ k * 3 + 2 by omega)]; exact q1
          · simp only [From] at hi; omega
        · refine ⟨by simp, by simp, a', m2, m2, by simp, Nat.le_refl _, (HO.out.ext hx (fun i hi e => ?_)).mono (fun i hi => ?_)⟩
          · simp only [From] at hi; omega
          · simp only [From] at hi ⊢; omega, (((hK.trans hk2).setCell (.inl (Nat.le_refl _)) _).setCell (.inl (Nat.le_refl _)) _).setCell (.inl (Nat.le_refl _)) _, by
          have := hk2.size; simp [World.setCell]; omega⟩
      case measure => simp [intOf]; omega
    · go_wp2
      exact fin_ hQ ⟨_, rfl, ⟨HL.out, fun _ => ⟨_, _, f, rfl, Nat.le_refl _, by omega, hrow.out, fun i hi => by
        obtain ⟨r0, r1, a3, m3, c3, q1, q2, q3⟩ := hf.out i (by omega)
        exact ⟨r0, r1, a3, m3, c3, q1, q2, q3.mono (fun j hj => by simp only [From] at hj ⊢; omega)⟩⟩⟩, hK⟩
end Go.Proofs.Ythdjijhpdgajbaa
