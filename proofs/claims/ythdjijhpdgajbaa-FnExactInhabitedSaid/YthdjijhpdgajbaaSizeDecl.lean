/- The laws' counts of sizes: integers, constructors, declarations. -/
import Derived.Test.YthdjijhpdgajbaaSizePlain
namespace Go.Proofs.Ythdjijhpdgajbaa
open Go.RowKit

theorem szIntS (a : Option Addr) (n c : Nat) (left : Int) (w : World) (h0 : 0 ≤ left) (h1 : left ≤ 1048576) (hn : n ≤ 9223372036854775807) :
    Calls Try.prog 56 #[.slice a n c, .int .i64 left] w fun e w' => e = .returned (.int .i64 (szOut left n)) ∧ w = w' := by
  refine calls_k fun Q hQ => ?_
  by_cases h : left < (n : Int)
  · have hs := Lib.hid (szOut_neg h)
    go_enter Try.func56, Try.ntmps56
    go_wp2
    exact fin_ hQ ⟨ret_i hs.out.symm, rfl⟩
  · have hs := Lib.hid (szOut_pos (show (n : Int) ≤ left by omega))
    go_enter Try.func56, Try.ntmps56
    go_wp2
    exact fin_ hQ ⟨ret_i hs.out.symm, rfl⟩

theorem szCon (a : Option Addr) (n c : Nat) (left : Int) (w : World) (h0 : 0 ≤ left) (h1 : left ≤ 1048576) (hn : n ≤ 9223372036854775807) :
    Calls Try.prog 53 #[.agg #[.slice a n c], .int .i64 left] w fun e w' => e = .returned (.int .i64 (szOut left n)) ∧ Keep w w' := by
  refine calls_k fun Q hQ => ?_
  by_cases h : left < (n : Int)
  · have hs := Lib.hid (szOut_neg h)
    go_enter Try.func53, Try.ntmps53
    go_wp2_with (go_at_call 56; refine (szIntS _ _ _ _ _ h0 h1 hn).mono ?_; rw [hs.out]; rintro e w1 ⟨rfl, rfl⟩)
    exact fin_ hQ ⟨ret_i hs.out.symm, (Ext.refl _ _).alloc _⟩
  · have hs := Lib.hid (szOut_pos (show (n : Int) ≤ left by omega))
    go_enter Try.func53, Try.ntmps53
    go_wp2_with (go_at_call 56; refine (szIntS _ _ _ _ _ h0 h1 hn).mono ?_; rw [hs.out]; rintro e w1 ⟨rfl, rfl⟩)
    exact fin_ hQ ⟨ret_i hs.out.symm, (Ext.refl _ _).alloc _⟩

set_option maxHeartbeats 1000000 in
theorem szConS (a : Option Addr) (n c : Nat) (cs : List (List Int)) (D : Nat → Prop) (left : Int) (w : World) (hr : ConsR w D a n cs) (hl : LensC cs) (h0 : 0 ≤ left) (h1 : left ≤ 1048576) :
    Calls Try.prog 48 #[.slice a n c, .int .i64 left] w fun e w' => e = .returned (.int .i64 (szOut left (szC cs))) ∧ Keep w w' := by
  refine calls_k fun Q hQ => ?_
  have HL := Lib.hid hr.1
  have hn : n ≤ 9223372036854775807 := by have := hl.1; have := HL.out; omega
  have HS : Hid (szC cs = n + sumTo (fun i => (cAt cs i).length) n) := by show _ = _; rw [szC, HL.out]
  by_cases h : left < (n : Int)
  · go_enter Try.func48, Try.ntmps48
    go_wp2
    exact fin_ hQ ⟨ret_i (szOut_neg (by rw [HS.out]; omega)).symm, Ext.refl _ _⟩
  · go_enter Try.func48, Try.ntmps48
    go_wp2
    go_loopw [1, 5] (fun l i wr => ∃ k : Nat, k ≤ n ∧ i = .int .i64 k ∧ l = .int .i64 (left - (n : Int) - (sumTo (fun i => (cAt cs i).length) k : Int)) ∧ 0 ≤ left - (n : Int) - (sumTo (fun i => (cAt cs i).length) k : Int) ∧ Keep w wr) (fun _ i _ => n - (intOf i).toNat)
    case atStart => exact ⟨0, Nat.zero_le _, rfl, by simp [sumTo], by simp [sumTo]; omega, Ext.refl _ _⟩
    case round =>
      obtain ⟨k, hk, rfl, rfl, hp, hK⟩ := hrel
      by_cases hlt : k < n
      · have hr1 := hr.ext hK (fun _ _ h => h)
        obtain ⟨b, o, rfl, hd, hc⟩ := hr1.2 (by omega)
        obtain ⟨a', m, c', c0, hmc, hints⟩ := hc k hlt
        have HM := Lib.hid hints.1
        have hm : m ≤ 9223372036854775807 := by have := hl.2 k (by have := HL.out; omega); have := HM.out; omega
        have hst : Hid (sumTo (fun i => (cAt cs i).length) (k + 1) = sumTo (fun i => (cAt cs i).length) k + m) := by show _ = _; simp only [sumTo, HM.out]
        have hle := sumTo_le (f := fun i => (cAt cs i).length) (show k + 1 ≤ n by omega)
        generalize hG : sumTo (fun i => (cAt cs i).length) k = G at *
        clear hc hints hr1 hr hl hG
        by_cases g : left - (n : Int) - (G : Int) < (m : Int)
        · have hs := Lib.hid (szOut_neg g)
          go_wp2_with (go_at_call 53; refine (szCon _ _ _ _ _ (by omega) (by omega) (by omega)).mono ?_; rw [hs.out]; rintro e w1 ⟨rfl, hk1⟩)
          exact fin_ hQ ⟨ret_i (szOut_neg (by rw [HS.out]; rw [hst.out] at hle; omega)).symm, hK.trans hk1⟩
        · have hs := Lib.hid (szOut_pos (show (m : Int) ≤ left - (n : Int) - (G : Int) by omega))
          go_wp2_with (go_at_call 53; refine (szCon _ _ _ _ _ (by omega) (by omega) (by omega)).mono ?_; rw [hs.out]; rintro e w1 ⟨rfl, hk1⟩)
          go_roundw
          case rel => exact ⟨k + 1, by omega, by go_num, by rw [hst.out]; congr 1; omega, by rw [hst.out]; omega, hK.trans hk1⟩
          case measure => simp [intOf]; omega
      · have hkn : k = n := by omega
        have HK := Lib.hid hkn
        clear hkn
        go_wp2
        exact fin_ hQ ⟨ret_i (by rw [HS.out, szOut_pos (by have := HK.out; subst this; omega)]; have := HK.out; subst this; omega), hK⟩
/-! by program: szDecl, szDeclS -/
theorem szDecl (x y : Int) (a : Option Addr) (n c : Nat) (cs : List (List Int)) (D : Nat → Prop) (left : Int) (w : World) (hr : ConsR w D a n cs) (hl : LensC cs) (h0 : 0 ≤ left) (h1 : left ≤ 1048576) :
    Calls Try.prog 39 #[.agg #[.int .i64 x, .int .i64 y, .slice a n c], .int .i64 left] w fun e w' => e = .returned (.int .i64 (szOut left (szC cs))) ∧ Keep w w' := by
  refine calls_k fun Q hQ => ?_
  have hK : Keep w (w.alloc (.cells #[.int .i64 x, .int .i64 y, .slice a n c] 62)) := (Ext.refl _ w).alloc _
  have hr1 := hr.ext hK (fun _ _ h => h)
  by_cases h : left < (szC cs : Int)
  · have hs := Lib.hid (szOut_neg h)
    go_enter Try.func39, Try.ntmps39
    go_wp2_with (go_at_call 48; refine (szConS _ _ _ _ _ _ _ hr1 hl h0 h1).mono ?_; rw [hs.out]; rintro e w1 ⟨rfl, hk1⟩)
    exact fin_ hQ ⟨ret_i hs.out.symm, hK.trans hk1⟩
  · have hs := Lib.hid (szOut_pos (show (szC cs : Int) ≤ left by omega))
    go_enter Try.func39, Try.ntmps39
    go_wp2_with (go_at_call 48; refine (szConS _ _ _ _ _ _ _ hr1 hl h0 h1).mono ?_; rw [hs.out]; rintro e w1 ⟨rfl, hk1⟩)
    exact fin_ hQ ⟨ret_i hs.out.symm, hK.trans hk1⟩

set_option maxHeartbeats 1000000 in
theorem szDeclS (a : Option Addr) (n c : Nat) (ds : List DeclL) (D : Nat → Prop) (left : Int) (w : World) (hr : DeclsR w D a n ds) (hl : LensD ds) (h0 : 0 ≤ left) (h1 : left ≤ 1048576) :
    Calls Try.prog 17 #[.slice a n c, .int .i64 left] w fun e w' => e = .returned (.int .i64 (szOut left (szDL ds))) ∧ Keep w w' := by
  refine calls_k fun Q hQ => ?_
  have HL := Lib.hid hr.1
  have hn : n ≤ 9223372036854775807 := by have := hl.1; have := HL.out; omega
  have HS : Hid (szDL ds = n + sumTo (fun i => szC (dAt ds i).cons) n) := by show _ = _; rw [szDL, HL.out]
  by_cases h : left < (n : Int)
  · go_enter Try.func17, Try.ntmps17
    go_wp2
    exact fin_ hQ ⟨ret_i (szOut_neg (by rw [HS.out]; omega)).symm, Ext.refl _ _⟩
  · go_enter Try.func17, Try.ntmps17
    go_wp2
    go_loopw [1, 5] (fun l i wr => ∃ k : Nat, k ≤ n ∧ i = .int .i64 k ∧ l = .int .i64 (left - (n : Int) - (sumTo (fun i => szC (dAt ds i).cons) k : Int)) ∧ 0 ≤ left - (n : Int) - (sumTo (fun i => szC (dAt ds i).cons) k : Int) ∧ Keep w wr) (fun _ i _ => n - (intOf i).toNat)
    case atStart => exact ⟨0, Nat.zero_le _, rfl, by simp [sumTo], by simp [sumTo]; omega, Ext.refl _ _⟩
    case round =>
      obtain ⟨k, hk, rfl, rfl, hp, hK⟩ := hrel
      by_cases hlt : k < n
      · have hr1 := hr.ext hK (fun _ _ h => h)
        obtain ⟨b, o, rfl, hd, hc⟩ := hr1.2 (by omega)
        obtain ⟨c0, c1, a', m, c', c2, hmc, hcons⟩ := hc k hlt
        have hlk := hl.2 k (by have := HL.out; omega)
        have hst : Hid (sumTo (fun i => szC (dAt ds i).cons) (k + 1) = sumTo (fun i => szC (dAt ds i).cons) k + szC (dAt ds k).cons) := by show _ = _; simp only [sumTo]
        have hle := sumTo_le (f := fun i => szC (dAt ds i).cons) (show k + 1 ≤ n by omega)
        generalize hM : szC (dAt ds k).cons = M at *
        generalize hG : sumTo (fun i => szC (dAt ds i).cons) k = G at *
        have HM := Lib.hid hM
        clear hc hr1 hr hl hG hM
        by_cases g : left - (n : Int) - (G : Int) < (M : Int)
        · have hs := Lib.hid (szOut_neg g)
          go_wp2_with (go_at_call 39; refine (szDecl _ _ _ _ _ _ _ _ _ hcons hlk (by omega) (by omega)).mono ?_; rw [HM.out, hs.out]; rintro e w1 ⟨rfl, hk1⟩)
          exact fin_ hQ ⟨ret_i (szOut_neg (by rw [HS.out]; rw [hst.out] at hle; omega)).symm, hK.trans hk1⟩
        · have hs := Lib.hid (szOut_pos (show (M : Int) ≤ left - (n : Int) - (G : Int) by omega))
          go_wp2_with (go_at_call 39; refine (szDecl _ _ _ _ _ _ _ _ _ hcons hlk (by omega) (by omega)).mono ?_; rw [HM.out, hs.out]; rintro e w1 ⟨rfl, hk1⟩)
          go_roundw
          case rel => exact ⟨k + 1, by omega, by go_num, by rw [hst.out]; congr 1; omega, by rw [hst.out]; omega, hK.trans hk1⟩
          case measure => simp [intOf]; omega
      · have hkn : k = n := by omega
        have HK := Lib.hid hkn
        clear hkn
        go_wp2
        exact fin_ hQ ⟨ret_i (by rw [HS.out, szOut_pos (by have := HK.out; subst this; omega)]; have := HK.out; subst this; omega), hK⟩
end Go.Proofs.Ythdjijhpdgajbaa
