/- The laws' comparisons: integers, constructors, declarations. -/
import Derived.Test.YtomgellcpjimjaaGA
import Derived.StillTailTactics
namespace Go.Proofs.Ytomgellcpjimjaa
open Go.RowKit

theorem ints_eq {xs ys : List Int} {n : Nat} (hx : xs.length = n) (hy : ys.length = n) (h : ∀ i, i < n → iAt xs i = iAt ys i) : xs = ys := by
  refine List.ext_getElem (by omega) fun i h1 h2 => ?_
  rw [← iAt_eq h1, ← iAt_eq h2]
  exact h i (by omega)
theorem cons_eq {xs ys : List (List Int)} {n : Nat} (hx : xs.length = n) (hy : ys.length = n) (h : ∀ i, i < n → cAt xs i = cAt ys i) : xs = ys := by
  refine List.ext_getElem (by omega) fun i h1 h2 => ?_
  rw [← cAt_eq h1, ← cAt_eq h2]
  exact h i (by omega)
theorem decls_eq {xs ys : List DeclL} {n : Nat} (hx : xs.length = n) (hy : ys.length = n) (h : ∀ i, i < n → dAt xs i = dAt ys i) : xs = ys := by
  refine List.ext_getElem (by omega) fun i h1 h2 => ?_
  rw [← dAt_eq h1, ← dAt_eq h2]
  exact h i (by omega)
set_option maxHeartbeats 400000 in
theorem equalInts_law (a : Option Addr) (n c : Nat) (a' : Option Addr) (m c' : Nat) (xs ys : List Int) (D D' : Nat → Prop) (w : World) (h : IntsL w D a n xs) (h' : IntsL w D' a' m ys) (hn : n ≤ 1099511627776) :
    Calls Try.prog 37 #[.slice a n c, .slice a' m c'] w fun e w' => e = .returned (.bool (decide (xs = ys))) ∧ Keep w w' := by
  refine calls_k fun Q hQ => ?_
  have HX := Lib.hid h.1
  have HY := Lib.hid h'.1
  by_cases hnm : n = m
  · subst hnm
    go_enter Try.func37, Try.ntmps37
    go_wp2
    go_loopw [5] (fun i wr => ∃ k : Nat, k ≤ n ∧ i = .int .i64 k ∧ Hid (∀ j, j < k → iAt xs j = iAt ys j) ∧ Keep w wr) (fun i _ => n - (intOf i).toNat)
    case atStart => exact ⟨0, Nat.zero_le _, rfl, fun j hj => absurd hj (by omega), Ext.refl _ _⟩
    case round =>
      obtain ⟨k, hk, rfl, H, hK⟩ := hrel
      by_cases hlt : k < n
      · obtain ⟨b, o, rfl, hd, hc⟩ := (h.ext hK (fun _ _ h => h)).2 (by omega)
        obtain ⟨b', o', rfl, hd', hc'⟩ := (h'.ext hK (fun _ _ h => h)).2 (by omega)
        have c0 := hc k hlt
        have c1 := hc' k hlt
        clear hc hc' h h'
        cases hv : (iAt xs k != iAt ys k)
        · have V : Hid (iAt xs k = iAt ys k) := by show _ = _; simpa using hv
          go_wp2
          go_quiet (fail)
          go_wp2
          go_roundw
          case rel => exact ⟨k + 1, by omega, by go_num, fun j hj => by
            rcases Nat.lt_succ_iff_lt_or_eq.1 hj with h | rfl
            · exact H.out j h
            · exact V.out, hK.drewN nq⟩
          case measure => simp [intOf]; omega
        · have V : Hid (iAt xs k ≠ iAt ys k) := by show _ ≠ _; simpa using hv
          go_wp2
          go_quiet (fail)
          go_wp2
          exact fin_ hQ ⟨ret_b (decide_eq_false (fun e => V.out (by rw [e]))).symm, hK.drewN nq⟩
      · go_wp2
        exact fin_ hQ ⟨ret_b (decide_eq_true (ints_eq HX.out HY.out (fun i hi => H.out i (by omega)))).symm, hK⟩
  · have hne : ((n : Int) != (m : Int)) = true := by simp; omega
    go_enter Try.func37, Try.ntmps37
    go_wp2
    exact fin_ hQ ⟨ret_b (decide_eq_false (fun e => hnm (by rw [← HX.out, ← HY.out, e]))).symm, Ext.refl _ _⟩

end Go.Proofs.Ytomgellcpjimjaa
