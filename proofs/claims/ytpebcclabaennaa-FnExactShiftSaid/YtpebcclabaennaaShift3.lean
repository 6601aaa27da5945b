/- varsFit of the reference. -/
import Derived.Test.YtpebcclabaennaaShift2
import Derived.Test.YtpebcclabaennaaTypes1
namespace Go.Proofs.Ytpebcclabaennaa
open Go.RowKit

/-- One node's variable is in 0..99. -/
def vfN (op num : Int) : Bool := decide (op ≠ 12) || decide (0 ≤ num ∧ num ≤ 99)
mutual
/-- All variables are in 0..99. -/
def vfE : ExprL → Bool
  | .mk op num ks => vfN op num && vfEs ks
def vfEs : List ExprL → Bool
  | [] => true
  | e :: es => vfE e && vfEs es
end
theorem vfE_eq (e : ExprL) : vfE e = (vfN e.op e.num && vfEs e.kids) := by cases e; rw [vfE]; rfl
theorem vfEs_all (es : List ExprL) : vfEs es = es.all vfE := by induction es <;> simp_all [vfEs]
theorem vfEs_no {es : List ExprL} {j : Nat} (hj : j < es.length) (h : vfE (eAt es j) = false) : vfEs es = false := by
  rw [vfEs_all]
  rw [eAt_get hj] at h
  rw [List.all_eq_false]
  exact ⟨_, List.getElem_mem hj, by simp [h]⟩
theorem vfEs_yes {es : List ExprL} (h : ∀ j, j < es.length → vfE (eAt es j) = true) : vfEs es = true := by
  rw [vfEs_all, List.all_eq_true]
  intro x hx
  obtain ⟨j, hj, rfl⟩ := List.getElem_of_mem hx
  have := h j hj
  rwa [eAt_get hj] at this

set_option maxHeartbeats 1000000 in
theorem specVarsFit_n (N : Nat) : ∀ (op num : Int) (es : List ExprL), nEs es < N → ∀ (a : Option Addr) (n c : Nat) (D : Nat → Prop) (w : World), Rd w D (encExprs es) (.slice a n c) →
    Calls Try.prog 75 #[.agg #[.int .i64 op, .int .i64 num, .slice a n c]] w fun e w' => e = .returned (.bool (vfN op num && vfEs es)) ∧ Keep w w' := by
  induction N with
  | zero => intro _ _ es h; omega
  | succ N ihN =>
  intro op num es hN a n c D w h
  refine calls_k fun Q hQ => ?_
  obtain ⟨e1, hnc, hm, hat⟩ := exprs_at h
  have HL := Lib.hid e1
  have HA := Lib.hid hat
  have IH := Lib.hid (fun (j : Nat) (hj : j < es.length) => ihN (eAt es j).op (eAt es j).num (eAt es j).kids (by have := nE_le es hj; have := nE_eq (eAt es j); omega))
  clear e1 hat ihN hN
  have K0 := Keep.al w (.cells #[.int .i64 op, .int .i64 num, .slice a n c] 29)
  by_cases h1 : op = 12 ∧ ¬ (0 ≤ num ∧ num ≤ 99)
  · obtain ⟨h1, h2⟩ := h1
    have h1' : (op == 12) = true := by simpa using h1
    have V : Hid (decide (0 ≤ num ∧ num ≤ 99) = false) := decide_eq_false h2
    have V0 : Hid (vfN op num = false) := by show _ = _; rw [vfN, V.out]; simp [h1]
    clear h1 h2
    go_enter Try.func75, Try.ntmps75
    go_wp2_with fail
    refine (specInRange _ _ _ _).mono ?_
    rw [V.out]
    rintro e w1 ⟨rfl, rfl⟩
    go_wp2_with fail
    exact fin_ hQ ⟨ret_b (by rw [V0.out]; rfl), K0⟩
  have V0 : Hid (vfN op num = true) := by
    show _ = _
    by_cases h2 : op = 12
    · have : decide (0 ≤ num ∧ num ≤ 99) = true := decide_eq_true (Classical.byContradiction fun h3 => h1 ⟨h2, h3⟩)
      rw [vfN, this]; simp
    · simp [vfN, h2]
  by_cases h2 : op = 12
  all_goals
    first
      | (have h1' : (op == 12) = true := by simpa using h2)
      | (have h1' : (op == 12) = false := by simpa using h2)
    have V : Hid (op = 12 → decide (0 ≤ num ∧ num ≤ 99) = true) := fun h2 => decide_eq_true (Classical.byContradiction fun h3 => h1 ⟨h2, h3⟩)
    have H2 := Lib.hid h2
    clear h1 h2
    go_enter Try.func75, Try.ntmps75
    first
      | (go_wp2_with (go_at_call 74; refine (specInRange _ _ _ _).mono ?_; rw [V.out H2.out]; rintro e w1 ⟨rfl, rfl⟩))
    go_loopw [3] (fun iv wr => ∃ j : Nat, j ≤ n ∧ iv = .int .i64 j ∧ Hid (∀ l, l < j → vfE (eAt es l) = true) ∧ Keep (w.alloc (.cells #[.int .i64 op, .int .i64 num, .slice a n c] 29)) wr) (fun i _ => n - (intOf i).toNat)
    case atStart => exact ⟨0, Nat.zero_le _, rfl, fun j hj => absurd hj (by omega), Ext.refl _ _⟩
    case round =>
      obtain ⟨j, hj, rfl, H, hK⟩ := hrel
      have x2 := boxk hK 2
      simp at x2
      by_cases hlt : j < n
      · obtain ⟨b, o, rfl, hd, a2, n2, c2, d0, d1, d2, r2⟩ := HA.out j hlt
        have hKw := K0.trans hK
        have g0 := (hKw.cell (World.block_lt_of_cell? w _ d0) (fun h => h)).trans d0
        have g1 := (hKw.cell (World.block_lt_of_cell? w _ d1) (fun h => h)).trans d1
        have g2 := (hKw.cell (World.block_lt_of_cell? w _ d2) (fun h => h)).trans d2
        have q2 := r2.k hKw
        have HE := Lib.hid (vfE_eq (eAt es j))
        have hj' := Lib.hid (show j < es.length by have := HL.out; omega)
        clear d0 d1 d2 r2
        cases hv : vfE (eAt es j)
        · have V3 : Hid ((vfN (eAt es j).op (eAt es j).num && vfEs (eAt es j).kids) = false) := by show _ = _; rw [← HE.out]; exact hv
          have V4 := Lib.hid (vfEs_no hj'.out hv)
          clear hv
          go_wp2_with fail
          refine (IH.out j hj'.out _ _ _ _ _ q2).mono ?_
          rw [V3.out]
          rintro e w1 ⟨rfl, p1⟩
          go_wp2_with fail
          exact fin_ hQ ⟨ret_b (by rw [V4.out]; simp), hKw.trans p1⟩
        · have V3 : Hid ((vfN (eAt es j).op (eAt es j).num && vfEs (eAt es j).kids) = true) := by show _ = _; rw [← HE.out]; exact hv
          have V4 := Lib.hid hv
          clear hv
          go_wp2_with fail
          refine (IH.out j hj'.out _ _ _ _ _ q2).mono ?_
          rw [V3.out]
          rintro e w1 ⟨rfl, p1⟩
          go_wp2_with fail
          go_roundw
          case rel => exact ⟨j + 1, by omega, by go_num, fun l hl => by
            rcases Nat.lt_succ_iff_lt_or_eq.1 hl with h | rfl
            · exact H.out l h
            · exact V4.out, hK.trans p1⟩
          case measure => simp [intOf]; omega
      · go_wp2
        exact fin_ hQ ⟨ret_b (by rw [V0.out, vfEs_yes (fun j hj => H.out j (by have := HL.out; omega))]; rfl), K0.trans hK⟩
end Go.Proofs.Ytpebcclabaennaa
