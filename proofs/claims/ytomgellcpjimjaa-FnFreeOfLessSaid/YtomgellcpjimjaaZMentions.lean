/- Mentions of a variable, counted by the reference and by the program. -/
import Derived.Test.YtomgellcpjimjaaZNodes
import Derived.Test.YtomgellcpjimjaaHE
namespace Go.Proofs.Ytomgellcpjimjaa
open Go.RowKit

def one (b : Prop) [Decidable b] : Nat := if b then 1 else 0
theorem mE_mk (v op num : Int) (es : List ExprL) : mE v (.mk op num es) = (if op = 12 ∧ num = v then 1 else 0) + mEs v es := rfl

set_option maxHeartbeats 2000000 in
theorem specMentions_n (x : Int) (N : Nat) : ∀ (op num : Int) (es : List ExprL), nEs es < N → ∀ (a : Option Addr) (n c : Nat) (D : Nat → Prop) (w : World), Rd w D (encExprs es) (.slice a n c) → nEs es + 1 ≤ 30 →
    Calls Try.prog 62 #[.agg #[.int .i64 op, .int .i64 num, .slice a n c], .int .i64 x] w fun e w' => e = .returned (.int .i64 (mE x (.mk op num es) : Int)) ∧ Keep w w' := by
  induction N with
  | zero => intro _ _ es h; omega
  | succ N ihN =>
  intro op num es hN a n c D w h hk
  refine calls_k fun Q hQ => ?_
  obtain ⟨e1, hnc, hm, hat⟩ := exprs_at h
  have HL := Lib.hid e1
  have HA := Lib.hid hat
  have IH := Lib.hid (fun (j : Nat) (hj : j < es.length) => ihN (eAt es j).op (eAt es j).num (eAt es j).kids (by have := nE_le es hj; have := nE_eq (eAt es j); omega))
  clear e1 hat ihN hN
  have K0 := Keep.al w (.cells #[.int .i64 op, .int .i64 num, .slice a n c] 25)
  obtain ⟨m0, hm0, hm1, hmv⟩ : ∃ m0 : Nat, m0 ≤ 1 ∧ (mE x (.mk op num es) = m0 + mEs x es) ∧ (m0 = if op = 12 ∧ num = x then 1 else 0) := ⟨_, by split <;> omega, mE_mk x op num es, rfl⟩
  have HM := Lib.hid hm1
  have hme := mEs_le x es
  clear hm1
  have main : ∀ b0 : Bool, ((op == 12) = b0) → ∀ b1 : Bool, ((num == x) = b1) → Calls Try.prog 62 #[.agg #[.int .i64 op, .int .i64 num, .slice a n c], .int .i64 x] w Q := by
    intro b0 hb0 b1 hb1
    have HMV : Hid (m0 = if b0 && b1 then 1 else 0) := by
      show _ = _
      rw [hmv, ← hb0, ← hb1]
      by_cases q0 : op = 12 <;> by_cases q1 : num = x <;> simp [q0, q1]
    clear hmv
    cases b0 <;> cases b1
    all_goals
      go_enter Try.func62, Try.ntmps62
      go_wp2
      go_loopw [5, 6] (fun nv iv wr => ∃ j : Nat, j ≤ n ∧ iv = .int .i64 j ∧ nv = .int .i64 ((m0 : Int) + (mEs x (es.take j) : Int)) ∧ Keep (w.alloc (.cells #[.int .i64 op, .int .i64 num, .slice a n c] 25)) wr) (fun _ i _ => n - (intOf i).toNat)
      case atStart => exact ⟨0, Nat.zero_le _, rfl, by have hm2 := HMV.out; simp at hm2; rw [hm2]; simp [mEs], Ext.refl _ _⟩
      case round =>
        obtain ⟨j, hj, rfl, rfl, hK⟩ := hrel
        have x2 := boxk hK 2
        simp at x2
        by_cases hlt : j < n
        · have hst := mEs_take x es (j := j) (by have := HL.out; omega)
          have hnl := nE_le es (j := j) (by have := HL.out; omega)
          have hee := nE_eq (eAt es j)
          have htl := mEs_take_le x es j
          have htl2 := mEs_take_le x es (j + 1)
          obtain ⟨b, o, rfl, hd, a2, n2, c2, d0, d1, d2, r2⟩ := HA.out j hlt
          have hKw := K0.trans hK
          have g0 := (hKw.cell (World.block_lt_of_cell? w _ d0) (fun h => h)).trans d0
          have g1 := (hKw.cell (World.block_lt_of_cell? w _ d1) (fun h => h)).trans d1
          have g2 := (hKw.cell (World.block_lt_of_cell? w _ d2) (fun h => h)).trans d2
          have q2 := r2.k hKw
          have hmk : mE x (eAt es j) = mE x (.mk (eAt es j).op (eAt es j).num (eAt es j).kids) := by cases eAt es j; rfl
          rw [hmk] at hst
          generalize hmj : mE x (.mk (eAt es j).op (eAt es j).num (eAt es j).kids) = mj at hst
          have HJM := Lib.hid hmj
          have HS := Lib.hid hst
          have bj : mj ≤ 30 := by omega
          have hkk : nEs (eAt es j).kids + 1 ≤ 30 := by omega
          clear d0 d1 d2 r2 hst hee hmk hmj hnl
          go_wp2_with fail
          refine (IH.out j (by have := HL.out; omega) _ _ _ _ _ q2 hkk).mono ?_
          rw [HJM.out]
          rintro e w1 ⟨rfl, p1⟩
          go_wp2_with fail
          go_roundw
          case rel => exact ⟨j + 1, by omega, by go_num, by rw [HS.out]; congr 1; omega, hK.trans p1⟩
          case measure => simp [intOf]; omega
        · have HJ : Hid (j = n) := by show _ = _; omega
          go_wp2
          exact fin_ hQ ⟨ret_i (by rw [HM.out, HJ.out, List.take_of_length_le (Nat.le_of_eq HL.out)]; omega), K0.trans hK⟩
  exact main _ rfl _ rfl

/-- The number of mentions; -1 if there are too many nodes. -/
def mentL (x op num : Int) (es : List ExprL) : Int := if nEs es + 1 ≤ 30 then (mE x (.mk op num es) : Int) else -1
theorem mentL_yes {x op num : Int} {es : List ExprL} (h : nEs es + 1 ≤ 30) : mentL x op num es = (mE x (.mk op num es) : Int) := if_pos h
theorem mentL_no {x op num : Int} {es : List ExprL} (h : ¬ nEs es + 1 ≤ 30) : mentL x op num es = -1 := if_neg h

set_option maxHeartbeats 1000000 in
theorem specMentionsOf (x op num : Int) (es : List ExprL) (a : Option Addr) (n c : Nat) (D : Nat → Prop) (w : World) (h : Rd w D (encExprs es) (.slice a n c)) :
    Calls Try.prog 26 #[.agg #[.int .i64 op, .int .i64 num, .slice a n c], .int .i64 x] w fun e w' => e = .returned (.int .i64 (mentL x op num es)) ∧ Keep w w' := by
  refine calls_k fun Q hQ => ?_
  have K0 := Keep.al w (.cells #[.int .i64 op, .int .i64 num, .slice a n c] 25)
  by_cases hl : nEs es + 1 ≤ 30
  · have V := Lib.hid (nodesL_yes hl)
    have V2 := Lib.hid (mentL_yes (x := x) (op := op) (num := num) hl)
    generalize hm : nEs es + 1 = m at V
    clear hm
    have bk : Keep (w.alloc (.cells #[.int .i64 op, .int .i64 num, .slice a n c] 25)) (w.alloc (.cells #[.int .i64 op, .int .i64 num, .slice a n c] 25)) := Ext.refl _ _
    go_enter Try.func26, Try.ntmps26
    go_wp2_with fail
    refine (specNodesOf0 _ _ _ _ _ _ _ _ (h.k K0)).mono ?_
    rw [V.out]
    rintro e w1 ⟨rfl, p1⟩
    replace bk := bk.trans p1
    have x0 := boxk bk 0
    have x1 := boxk bk 1
    have x2 := boxk bk 2
    simp at x0 x1 x2
    go_wp2_with fail
    refine (specMentions_n x _ op num es (Nat.lt_succ_self _) _ _ _ _ _ ((h.k K0).k p1) hl).mono ?_
    rw [← V2.out]
    rintro e w2 ⟨rfl, p2⟩
    go_wp2_with fail
    exact fin_ hQ ⟨rfl, (K0.trans bk).trans p2⟩
  · have V := Lib.hid (nodesL_no hl)
    have V2 := Lib.hid (mentL_no (x := x) (op := op) (num := num) hl)
    clear hl
    go_enter Try.func26, Try.ntmps26
    go_wp2_with fail
    refine (specNodesOf0 _ _ _ _ _ _ _ _ (h.k K0)).mono ?_
    rw [V.out]
    rintro e w1 ⟨rfl, p1⟩
    go_wp2_with fail
    exact fin_ hQ ⟨ret_i V2.out.symm, K0.trans p1⟩

def mvis (x : Int) (op num : Int) (s : Nat) : Nat := if op = 12 ∧ num = x then s + 1 else s
theorem mvis_eq (x op num : Int) (s : Nat) : mvis x op num s = s + if op = 12 ∧ num = x then 1 else 0 := by unfold mvis; split <;> rfl
mutual
theorem mvisE (x : Int) : ∀ (e : ExprL) (s : Nat), visE (mvis x) e s = s + mE x e
  | .mk op num ks, s => by rw [visE, mvisEs x ks, mvis_eq, mE]; omega
theorem mvisEs (x : Int) : ∀ (es : List ExprL) (s : Nat), visEs (mvis x) es s = s + mEs x es
  | [], s => rfl
  | k :: ks, s => by rw [visEs, mvisE x k, mvisEs x ks, mEs]; omega
end

/-- What the visits of MentionsOf keep: block p holds the variable, block q the number. -/
def MInv (x : Int) (p q : Nat) (k : Nat) (s : Nat) (w : World) : Prop := w.rowIs p 3 1 (fun _ => .int .i64 x) ∧ w.rowIs q 3 1 (fun _ => .int .i64 (s : Int)) ∧ p ≠ q ∧ s ≤ k

theorem mentClos (x : Int) (p q k s : Nat) (op num : Int) (a : Option Addr) (n c : Nat) (w : World) (hk : k < 30) (h : MInv x p q k s w) :
    Calls Try.prog 61 #[.agg #[.int .i64 op, .int .i64 num, .slice a n c], .pointer (some ⟨p, 0, none⟩), .pointer (some ⟨q, 0, none⟩)] w fun e w' => e = .returned (.tuple #[]) ∧ MInv x p q (k + 1) (mvis x op num s) w' ∧ Ext (· = q) w w' := by
  refine calls_k fun Q hQ => ?_
  obtain ⟨hp, hq, hpq, hs⟩ := h
  have vp := hp.cell (i := 0) (by omega)
  have vq := hq.cell (i := 0) (by omega)
  have fq := hq.frozen 0
  have lp := hp.lt
  have lq := hq.lt
  have HP := Lib.hid hp
  have HQ := Lib.hid hq
  clear hp hq
  have main : ∀ b0 : Bool, ((op == 12) = b0) → ∀ b1 : Bool, ((num == x) = b1) → Calls Try.prog 61 #[.agg #[.int .i64 op, .int .i64 num, .slice a n c], .pointer (some ⟨p, 0, none⟩), .pointer (some ⟨q, 0, none⟩)] w Q := by
    intro b0 hb0 b1 hb1
    have HV : Hid (mvis x op num s = if b0 && b1 then s + 1 else s) := by
      show _ = _
      rw [mvis, ← hb0, ← hb1]
      by_cases q0 : op = 12 <;> by_cases q1 : num = x <;> simp [q0, q1]
    cases b0 <;> cases b1
    case true.true =>
      go_enter Try.func61, Try.ntmps61
      go_wp2
      refine bodyPost_end (v := .tuple #[]) (by simp [results, Try.results61, go_sem]) rfl (fin_ hQ ⟨rfl, ⟨?_, ?_, hpq, ?_⟩, ((Ext.refl (· = q) w).setCell (p := ⟨q, 0, none⟩) (.inr rfl) _).alloc _⟩)
      · exact (HP.out.setOther (a := ⟨q, 0, none⟩) hpq _).alloc _
      · refine ((HQ.out.set 0 _).alloc _).congr (fun i hi => ?_)
        rw [if_pos (by omega), HV.out]
        simp
      · rw [HV.out]; simp; omega
    all_goals
      go_enter Try.func61, Try.ntmps61
      go_wp2
      refine bodyPost_end (v := .tuple #[]) (by simp [results, Try.results61, go_sem]) rfl (fin_ hQ ⟨rfl, ⟨?_, ?_, hpq, ?_⟩, Keep.to (Keep.al _ _)⟩)
      · exact HP.out.alloc _
      · rw [HV.out]; exact HQ.out.alloc _
      · rw [HV.out]; simp; omega
  exact main _ rfl _ rfl

theorem MInv.keep {x : Int} {p q k s : Nat} {w w' : World} (h : MInv x p q k s w) (hk : Keep w w') : MInv x p q k s w' := ⟨row_ext h.1 hk (fun h => h), row_ext h.2.1 hk (fun h => h), h.2.2⟩

set_option maxHeartbeats 1000000 in
theorem implMentionsOf (x op num : Int) (es : List ExprL) (a : Option Addr) (n c : Nat) (D : Nat → Prop) (w : World) (h : Rd w D (encExprs es) (.slice a n c)) :
    Calls Try.prog 25 #[.agg #[.int .i64 op, .int .i64 num, .slice a n c], .int .i64 x] w fun e w' => e = .returned (.int .i64 (mentL x op num es)) ∧ Keep w w' := by
  refine calls_k fun Q hQ => ?_
  have K0 := (Keep.al w (.cells #[.int .i64 op, .int .i64 num, .slice a n c] 25)).trans (Keep.al _ (.cells #[.int .i64 x] 3))
  by_cases hl : nEs es + 1 ≤ 30
  · have V := Lib.hid (nodesL_yes hl)
    have V2 := Lib.hid (mentL_yes (x := x) (op := op) (num := num) hl)
    generalize hm : nEs es + 1 = m at V
    clear hm
    have R0 := (rowOf w #[.int .i64 op, .int .i64 num, .slice a n c] 25).alloc (.cells #[.int .i64 x] 3)
    have R1 := rowOf (w.alloc (.cells #[.int .i64 op, .int .i64 num, .slice a n c] 25)) #[.int .i64 x] 3
    simp only [World.size_alloc] at R1
    go_enter Try.func25, Try.ntmps25
    go_wp2_with fail
    refine (implNodesOf _ _ _ _ _ _ _ _ (h.lt.k K0)).mono ?_
    rw [V.out]
    rintro e w1 ⟨rfl, p1⟩
    replace R0 := (row_ext R0 p1 (fun h => h)).alloc (.cells #[.int .i64 0] 3)
    replace R1 := row_ext R1 p1 (fun h => h)
    have x0 := R0.cell (i := 0) (by simp)
    have x1 := R0.cell (i := 1) (by simp)
    have x2 := R0.cell (i := 2) (by simp)
    simp at x0 x1 x2
    have sz := p1.size
    simp at sz
    have R2 := (rowOf w1 #[.int .i64 0] 3).congr (g := fun _ => .int .i64 ((0 : Nat) : Int)) (fun i hi => by
      obtain rfl : i = 0 := by simpa using hi
      rfl)
    replace R1 := R1.congr (g := fun _ => .int .i64 x) (fun i hi => by
      obtain rfl : i = 0 := by simpa using hi
      rfl)
    have I0 : MInv x (w.heap.size + 1) w1.heap.size 0 0 (w1.alloc (.cells #[.int .i64 0] 3)) := ⟨R1.alloc _, R2, by omega, Nat.le_refl _⟩
    have q2 := ((h.lt.k K0).k p1).k (Keep.al w1 (.cells #[.int .i64 0] 3))
    clear R0 R1 R2
    go_wp2_with fail
    refine (walk_n (mvis x) 61 #[.pointer (some ⟨w.heap.size + 1, 0, none⟩), .pointer (some ⟨w1.heap.size, 0, none⟩)] (· = w1.heap.size) (MInv x (w.heap.size + 1) w1.heap.size) (fun args w => by kernel_rfl) (fun k s w w' h hk => h.keep hk)
      (fun k s op num a n c w hk h => mentClos x _ _ k s op num a n c w hk h) _ op num es (Nat.lt_succ_self _) 0 0 _ _ _ _ _ q2 (fun q hq e => by have := hq.2; omega) (fun q hq => by simp; omega) (by omega) I0).mono ?_
    rintro e w2 ⟨rfl, I2, X2⟩
    have v0 := I2.2.1.cell (i := 0) (by omega)
    rw [show visEs (mvis x) es (mvis x op num 0) = mE x (.mk op num es) from by rw [mvisEs, mvis_eq, mE]; omega, ← V2.out] at v0
    go_wp2_with fail
    exact fin_ hQ ⟨rfl, ((K0.trans p1).trans (Keep.al _ _)).then_ X2 (fun q hq e => by omega)⟩
  · have V := Lib.hid (nodesL_no hl)
    have V2 := Lib.hid (mentL_no (x := x) (op := op) (num := num) hl)
    clear hl
    go_enter Try.func25, Try.ntmps25
    go_wp2_with fail
    refine (implNodesOf _ _ _ _ _ _ _ _ (h.k K0)).mono ?_
    rw [V.out]
    rintro e w1 ⟨rfl, p1⟩
    go_wp2_with fail
    exact fin_ hQ ⟨ret_i V2.out.symm, K0.trans p1⟩
end Go.Proofs.Ytomgellcpjimjaa
