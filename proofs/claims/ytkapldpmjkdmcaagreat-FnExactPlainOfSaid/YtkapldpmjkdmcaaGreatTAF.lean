/- The reference's types of steps: Into, Num, counting steps, lent parameters. -/
import Derived.Test.YtkapldpmjkdmcaaGreatTAE
import Derived.Test.YtkapldpmjkdmcaaGreatTAC
import Derived.Test.YtkapldpmjkdmcaaGreatTAA
import Derived.Deep.RegionHeld3
import Derived.Maps.RangeWalk
import Derived.Test.YtkapldpmjkdmcaaGreatTAB
namespace Go.Proofs.YtkapldpmjkdmcaaGreat
open Go.RowKit

theorem specHasNum (op : Int) (w : World) : Calls Tryz.prog 181 #[.int .i64 op] w fun e w' => e = .returned (.bool (decide (op = 0 ∨ op = 6 ∨ op = 8 ∨ op = 9 ∨ op = 10))) ∧ w = w' := by
  refine calls_k fun Q hQ => ?_
  by_cases h : op = 0 ∨ op = 6 ∨ op = 8 ∨ op = 9 ∨ op = 10
  · have V := Lib.hid (decide_eq_true h)
    rcases h with rfl | rfl | rfl | rfl | rfl
    all_goals
      go_enter Tryz.func181, Tryz.ntmps181
      go_wp2_with fail
      exact fin_ hQ ⟨ret_b V.out.symm, rfl⟩
  · have V := Lib.hid (decide_eq_false h)
    have o0 : (op == 0) = false := by simp; omega
    have o6 : (op == 6) = false := by simp; omega
    have o8 : (op == 8) = false := by simp; omega
    have o9 : (op == 9) = false := by simp; omega
    have o10 : (op == 10) = false := by simp; omega
    clear h
    go_enter Tryz.func181, Tryz.ntmps181
    go_wp2_with fail
    exact fin_ hQ ⟨ret_b V.out.symm, rfl⟩

theorem specDefines (op : Int) (w : World) : Calls Tryz.prog 130 #[.int .i64 op] w fun e w' => e = .returned (.bool (decide (0 ≤ op ∧ op ≤ 11))) ∧ w = w' := by
  refine calls_k fun Q hQ => ?_
  go_enter Tryz.func130, Tryz.ntmps130
  go_wp2_with fail
  refine (specInRange _ _ _ _).mono ?_
  rintro e w1 ⟨rfl, rfl⟩
  go_wp2_with fail
  exact fin_ hQ ⟨ret_b (Bool.decide_and _ _).symm, rfl⟩

set_option maxRecDepth 100000 in
set_option maxHeartbeats 1000000 in
theorem specValidInto (av : Option Addr) (nv cv : Nat) (sc : List Int) (op num into : Int) (aa : Option Addr) (na ca : Nat) (ak : Option Addr) (nk ck : Nat) (D : Nat → Prop) (w : World) (hv : IntsL w D av nv sc) (hnv : nv ≤ 4000000) :
    Calls Tryz.prog 182 #[.slice av nv cv, .agg #[.int .i64 op, .int .i64 num, .int .i64 into, .slice aa na ca, .slice ak nk ck]] w fun e w' => e = .returned (.bool (intoOk sc op into)) ∧ Keep w w' := by
  refine calls_k fun Q hQ => ?_
  have K0 := Keep.al w (.cells #[.int .i64 op, .int .i64 num, .int .i64 into, .slice aa na ca, .slice ak nk ck] 136)
  have HV := Lib.hid hv
  have HLV := Lib.hid hv.1
  clear hv
  by_cases h0 : into = 0
  · subst h0
    have V : Hid (intoOk sc op 0 = true) := by simp [Hid, intoOk]
    go_enter Tryz.func182, Tryz.ntmps182
    go_wp2_with fail
    exact fin_ hQ ⟨ret_b V.out.symm, K0⟩
  have h0' : (into == 0) = false := by simpa using h0
  by_cases h6 : op = 6
  case neg =>
    have h6' : (op == 6) = false := by simpa using h6
    have V : Hid (intoOk sc op into = false) := decide_eq_false (by omega)
    clear h6 h0
    go_enter Tryz.func182, Tryz.ntmps182
    go_wp2_with fail
    exact fin_ hQ ⟨ret_b V.out.symm, K0⟩
  subst h6
  by_cases hr : 1 ≤ into ∧ into ≤ (nv : Int)
  case neg =>
    have V : Hid (intoOk sc 6 into = false) := decide_eq_false (by have := HLV.out; omega)
    have HD := Lib.hid (decide_eq_false hr)
    clear h0 hr
    go_enter Tryz.func182, Tryz.ntmps182
    go_wp2_with fail
    refine (specInRange _ _ _ _).mono ?_
    rw [HD.out]
    rintro e w1 ⟨rfl, rfl⟩
    go_wp2_with fail
    exact fin_ hQ ⟨ret_b V.out.symm, K0⟩
  have HD := Lib.hid (decide_eq_true hr)
  obtain ⟨k, rfl⟩ : ∃ k : Nat, into = (k : Int) + 1 := ⟨(into - 1).toNat, by omega⟩
  have hk : k < nv := by omega
  have hk2 : (k : Int) < (nv : Int) := by omega
  obtain ⟨b, o, rfl, _, d0⟩ := HV.out.at hk
  have g0 := (K0.cell (World.block_lt_of_cell? w _ d0) (fun h => h)).trans d0
  generalize hx : iAt sc k = x at g0 d0
  have HX := Lib.hid hx
  have hw1 : IntKind.i64.wrap (k : Int) = (k : Int) := by rw [IntWalk.i64_in _ (by omega)]
  clear d0 hx h0 hr
  have V : Hid (intoOk sc 6 ((k : Int) + 1) = decide (0 < x)) := by
    show _ = _
    rw [intoOk]
    rw [decide_eq_decide]
    rw [show ((k : Int) + 1).toNat - 1 = k from by omega, HX.out]
    have := HLV.out
    constructor
    · rintro (h | ⟨_, _, _, h⟩)
      · omega
      · exact h
    · intro h
      exact .inr ⟨rfl, by omega, by omega, h⟩
  go_enter Tryz.func182, Tryz.ntmps182
  go_wp2_with fail
  refine (specInRange _ _ _ _).mono ?_
  rw [HD.out]
  rintro e w1 ⟨rfl, rfl⟩
  go_wp2_with fail
  exact fin_ hQ ⟨ret_b (by rw [V.out]), K0⟩

/-- The type of a counting step whose Num is 0. -/
def cntS (ds : List DeclL) (sc : List Int) (op : Int) (args : List Int) : Int := if argsIn sc args = true then cntL ds op 0 (tysOf sc args) else -1

set_option maxRecDepth 100000 in
set_option maxHeartbeats 2000000 in
theorem specCountingType (ds : List DeclL) (a0 : Option Addr) (n0 c0 : Nat) (a1 : Option Addr) (n1 c1 : Nat) (av : Option Addr) (nv cv : Nat) (sc : List Int) (op num into : Int) (aa : Option Addr) (na ca : Nat) (args : List Int) (ak : Option Addr) (nk ck : Nat) (D0 D D1 : Nat → Prop) (w : World) (hd : Rd w D0 (encDecls ds) (.slice a0 n0 c0)) (hn0 : n0 ≤ 4) (hv : IntsL w D av nv sc) (hnv : nv ≤ 4000000) (ha : IntsL w D1 aa na args) :
    Calls Tryz.prog 186 #[.agg #[.slice a0 n0 c0, .slice a1 n1 c1], .slice av nv cv, .agg #[.int .i64 op, .int .i64 num, .int .i64 into, .slice aa na ca, .slice ak nk ck]] w fun e w' => e = .returned (.int .i64 (cntS ds sc op args)) ∧ Keep w w' := by
  refine calls_k fun Q hQ => ?_
  have K0 := (Keep.al w (.cells #[.slice a0 n0 c0, .slice a1 n1 c1] 30)).trans (Keep.al _ (.cells #[.int .i64 op, .int .i64 num, .int .i64 into, .slice aa na ca, .slice ak nk ck] 136))
  have qd := Lib.hid (hd.k K0)
  have HV := Lib.hid hv
  have HLV := Lib.hid hv.1
  have HA := Lib.hid ha
  have HLA := Lib.hid ha.1
  clear hv ha hd
  by_cases h1 : na = 1
  case neg =>
    have h1' : ((na : Int) != 1) = true := by simp; omega
    have V : Hid (cntS ds sc op args = -1) := by
      show _ = _
      rw [cntS]
      split
      · rw [cntL, if_neg (fun h => h1 (by have := h.2.1; rw [tysOf_len] at this; have := HLA.out; omega))]
      · rfl
    clear h1
    go_enter Tryz.func186, Tryz.ntmps186
    go_wp2_with fail
    exact fin_ hQ ⟨ret_i V.out.symm, K0⟩
  subst h1
  have HJ : Hid (0 < args.length) := by have := HLA.out; show _ < _; omega
  obtain ⟨b, o, rfl, _, d0⟩ := HA.out.at (i := 0) (by omega)
  rw [Nat.add_zero] at d0
  have g0 := (K0.cell (World.block_lt_of_cell? w _ d0) (fun h => h)).trans d0
  generalize hv : iAt args 0 = v at g0 d0
  have HVV := Lib.hid hv
  clear d0 hv
  by_cases hr : 0 ≤ v ∧ v < (nv : Int)
  case neg =>
    have V : Hid (cntS ds sc op args = -1) := by
      show _ = _
      rw [cntS, argsIn_neg HJ.out (by rw [HVV.out]; have := HLV.out; omega)]
      rfl
    have HD := Lib.hid (decide_eq_false (p := 0 ≤ v ∧ v ≤ (nv : Int) - 1) (fun h => hr (by omega)))
    clear hr
    go_enter Tryz.func186, Tryz.ntmps186
    go_wp2_with fail
    refine (specInRange _ _ _ _).mono ?_
    rw [HD.out]
    rintro e w1 ⟨rfl, rfl⟩
    go_wp2_with fail
    exact fin_ hQ ⟨ret_i V.out.symm, K0⟩
  obtain ⟨k, rfl⟩ : ∃ k : Nat, v = (k : Int) := ⟨v.toNat, by omega⟩
  have hk : k < nv := by omega
  have HAI : Hid (argsIn sc args = true) := argsIn_iff.2 (fun i hi => by
    obtain rfl : i = 0 := by have := HLA.out; omega
    rw [HVV.out]; have := HLV.out; omega)
  obtain ⟨b2, o2, rfl, _, d2⟩ := HV.out.at hk
  have g2 := (K0.cell (World.block_lt_of_cell? w _ d2) (fun h => h)).trans d2
  generalize hx : iAt sc k = x at g2 d2
  have HX := Lib.hid hx
  have HT0 : Hid (iAt (tysOf sc args) 0 = x) := by
    show _ = _
    rw [tysOf_at HJ.out, HVV.out]; exact HX.out
  have HTL : Hid ((tysOf sc args).length = 1) := by show _ = _; rw [tysOf_len]; exact HLA.out
  have HD := Lib.hid (decide_eq_true (p := 0 ≤ (k : Int) ∧ (k : Int) ≤ (nv : Int) - 1) (by omega))
  clear d2 hx hr
  by_cases hx0 : x = 0
  · subst hx0
    have V : Hid (cntS ds sc op args = -1) := by
      show _ = _
      rw [cntS, if_pos HAI.out, cntL, if_neg (fun h => h.2.2.1 HT0.out)]
    go_enter Tryz.func186, Tryz.ntmps186
    go_wp2_with fail
    refine (specInRange _ _ _ _).mono ?_
    rw [HD.out]
    rintro e w1 ⟨rfl, rfl⟩
    go_wp2_with fail
    exact fin_ hQ ⟨ret_i V.out.symm, K0⟩
  have hx0' : (x == 0) = false := by simpa using hx0
  have HX0 := Lib.hid hx0
  clear hx0
  by_cases h14 : op = 14 ∨ op = 15
  · have V : Hid (cntS ds sc op args = 0) := by
      show _ = _
      rw [cntS, if_pos HAI.out, cntL, if_pos ⟨rfl, HTL.out, by rw [HT0.out]; exact HX0.out, h14.elim .inl (fun h => .inr (.inl h))⟩]
    rcases h14 with rfl | rfl
    all_goals
      go_enter Tryz.func186, Tryz.ntmps186
      go_wp2_with fail
      refine (specInRange _ _ _ _).mono ?_
      rw [HD.out]
      rintro e w1 ⟨rfl, rfl⟩
      go_wp2_with fail
      go_quiet (fail)
      go_wp2_with fail
      exact fin_ hQ ⟨ret_i V.out.symm, by first | exact K0.drew | exact K0.drewN _⟩
  have o14 : (op != 14) = true := by simp; omega
  have o15 : (op != 15) = true := by simp; omega
  cases harr : isArr ds x
  · have V : Hid (cntS ds sc op args = 0) := by
      show _ = _
      rw [cntS, if_pos HAI.out, cntL, if_pos ⟨rfl, HTL.out, by rw [HT0.out]; exact HX0.out, .inr (.inr (by rw [HT0.out]; exact harr))⟩]
    have HR := Lib.hid harr
    clear h14 harr
    go_enter Tryz.func186, Tryz.ntmps186
    go_wp2_with fail
    refine (specInRange _ _ _ _).mono ?_
    rw [HD.out]
    rintro e w1 ⟨rfl, rfl⟩
    go_wp2_with fail
    go_quiet ((go_at_call 152; exact Calls.quiet_of_same ((specIsArrow _ _ _ ds _ _ _ ((Rd.toDecls qd.out).drewN _) (by omega)).mono fun _ _ q => ⟨q.1.trans (by rw [HR.out]), q.2.symm⟩)))
    go_wp2_with fail
    exact fin_ hQ ⟨ret_i V.out.symm, by first | exact K0.drew | exact K0.drewN _⟩
  · have V : Hid (cntS ds sc op args = -1) := by
      show _ = _
      rw [cntS, if_pos HAI.out, cntL, if_neg (fun h => by
        rcases h.2.2.2 with h | h | h
        · exact h14 (.inl h)
        · exact h14 (.inr h)
        · rw [HT0.out, harr] at h; exact absurd h (by simp))]
    have HR := Lib.hid harr
    clear h14 harr
    go_enter Tryz.func186, Tryz.ntmps186
    go_wp2_with fail
    refine (specInRange _ _ _ _).mono ?_
    rw [HD.out]
    rintro e w1 ⟨rfl, rfl⟩
    go_wp2_with fail
    go_quiet ((go_at_call 152; exact Calls.quiet_of_same ((specIsArrow _ _ _ ds _ _ _ ((Rd.toDecls qd.out).drewN _) (by omega)).mono fun _ _ q => ⟨q.1.trans (by rw [HR.out]), q.2.symm⟩)))
    go_wp2_with fail
    exact fin_ hQ ⟨ret_i V.out.symm, by first | exact K0.drew | exact K0.drewN _⟩
end Go.Proofs.YtkapldpmjkdmcaaGreat
/- validSigs of the program. -/
namespace Go.Proofs.YtkapldpmjkdmcaaGreat
open Go.RowKit

theorem lentAt_neg {s : SigL} {k : Nat} (h : iAt s.lent k < 0) : lentAt s k = false := by
  have e : decide (0 ≤ iAt s.lent k) = false := decide_eq_false (by omega)
  simp only [lentAt, e, Bool.false_and]
theorem lentAt_big {s : SigL} {k : Nat} (h : (s.params.length : Int) ≤ iAt s.lent k) : lentAt s k = false := by
  have e : decide (iAt s.lent k < (s.params.length : Int)) = false := decide_eq_false (by omega)
  simp only [lentAt, e, Bool.false_and, Bool.and_false]
theorem lentAt_int {s : SigL} {k v : Nat} (hv : iAt s.lent k = (v : Int)) (h : iAt s.params v = 0) : lentAt s k = false := by
  have e : decide (iAt s.params (iAt s.lent k).toNat ≠ 0) = false := decide_eq_false (by rw [hv, Int.toNat_natCast]; simpa using h)
  simp only [lentAt, e, Bool.false_and, Bool.and_false]
theorem lentAt_order {s : SigL} {k : Nat} (hk : 0 < k) (h : iAt s.lent k ≤ iAt s.lent (k - 1)) : lentAt s k = false := by
  have e : (decide (k = 0) || decide (iAt s.lent (k - 1) < iAt s.lent k)) = false := by simp; omega
  simp only [lentAt, e, Bool.and_false]
theorem lentAt_yes {s : SigL} {k v : Nat} (hv : iAt s.lent k = (v : Int)) (h1 : v < s.params.length) (h2 : iAt s.params v ≠ 0) (h3 : k = 0 ∨ iAt s.lent (k - 1) < iAt s.lent k) : lentAt s k = true := by
  have e : (decide (k = 0) || decide (iAt s.lent (k - 1) < iAt s.lent k)) = true := by simpa using h3
  have e1 : decide (0 ≤ iAt s.lent k) = true := decide_eq_true (by omega)
  have e2 : decide (iAt s.lent k < (s.params.length : Int)) = true := decide_eq_true (by omega)
  have e3 : decide (iAt s.params (iAt s.lent k).toNat ≠ 0) = true := decide_eq_true (by rw [hv, Int.toNat_natCast]; exact h2)
  simp only [lentAt, e, e1, e2, e3, Bool.and_self]

set_option maxRecDepth 100000 in
set_option maxHeartbeats 4000000 in
theorem implValidSigs0 (ds : List DeclL) (sg : List SigL) (a0 : Option Addr) (n0 c0 : Nat) (a1 : Option Addr) (n1 c1 : Nat) (D0 D1 : Nat → Prop) (w : World) (r0 : Rd w D0 (encDecls ds) (.slice a0 n0 c0)) (r1 : Rd w D1 (encSigs sg) (.slice a1 n1 c1)) :
    Calls Tryz.prog 114 #[.slice a0 n0 c0, .slice a1 n1 c1] w fun e w' => e = .returned (.bool (sigsOk ds sg)) ∧ Keep w w' := by
  refine calls_k fun Q hQ => ?_
  have hd0 := Lib.hid (r0.toDecls.1)
  have hnc0 := (decls_at r0).2.1
  obtain ⟨e1, hnc, hm, hat⟩ := sigs_at r1
  have HL := Lib.hid e1
  have HA := Lib.hid hat
  clear e1 hat
  cases v1 : typesOk ds
  · have V := Lib.hid (sigsOk_types (sg := sg) v1)
    have V1 := Lib.hid v1
    clear v1
    go_enter Tryz.func114, Tryz.ntmps114
    go_wp2_with fail
    refine (implValidTypes _ _ _ _ _ _ r0.toDecls hnc0).mono ?_
    rw [V1.out]
    rintro e w1 ⟨rfl, p1⟩
    go_wp2_with fail
    exact fin_ hQ ⟨ret_b V.out.symm, p1⟩
  have V1 := Lib.hid v1
  clear v1
  by_cases hl1 : 1 ≤ n1
  case neg =>
    have V := Lib.hid (sigsOk_len (ds := ds) (sg := sg) (by have := HL.out; omega))
    go_enter Tryz.func114, Tryz.ntmps114
    go_wp2_with fail
    refine (implValidTypes _ _ _ _ _ _ r0.toDecls hnc0).mono ?_
    rw [V1.out]
    rintro e w1 ⟨rfl, p1⟩
    go_wp2_with fail
    exact fin_ hQ ⟨ret_b V.out.symm, p1⟩
  by_cases hl4 : n1 ≤ 4
  case neg =>
    have V := Lib.hid (sigsOk_len (ds := ds) (sg := sg) (by have := HL.out; omega))
    go_enter Tryz.func114, Tryz.ntmps114
    go_wp2_with fail
    refine (implValidTypes _ _ _ _ _ _ r0.toDecls hnc0).mono ?_
    rw [V1.out]
    rintro e w1 ⟨rfl, p1⟩
    go_wp2_with fail
    exact fin_ hQ ⟨ret_b V.out.symm, p1⟩
  obtain ⟨b, o, rfl, hd, a3, n3, c3, a4, n4, c4, d0, d1, d2, r3, r4⟩ := HA.out 0 (by omega)
  rw [Nat.zero_mul, Nat.add_zero] at d0 d1 d2
  have hP0 := Lib.hid r3.toInts.1
  clear r3 r4 d1
  by_cases h0 : n3 = 0
  case neg =>
    have V := Lib.hid (sigsOk_first (ds := ds) (sg := sg) (fun h => h0 (by have := h.1; have := hP0.out; omega)))
    go_enter Tryz.func114, Tryz.ntmps114
    go_wp2_with fail
    refine (implValidTypes _ _ _ _ _ _ r0.toDecls hnc0).mono ?_
    rw [V1.out]
    rintro e w1 ⟨rfl, p1⟩
    have g0 := (p1.cell (World.block_lt_of_cell? w _ d0) (fun h => h)).trans d0
    have g2 := (p1.cell (World.block_lt_of_cell? w _ d2) (fun h => h)).trans d2
    go_wp2_with fail
    exact fin_ hQ ⟨ret_b V.out.symm, p1⟩
  by_cases h5 : (sgAt sg 0).result = 0
  case neg =>
    have V := Lib.hid (sigsOk_first (ds := ds) (sg := sg) (fun h => h5 h.2))
    have h5' : ((sgAt sg 0).result != 0) = true := by simpa using h5
    subst h0
    go_enter Tryz.func114, Tryz.ntmps114
    go_wp2_with fail
    refine (implValidTypes _ _ _ _ _ _ r0.toDecls hnc0).mono ?_
    rw [V1.out]
    rintro e w1 ⟨rfl, p1⟩
    have g0 := (p1.cell (World.block_lt_of_cell? w _ d0) (fun h => h)).trans d0
    have g2 := (p1.cell (World.block_lt_of_cell? w _ d2) (fun h => h)).trans d2
    go_wp2_with fail
    exact fin_ hQ ⟨ret_b V.out.symm, p1⟩
  have V5 := Lib.hid h5
  subst h0
  rw [h5] at d2
  clear h5
  go_enter Tryz.func114, Tryz.ntmps114
  go_wp2_with fail
  refine (implValidTypes _ _ _ _ _ _ r0.toDecls hnc0).mono ?_
  rw [V1.out]
  rintro e w1 ⟨rfl, p1⟩
  have g0 := (p1.cell (World.block_lt_of_cell? w _ d0) (fun h => h)).trans d0
  have g2 := (p1.cell (World.block_lt_of_cell? w _ d2) (fun h => h)).trans d2
  go_wp2_with fail
  clear g0 g2 d0 d2
  go_loopw [39] (fun iv wr => ∃ j : Nat, j ≤ n1 ∧ iv = .int .i64 j ∧ Hid (∀ l, l < j → sigOk n0 (sgAt sg l) = true) ∧ Keep w wr) (fun i _ => n1 - (intOf i).toNat)
  case atStart => exact ⟨0, Nat.zero_le _, rfl, fun j hj => absurd hj (by omega), p1⟩
  case round =>
    obtain ⟨wo, rfl⟩ : ∃ wo : World, wo = wr := ⟨_, rfl⟩
    obtain ⟨j, hj, rfl, H, hK⟩ := hrel
    by_cases hlt : j < n1
    · obtain ⟨_, _, e, hd, a3, n3, c3, a4, n4, c4, d0, d1, d2, r3, r4⟩ := HA.out j hlt
      injection e with e
      injection e with e1 e2
      subst e1
      subst e2
      have g0 := (hK.cell (World.block_lt_of_cell? w _ d0) (fun h => h)).trans d0
      have g1 := (hK.cell (World.block_lt_of_cell? w _ d1) (fun h => h)).trans d1
      have g2 := (hK.cell (World.block_lt_of_cell? w _ d2) (fun h => h)).trans d2
      have hP := Lib.hid r3.toInts.1
      have ka := Keep.al wo (.cells #[.slice a3 n3 c3, .slice a4 n4 c4, .int .i64 (sgAt sg j).result] 164)
      have q3 := Lib.hid (((r3.k hK).k ka))
      have q4 := Lib.hid (((r4.k hK).k ka))
      have hKa := Lib.hid (hK.trans ka)
      have hj' := Lib.hid (show j < sg.length by have := HL.out; omega)
      clear d0 d1 d2 r3 r4 ka
      by_cases h3 : n3 ≤ 3
      case neg =>
        have V := Lib.hid (sigsOk_at (ds := ds) hd0.out hj'.out (sigOk_len (n := n0) (by have := hP.out; omega)))
        go_wp2_with fail
        exact fin_ hQ ⟨ret_b V.out.symm, hKa.out⟩
      cases v3 : allT n0 (sgAt sg j).params
      · have V := Lib.hid (sigsOk_at (ds := ds) hd0.out hj'.out (sigOk_params v3))
        have V3 := Lib.hid v3
        clear v3
        go_wp2_with fail
        refine (implAllTypes _ _ _ _ _ _ _ _ _ q3.out.toInts (by omega)).mono ?_
        rw [V3.out]
        rintro e w2 ⟨rfl, rfl⟩
        go_wp2_with fail
        exact fin_ hQ ⟨ret_b V.out.symm, hKa.out⟩
      have V3 := Lib.hid v3
      clear v3
      cases v4 : isT n0 (sgAt sg j).result
      · have V := Lib.hid (sigsOk_at (ds := ds) hd0.out hj'.out (sigOk_result v4))
        have V4 := Lib.hid v4
        clear v4
        go_wp2_with fail
        refine (implAllTypes _ _ _ _ _ _ _ _ _ q3.out.toInts (by omega)).mono ?_
        rw [V3.out]
        rintro e w2 ⟨rfl, rfl⟩
        go_wp2_with fail
        refine (implIsType_no _ _ _ _ _ V4.out).mono ?_
        rintro e w2 ⟨rfl, rfl⟩
        go_wp2_with fail
        exact fin_ hQ ⟨ret_b V.out.symm, hKa.out⟩
      have V4 := Lib.hid v4
      clear v4
      go_wp2_with fail
      refine (implAllTypes _ _ _ _ _ _ _ _ _ q3.out.toInts (by omega)).mono ?_
      rw [V3.out]
      rintro e w2 ⟨rfl, rfl⟩
      go_wp2_with fail
      refine (implIsType_yes _ _ _ _ _ V4.out).mono ?_
      rintro e w2 ⟨rfl, rfl⟩
      go_wp2_with fail
      clear g0 g1 g2
      obtain ⟨eP, _, _, hatP⟩ := ints_at q3.out
      obtain ⟨eL, _, hmL, hatL⟩ := ints_at q4.out
      have HP := Lib.hid hatP
      have HLn := Lib.hid hatL
      have EL := Lib.hid eL
      clear eP eL hatP hatL
      go_loopw [64] (fun iv wr => ∃ k : Nat, k ≤ n4 ∧ iv = .int .i64 k ∧ Hid (∀ l, l < k → lentAt (sgAt sg j) l = true) ∧ Keep (wo.alloc (.cells #[.slice a3 n3 c3, .slice a4 n4 c4, .int .i64 (sgAt sg j).result] 164)) wr) (fun i _ => n4 - (intOf i).toNat)
      case atStart => exact ⟨0, Nat.zero_le _, rfl, fun j hj => absurd hj (by omega), Ext.refl _ _⟩
      case round =>
        obtain ⟨wi, rfl⟩ : ∃ wi : World, wi = wr := ⟨_, rfl⟩
        obtain ⟨k, hk, rfl, H2, hK2⟩ := hrel
        have y0 := boxk hK2 0
        have y1 := boxk hK2 1
        simp only [List.getElem?_toArray, List.getElem?_cons_zero, List.getElem?_cons_succ] at y0 y1
        by_cases hltk : k < n4
        · obtain ⟨b4, o4, rfl, _, f0⟩ := HLn.out k hltk
          have t0 := (hK2.cell (World.block_lt_of_cell? _ _ f0) (fun h => h)).trans f0
          clear f0
          have hk' := Lib.hid (show k < (sgAt sg j).lent.length by have := EL.out; omega)
          by_cases c1 : iAt (sgAt sg j).lent k < 0
          · have V := Lib.hid (sigsOk_at (ds := ds) hd0.out hj'.out (sigOk_lent hk'.out (lentAt_neg c1)))
            go_wp2_with fail
            exact fin_ hQ ⟨ret_b V.out.symm, hKa.out.trans hK2⟩
          by_cases c2 : (n3 : Int) ≤ iAt (sgAt sg j).lent k
          · have V := Lib.hid (sigsOk_at (ds := ds) hd0.out hj'.out (sigOk_lent hk'.out (lentAt_big (by have := hP.out; omega))))
            go_wp2_with fail
            exact fin_ hQ ⟨ret_b V.out.symm, hKa.out.trans hK2⟩
          obtain ⟨v, hv⟩ : ∃ v : Nat, iAt (sgAt sg j).lent k = (v : Int) := ⟨(iAt (sgAt sg j).lent k).toNat, by omega⟩
          rw [hv] at t0 c1 c2
          have hv3 : v < n3 := by omega
          have HV := Lib.hid hv
          obtain ⟨b3, o3, rfl, _, f3⟩ := HP.out v hv3
          have t3 := (hK2.cell (World.block_lt_of_cell? _ _ f3) (fun h => h)).trans f3
          clear f3 c1 c2 hv
          by_cases c3 : iAt (sgAt sg j).params v = 0
          · have V := Lib.hid (sigsOk_at (ds := ds) hd0.out hj'.out (sigOk_lent hk'.out (lentAt_int HV.out c3)))
            rw [c3] at t3
            clear c3
            go_wp2_with fail
            exact fin_ hQ ⟨ret_b V.out.symm, hKa.out.trans hK2⟩
          have c3' : (iAt (sgAt sg j).params v == 0) = false := by simpa using c3
          by_cases c4 : k = 0
          · have V := Lib.hid (lentAt_yes HV.out (by have := hP.out; omega) c3 (.inl c4))
            have HK0 := Lib.hid c4
            have c4' : ¬ (0 : Int) < (k : Int) := by omega
            clear c3 c4
            go_wp2_with fail
            go_roundw
            case rel => exact ⟨k + 1, by omega, by go_num, fun l hl => by
              obtain rfl : l = k := by have := HK0.out; omega
              exact V.out, hK2⟩
            case measure => simp [intOf]; omega
          obtain ⟨k, rfl⟩ : ∃ m, k = m + 1 := ⟨k - 1, by omega⟩
          obtain ⟨_, _, e, _, f5⟩ := HLn.out k (by omega)
          injection e with e
          injection e with e1 e2
          subst e1
          subst e2
          have t5 := (hK2.cell (World.block_lt_of_cell? _ _ f5) (fun h => h)).trans f5
          clear f5 c4
          have wr1 : IntKind.i64.wrap (((k + 1 : Nat) : Int) - 1) = (k : Int) := by
            have : ((k + 1 : Nat) : Int) - 1 = (k : Int) := by omega
            rw [this]
            exact IntWalk.i64_in _ (by omega)
          have wr2 : IntKind.i64.wrap ((k : Int) + 1 - 1) = (k : Int) := by rw [show (k : Int) + 1 - 1 = (k : Int) by omega]; exact IntWalk.i64_in _ (by omega)
          by_cases c5 : (v : Int) ≤ iAt (sgAt sg j).lent k
          · have V := Lib.hid (sigsOk_at (ds := ds) hd0.out hj'.out (sigOk_lent hk'.out (lentAt_order (Nat.succ_pos k) (by rw [HV.out]; exact c5))))
            clear c3
            go_wp2_with fail
            exact fin_ hQ ⟨ret_b V.out.symm, hKa.out.trans hK2⟩
          · have V := Lib.hid (lentAt_yes HV.out (by have := hP.out; omega) c3 (.inr (by rw [HV.out]; show iAt _ k < _; omega)))
            clear c3
            go_wp2_with fail
            go_roundw
            case rel => exact ⟨k + 1 + 1, by omega, by go_num, fun l hl => by
              rcases Nat.lt_succ_iff_lt_or_eq.1 hl with h | rfl
              · exact H2.out l h
              · exact V.out, hK2⟩
            case measure => simp [intOf]; omega
        · have V := Lib.hid (sigOk_yes (n := n0) (s := sgAt sg j) (by have := hP.out; omega) V3.out V4.out (fun l hl => H2.out l (by have := EL.out; omega)))
          go_wp2_with fail
          go_roundw
          case rel => exact ⟨j + 1, by omega, by go_num, fun l hl => by
            rcases Nat.lt_succ_iff_lt_or_eq.1 hl with h | rfl
            · exact H.out l h
            · exact V.out, (hK.trans (Keep.al _ _)).trans hK2⟩
          case measure => simp [intOf]; omega
    · have V := Lib.hid (sigsOk_yes (n := n0) hd0.out V1.out (by have := HL.out; omega) (by have := HL.out; omega) hP0.out V5.out (fun i hi => H.out i (by have := HL.out; omega)))
      go_wp2_with fail
      exact fin_ hQ ⟨ret_b V.out.symm, hK⟩
end Go.Proofs.YtkapldpmjkdmcaaGreat
/- ValidSigs of both. -/
namespace Go.Proofs.YtkapldpmjkdmcaaGreat
open Go.RowKit


/-- One signature, laid into a new block. -/
theorem lit_sig (w : World) (D : Nat → Prop) (T : TypeId) (s : SigL) (a : Option Addr) (n c : Nat) (a' : Option Addr) (n' c' : Nat) (hB : D w.heap.size) (h : Rd w D (encInts s.params) (.slice a n c)) (h' : Rd w D (encInts s.lent) (.slice a' n' c')) :
    Rd (w.alloc (.cells #[.slice a n c, .slice a' n' c', .int .i64 s.result] T)) D (encSigs [s]) (.slice (some ⟨w.heap.size, 0, none⟩) 1 1) := by
  refine Rd.litD w D T 3 _ ([s].map rowG) 1 hB (by simp) (by omega) (by omega) (by simp) (fun i hi => by rw [sigs_row [s] i (by simpa using hi)]; rfl) (fun i j hi hj => ?_)
  obtain rfl : i = 0 := by simpa using hi
  rcases (show j = 0 ∨ j = 1 ∨ j = 2 by omega) with rfl | rfl | rfl
  · exact ⟨_, rfl, h⟩
  · exact ⟨_, rfl, h'⟩
  · exact ⟨_, rfl, .num s.result⟩

end Go.Proofs.YtkapldpmjkdmcaaGreat
/- A region that draws its order, by hand: the laws with the operation written out; operations whose guard is false. -/
namespace Go.Proofs.YtkapldpmjkdmcaaGreat
open Go.RowKit

section
variable {P : Program} {md : Region.Mode} {ops : Array Oper} {Q : Exit → Act → World → Prop} {S : World → Prop} {i : Nat} {oi : Oper} {fuel : Nat} {listed : Array Bool} {a : Act} {w : World}
/-- An operation that yields in every world that meets S is taken first. -/
theorem wpAnyH_takeL {v : Value} (hi : ops.toList[i]? = some oi)
    (hs : Region.noSelect ops = true) (hf : Region.free md ops listed i = true) (hr : (Region.ready md ops listed).contains i = true)
    (hQ : ∀ c a w, Q (.panic c) (a.put oi.dst v) w → Q (.panic c) a w) (hw : Region.wanted oi (yielded ops a.tmps) = true) (hS : S w) (hy : ∀ w, S w → (execOp a.eval oi).run P w = .ok (.value v) w)
    (h : wpAnyH P md ops Q S fuel (listed.setIfInBounds i true) (a.put oi.dst v) w) : wpAnyH P md ops Q S (fuel + 1) listed a w :=
  wpAnyH_take (by simpa using hi) hs hf hr hQ (.inl ⟨hw, hy⟩) hS h
/-- An operation whose guard is false is passed over. -/
theorem wpAnyH_skipL (hi : ops.toList[i]? = some oi)
    (hs : Region.noSelect ops = true) (hf : Region.free md ops listed i = true) (hr : (Region.ready md ops listed).contains i = true)
    (hQ : ∀ c a w, Q (.panic c) (a.put oi.dst undef) w → Q (.panic c) a w) (hw : Region.wanted oi (yielded ops a.tmps) = false) (hS : S w)
    (h : wpAnyH P md ops Q S fuel (listed.setIfInBounds i true) (a.put oi.dst undef) w) : wpAnyH P md ops Q S (fuel + 1) listed a w :=
  wpAnyH_take (by simpa using hi) hs hf hr hQ (.inr ⟨hw, rfl⟩) hS h
/-- The one operation that may come up is carried out. -/
theorem wpAnyH_oneL (hi : ops.toList[i]? = some oi) (hr : Region.ready md ops listed = [i]) (hw : Region.wanted oi (yielded ops a.tmps) = true)
    (h : ∀ K' : Act → World → Prop, Shut (∀ a w, S w → (S w → wpAnyH P md ops Q S fuel (listed.setIfInBounds i true) a w) → K' a w) → Oper.wp P oi a w K' Q) : wpAnyH P md ops Q S (fuel + 1) listed a w :=
  wpAnyH_ready hr (by simp) (AllReadyH.cons (by simpa using hi) (fun K' hK => by rw [if_pos hw]; exact h K' hK) AllReadyH.nil)
/-- The three laws with their side conditions shown by themselves. -/
theorem wT {v : Value} (i : Nat) (hS : S w) (h : wpAnyH P md ops Q S fuel (listed.setIfInBounds i true) (a.put oi.dst v) w) (hi : ops.toList[i]? = some oi := by rfl)
    (hs : Region.noSelect ops = true := by kernel_rfl) (hf : Region.free md ops listed i = true := by kernel_rfl) (hr : (Region.ready md ops listed).contains i = true := by kernel_rfl)
    (hQ : ∀ c a w, Q (.panic c) (a.put oi.dst v) w → Q (.panic c) a w := by exact fun _ _ _ h => h) (hw : Region.wanted oi (yielded ops a.tmps) = true := by rfl)
    (hy : ∀ w, S w → (execOp a.eval oi).run P w = .ok (.value v) w := by (intro w hSw; (try dsimp only at hSw); go_simp; (try with_reducible rfl))) : wpAnyH P md ops Q S (fuel + 1) listed a w :=
  wpAnyH_takeL hi hs hf hr hQ hw hS hy h
theorem wS (i : Nat) (hS : S w) (h : wpAnyH P md ops Q S fuel (listed.setIfInBounds i true) (a.put oi.dst undef) w) (hi : ops.toList[i]? = some oi := by rfl)
    (hs : Region.noSelect ops = true := by kernel_rfl) (hf : Region.free md ops listed i = true := by kernel_rfl) (hr : (Region.ready md ops listed).contains i = true := by kernel_rfl)
    (hQ : ∀ c a w, Q (.panic c) (a.put oi.dst undef) w → Q (.panic c) a w := by exact fun _ _ _ h => h) (hw : Region.wanted oi (yielded ops a.tmps) = false := by rfl) : wpAnyH P md ops Q S (fuel + 1) listed a w :=
  wpAnyH_skipL hi hs hf hr hQ hw hS h
theorem wO (i : Nat) (h : ∀ K' : Act → World → Prop, Shut (∀ a w, S w → (S w → wpAnyH P md ops Q S fuel (listed.setIfInBounds i true) a w) → K' a w) → Oper.wp P oi a w K' Q)
    (hi : ops.toList[i]? = some oi := by rfl) (hr : Region.ready md ops listed = [i] := by kernel_rfl) (hw : Region.wanted oi (yielded ops a.tmps) = true := by rfl) : wpAnyH P md ops Q S (fuel + 1) listed a w :=
  wpAnyH_oneL hi hr hw h
end
end Go.Proofs.YtkapldpmjkdmcaaGreat
/- A region that draws its order, by hand: branching; append onto rows of the call's own. -/
namespace Go.Proofs.YtkapldpmjkdmcaaGreat
open Go.RowKit

theorem allReadyH_consL {P : Program} {md : Region.Mode} {ops : Array Oper} {Q : Exit → Act → World → Prop} {S : World → Prop} {i : Nat} {oi : Oper} {fuel : Nat} {listed : Array Bool} {a : Act} {w : World} {rs : List Nat} (hi : ops.toList[i]? = some oi) (hw : Region.wanted oi (yielded ops a.tmps) = true)
    (h : ∀ K' : Act → World → Prop, Shut (∀ a w, S w → (S w → wpAnyH P md ops Q S fuel (listed.setIfInBounds i true) a w) → K' a w) → Oper.wp P oi a w K' Q)
    (hs : AllReadyH P md ops Q S fuel listed a w rs) : AllReadyH P md ops Q S fuel listed a w (i :: rs) :=
  AllReadyH.cons (by simpa using hi) (fun K' hK => by rw [if_pos hw]; exact h K' hK) hs

theorem run_appR {P : Program} (w : World) (t ty : TypeId)
    (base : Nat) (e : TypeId) (z : Value) (size bytes : Nat) (ht : P.underlying t = some (.slice e)) (hinfo : (P.info? e).map (fun i => (i.zero, i.size, i.bytes)) = some (some z, size, bytes))
    (hzs : z.cells.size = size) (hsz : 0 < size)
    (D : Nat → Prop) (v : Value) (rows : List (List Dat)) (hacc : AccR w base D e size v rows)
    (A : Option Addr) (m c : Nat) (rs : List (List Dat)) (D2 : Nat → Prop) (hr : Rd w D2 (.arr size rs) (.slice A m c)) (hD2 : ∀ k, k < w.heap.size → D2 k → D k ∧ v.ownBlock ≠ some k)
    (hbytes : (rows.length + m) * bytes ≤ 140737488355328) (h63 : rows.length + m ≤ 9223372036854775807) (hbase : base ≤ w.heap.size) :
    ∃ v' w', (Builtin.append_ #[t, t] ty #[v, .slice A m c]).run P w = .ok v' w' ∧ AccR w' base D e size v' (rows ++ rs) ∧ Ext (fun k => v.ownBlock = some k) w w' ∧ (v'.ownBlock = v.ownBlock ∨ v'.ownBlock = some w.heap.size) := by
  have hr' := hr.lt
  obtain ⟨news, n1, n2, n3, n4⟩ := hr'.holds hsz
  have hm : m = rs.length := by obtain ⟨a', c', e, _⟩ := hr.arr_inv; injection e
  obtain ⟨xs, h1, _, _⟩ := id hacc
  obtain ⟨i, hi, hzz⟩ := Option.map_eq_some_iff.1 hinfo
  simp only [Prod.mk.injEq] at hzz
  obtain ⟨hz, hsize, hby⟩ := hzz
  obtain ⟨v', w', hrun, q1, q2, q3⟩ := run_append_c (P := P) w base t ty e i z size bytes ht hi hz hsize hby hzs hsz v rows.length xs h1 A m c news n1 n2 (by simp only [maxLen]; omega) hbytes hbase
  refine ⟨v', w', hrun, ?_, ⟨q2.os, q2.tape, q2.output, q2.size, fun k hk hn => q2.block k hk (fun e => hn e.symm)⟩, q3⟩
  refine hacc.push (rs := rs) (news := news) n3 (fun i j hi hj => ?_) (fun xs' hxs' => ?_) q2 q3
  · obtain ⟨u, hu, hu2⟩ := n4 i j hi hj
    exact ⟨u, hu, hu2.mono (fun k hk => hD2 k hk.2 hk.1)⟩
  · have : xs' = xs := by
      rcases hxs'.2 with ⟨e1, e2⟩ | ⟨g, cap, cur, e1, _, hg, _, _, _, htake⟩
      · have l1 := hxs'.1
        have l2 := h1.1
        rw [e2, Nat.zero_mul] at l1 l2
        rw [List.eq_nil_of_length_eq_zero l1, List.eq_nil_of_length_eq_zero l2]
      · rcases h1.2 with ⟨f1, f2⟩ | ⟨g', cap', cur', f1, _, hg', _, _, _, htake'⟩
        · have l1 := hxs'.1
          have l2 := h1.1
          rw [f2, Nat.zero_mul] at l1 l2
          rw [List.eq_nil_of_length_eq_zero l1, List.eq_nil_of_length_eq_zero l2]
        · rw [e1] at f1
          injection f1 with f1
          injection f1 with f1
          injection f1 with f1
          subst f1
          rw [hg] at hg'
          injection hg' with hg'
          injection hg' with hg'
          rw [← htake, ← htake', hg']
    subst this
    rw [← hm]; exact q1

/-- append as an operation of a region. -/
theorem wp_appR {P : Program} (w : World) {o : Oper} {a : Act} {K : Act → World → Prop} {Q : Exit → Act → World → Prop} (s x : Operand) (t : TypeId)
    (ho : o.op = .call { callee := .builtin .append, args := #[s, x], argTypes := #[t, t] })
    (base : Nat) (e : TypeId) (z : Value) (size bytes : Nat) (ht : P.underlying t = some (.slice e)) (hinfo : (P.info? e).map (fun i => (i.zero, i.size, i.bytes)) = some (some z, size, bytes))
    (hzs : z.cells.size = size) (hsz : 0 < size)
    (D : Nat → Prop) (v : Value) (rows : List (List Dat)) (hs : a.eval s = v) (hacc : AccR w base D e size v rows)
    (A : Option Addr) (m c : Nat) (rs : List (List Dat)) (D2 : Nat → Prop) (hx : a.eval x = .slice A m c) (hr : Rd w D2 (.arr size rs) (.slice A m c)) (hD2 : ∀ k, k < w.heap.size → D2 k → D k ∧ v.ownBlock ≠ some k)
    (hbytes : (rows.length + m) * bytes ≤ 140737488355328) (h63 : rows.length + m ≤ 9223372036854775807) (hbase : base ≤ w.heap.size)
    (h : ∀ v' w', AccR w' base D e size v' (rows ++ rs) → Ext (fun k => v.ownBlock = some k) w w' → (v'.ownBlock = v.ownBlock ∨ v'.ownBlock = some w.heap.size) → K (a.put o.dst v') w') : Oper.wp P o a w K Q := by
  obtain ⟨v', w', hrun, h2, h3, h4⟩ := run_appR (P := P) w t o.type base e z size bytes ht hinfo hzs hsz D v rows hacc A m c rs D2 hr hD2 hbytes h63 hbase
  unfold Oper.wp
  simp [execOp, ho, resolve, invoke, builtin, hs, hx, hrun, Result.andThen]
  exact h v' w' h2 h3 h4
end Go.Proofs.YtkapldpmjkdmcaaGreat
/- The reference's signatures of normal forms. -/
namespace Go.Proofs.YtkapldpmjkdmcaaGreat
open Go.RowKit

def sigR (r : RoutL) : SigL := ⟨r.params, r.lent, r.result⟩
def funcR (r : RoutL) : FuncL := ⟨r.params, r.result, .mk 0 0 []⟩
theorem sgAt_sigR (rs : List RoutL) {i : Nat} (h : i < rs.length) : sgAt (rs.map sigR) i = sigR (rtAt rs i) := by
  rw [sgAt_get (by simpa using h), rtAt_get h]; simp
theorem sgAt_funcR (rs : List RoutL) {i : Nat} (h : i < rs.length) : sgAt ((rs.map funcR).map sigF) i = ⟨(rtAt rs i).params, [], (rtAt rs i).result⟩ := by
  rw [sgAt_get (by simpa using h), rtAt_get h]; simp [funcR, sigF]
theorem sigs_funcR (ds : List DeclL) (rs : List RoutL) : sigsOk ds (rs.map sigR) = (sigsOk ds ((rs.map funcR).map sigF) && (List.range rs.length).all (fun i => lentOk (sigR (rtAt rs i)))) := by
  rw [Bool.eq_iff_iff, Bool.and_eq_true]
  constructor
  · intro h
    obtain ⟨h1, h2, h3, h4⟩ := sigsOk_parts h
    simp only [List.length_map] at h2 h3 h4
    have h5 : (sgAt (rs.map sigR) 0).params.length = 0 ∧ (sgAt (rs.map sigR) 0).result = 0 := by
      simp only [sigsOk, Bool.and_eq_true, decide_eq_true_eq] at h
      exact ⟨h.1.1.2, h.1.2⟩
    rw [sgAt_sigR rs (by omega)] at h5
    refine ⟨sigsOk_yes (n := ds.length) rfl h1 (by simp; omega) (by simp; omega) (by rw [sgAt_funcR rs (by omega)]; exact h5.1) (by rw [sgAt_funcR rs (by omega)]; exact h5.2) (fun i hi => ?_), nAll.2 (fun i hi => ?_)⟩
    · have hi' : i < rs.length := by simpa using hi
      have h6 := h4 i hi'
      rw [sgAt_sigR rs hi'] at h6
      obtain ⟨p1, p2, p3, _⟩ := sigOk_parts h6
      rw [sgAt_funcR rs hi']
      exact sigOk_yes p1 p2 p3 (fun k hk => by simp at hk)
    · have h6 := h4 i hi
      rw [sgAt_sigR rs hi] at h6
      exact (sigOk_parts h6).2.2.2
  · rintro ⟨h, hl⟩
    obtain ⟨h1, h2, h3, h4⟩ := sigsOk_parts h
    simp only [List.length_map] at h2 h3 h4
    have h5 : (sgAt ((rs.map funcR).map sigF) 0).params.length = 0 ∧ (sgAt ((rs.map funcR).map sigF) 0).result = 0 := by
      simp only [sigsOk, Bool.and_eq_true, decide_eq_true_eq] at h
      exact ⟨h.1.1.2, h.1.2⟩
    rw [sgAt_funcR rs (by omega)] at h5
    refine sigsOk_yes (n := ds.length) rfl h1 (by simp; omega) (by simp; omega) (by rw [sgAt_sigR rs (by omega)]; exact h5.1) (by rw [sgAt_sigR rs (by omega)]; exact h5.2) (fun i hi => ?_)
    have hi' : i < rs.length := by simpa using hi
    have h6 := h4 i hi'
    rw [sgAt_funcR rs hi'] at h6
    obtain ⟨p1, p2, p3, _⟩ := sigOk_parts h6
    rw [sgAt_sigR rs hi']
    exact sigOk_yes p1 p2 p3 (fun k hk => nAll.1 (nAll.1 hl i hi') k hk)
theorem lentOk_neg {s : SigL} {k : Nat} (hk : k < s.lent.length) (h : lentAt s k = false) : lentOk s = false := by
  cases e : lentOk s
  · rfl
  · rw [nAll.1 e k hk] at h; exact absurd h (by simp)
theorem sigs_funcR_no {ds : List DeclL} {rs : List RoutL} (h : sigsOk ds ((rs.map funcR).map sigF) = false) : sigsOk ds (rs.map sigR) = false := by rw [sigs_funcR, h, Bool.false_and]
theorem sigs_lent_no {ds : List DeclL} {rs : List RoutL} {i : Nat} (hi : i < rs.length) (h : lentOk (sigR (rtAt rs i)) = false) : sigsOk ds (rs.map sigR) = false := by
  rw [sigs_funcR]
  cases e : (List.range rs.length).all (fun i => lentOk (sigR (rtAt rs i)))
  · simp
  · rw [nAll.1 e i hi] at h; exact absurd h (by simp)
theorem sigs_yes {ds : List DeclL} {rs : List RoutL} (h : sigsOk ds ((rs.map funcR).map sigF) = true) (h2 : ∀ i, i < rs.length → lentOk (sigR (rtAt rs i)) = true) : sigsOk ds (rs.map sigR) = true := by
  rw [sigs_funcR, h, nAll.2 h2]; rfl

set_option maxRecDepth 100000 in
set_option maxHeartbeats 2000000 in
theorem specValidLent (ap : Option Addr) (np cp : Nat) (ps : List Int) (al : Option Addr) (nl cl : Nat) (ls : List Int) (r : Int) (D D1 : Nat → Prop) (w : World) (hp : IntsL w D ap np ps) (hl : IntsL w D1 al nl ls) (hnp : np ≤ 9223372036854775807) (hnl : nl ≤ 9223372036854775807) :
    Calls Tryz.prog 127 #[.slice ap np cp, .slice al nl cl] w fun e w' => e = .returned (.bool (lentOk ⟨ps, ls, r⟩)) ∧ Keep w w' := by
  refine calls_k fun Q hQ => ?_
  have HV := Lib.hid hp
  have HA := Lib.hid hl
  have HLV := Lib.hid hp.1
  have HLA := Lib.hid hl.1
  clear hp hl
  go_enter Tryz.func127, Tryz.ntmps127
  go_wp2_with fail
  go_loopw [5] (fun iv wr => ∃ j : Nat, j ≤ nl ∧ iv = .int .i64 j ∧ Hid (∀ l, l < j → lentAt ⟨ps, ls, r⟩ l = true) ∧ Keep w wr) (fun iv _ => nl - (intOf iv).toNat)
  case atStart => exact ⟨0, Nat.zero_le _, rfl, fun l hl => absurd hl (by omega), Ext.refl _ _⟩
  case round =>
    obtain ⟨j, hj, rfl, hI, hK⟩ := hrel
    by_cases hlt : j < nl
    · obtain ⟨b, o, rfl, _, d0⟩ := HA.out.at hlt
      have g0 := (hK.cell (World.block_lt_of_cell? w _ d0) (fun h => h)).trans d0
      have HJ : Hid (j < (SigL.mk ps ls r).lent.length) := by have := HLA.out; show _ < ls.length; omega
      generalize hv : iAt ls j = v at g0 d0
      have HVV : Hid (iAt (SigL.mk ps ls r).lent j = v) := hv
      clear d0 hv
      by_cases hr : 0 ≤ v ∧ v < (np : Int)
      case neg =>
        have V : Hid (lentOk ⟨ps, ls, r⟩ = false) := lentOk_neg HJ.out (by
          by_cases hv0 : v < 0
          · exact lentAt_neg (by rw [HVV.out]; exact hv0)
          · exact lentAt_big (by rw [HVV.out]; show (ps.length : Int) ≤ v; have := HLV.out; omega))
        have HD := Lib.hid (decide_eq_false (p := 0 ≤ v ∧ v ≤ (np : Int) - 1) (fun h => hr (by omega)))
        clear hr
        go_wp2_with fail
        go_quiet ((go_at_call 60; exact Calls.quiet_of_same ((specInRange _ _ _ _).mono fun _ _ q => ⟨q.1.trans (by rw [HD.out]), q.2.symm⟩)))
        go_wp2_with fail
        exact fin_ hQ ⟨ret_b V.out.symm, by first | exact hK.drew | exact hK.drewN _⟩
      obtain ⟨k, rfl⟩ : ∃ k : Nat, v = (k : Int) := ⟨v.toNat, by omega⟩
      have hk : k < np := by omega
      obtain ⟨b2, o2, rfl, _, d2⟩ := HV.out.at hk
      have g2 := (hK.cell (World.block_lt_of_cell? w _ d2) (fun h => h)).trans d2
      generalize hx : iAt ps k = x at g2 d2
      have HX := Lib.hid hx
      have HD := Lib.hid (decide_eq_true (p := 0 ≤ (k : Int) ∧ (k : Int) ≤ (np : Int) - 1) (by omega))
      clear hr d2 hx
      by_cases hx0 : x = 0
      · subst hx0
        have V : Hid (lentOk ⟨ps, ls, r⟩ = false) := lentOk_neg HJ.out (lentAt_int (v := k) HVV.out HX.out)
        go_wp2_with fail
        go_quiet ((go_at_call 60; exact Calls.quiet_of_same ((specInRange _ _ _ _).mono fun _ _ q => ⟨q.1.trans (by rw [HD.out]), q.2.symm⟩)))
        go_wp2_with fail
        exact fin_ hQ ⟨ret_b V.out.symm, by first | exact hK.drew | exact hK.drewN _⟩
      have hx0' : (x == 0) = false := by simpa using hx0
      rcases Nat.eq_zero_or_pos j with h0 | h0
      · subst h0
        rw [Nat.add_zero] at g0
        have hI2 : Hid (∀ l, l < 0 + 1 → lentAt ⟨ps, ls, r⟩ l = true) := by
          intro l hl
          obtain rfl : l = 0 := by omega
          exact lentAt_yes (v := k) HVV.out (by show k < ps.length; have := HLV.out; omega) (by rw [show iAt (SigL.mk ps ls r).params k = x from HX.out]; exact hx0) (.inl rfl)
        clear hx0
        go_wp2_with fail
        go_quiet ((go_at_call 60; exact Calls.quiet_of_same ((specInRange _ _ _ _).mono fun _ _ q => ⟨q.1.trans (by rw [HD.out]), q.2.symm⟩)))
        go_wp2_with fail
        go_roundw
        case rel => exact ⟨1, by omega, by go_num, hI2, by first | exact hK.drew | exact hK.drewN _⟩
        case measure => simp [intOf]; omega
      obtain ⟨i, rfl⟩ : ∃ i, j = i + 1 := ⟨j - 1, by omega⟩
      obtain ⟨b', o', e', _, d1⟩ := HA.out.at (i := i) (by omega)
      injection e' with e'
      injection e' with e1 e2
      subst e1 e2
      have g1 := (hK.cell (World.block_lt_of_cell? w _ d1) (fun h => h)).trans d1
      generalize hu : iAt ls i = u at g1 d1
      have HU : Hid (iAt (SigL.mk ps ls r).lent (i + 1 - 1) = u) := hu
      have hp0 : (0 : Int) < (i : Int) + 1 := by omega
      have hi1 : i < nl := by omega
      have hi2 : (i : Int) < (nl : Int) := by omega
      have hw1 : IntKind.i64.wrap (i : Int) = (i : Int) := by rw [IntWalk.i64_in _ (by omega)]
      have HX0 := Lib.hid hx0
      clear d1 hu hx0 h0
      by_cases hle : (k : Int) ≤ u
      · have V : Hid (lentOk ⟨ps, ls, r⟩ = false) := lentOk_neg HJ.out (lentAt_order (by omega) (by rw [HVV.out, HU.out]; exact hle))
        go_wp2_with fail
        go_quiet ((go_at_call 60; exact Calls.quiet_of_same ((specInRange _ _ _ _).mono fun _ _ q => ⟨q.1.trans (by rw [HD.out]), q.2.symm⟩)))
        go_wp2_with fail
        exact fin_ hQ ⟨ret_b V.out.symm, by first | exact hK.drew | exact hK.drewN _⟩
      · have hI2 : Hid (∀ l, l < i + 1 + 1 → lentAt ⟨ps, ls, r⟩ l = true) := by
          intro l hl
          rcases Nat.lt_succ_iff_lt_or_eq.1 hl with h | rfl
          · exact hI.out l h
          · exact lentAt_yes (v := k) HVV.out (by show k < ps.length; have := HLV.out; omega) (by rw [show iAt (SigL.mk ps ls r).params k = x from HX.out]; exact HX0.out) (.inr (by rw [HVV.out, HU.out]; omega))
        go_wp2_with fail
        go_quiet ((go_at_call 60; exact Calls.quiet_of_same ((specInRange _ _ _ _).mono fun _ _ q => ⟨q.1.trans (by rw [HD.out]), q.2.symm⟩)))
        go_wp2_with fail
        go_roundw
        case rel => exact ⟨i + 1 + 1, by omega, by go_num, hI2, by first | exact hK.drew | exact hK.drewN _⟩
        case measure => simp [intOf]; omega
    · have V : Hid (lentOk ⟨ps, ls, r⟩ = true) := nAll.2 (fun l hl => hI.out l (by have := HLA.out; change l < ls.length at hl; omega))
      go_wp2_with fail
      exact fin_ hQ ⟨ret_b V.out.symm, hK⟩
end Go.Proofs.YtkapldpmjkdmcaaGreat
/- The reference's signatures of normal forms, as a program without bodies. -/
namespace Go.Proofs.YtkapldpmjkdmcaaGreat
open Go.RowKit

theorem AccR.extO {w w' : World} {base : Nat} {D S : Nat → Prop} {T : TypeId} {s : Nat} {v : Value} {rows : List (List Dat)} (h : AccR w base D T s v rows) (hx : Ext S w w') (hs : ∀ k, k < w.heap.size → D k → ¬ S k) (ho : ∀ k, v.ownBlock = some k → ¬ S k) : AccR w' base D T s v rows := by
  obtain ⟨xs, h1, h2, h5⟩ := h
  refine ⟨xs, ⟨h1.1, ?_⟩, h2, fun i j hi hj => ?_⟩
  · rcases h1.2 with h | ⟨g, cap, cur, e, hb, hg, rest⟩
    · exact .inl h
    · have hlt : g < w.heap.size := (Array.getElem?_eq_some_iff.1 hg).1
      exact .inr ⟨g, cap, cur, e, hb, (hx.block g hlt (ho g (by rw [e]; rfl))).trans hg, rest⟩
  · obtain ⟨u, hu, ho⟩ := h5 i j hi hj
    exact ⟨u, hu, (ho.ext hx (fun k hk => hs k hk.2.2 hk.1)).mono (fun k hk => ⟨hk.1, hk.2.1, Nat.lt_of_lt_of_le hk.2.2 hx.size⟩)⟩
theorem lit_func (w : World) (D : Nat → Prop) (T : TypeId) (f : FuncL) (a : Option Addr) (n c : Nat) (a' : Option Addr) (n' c' : Nat) (hB : D w.heap.size) (h : Rd w D (encInts f.params) (.slice a n c)) (h' : Rd w D (encExprs f.body.kids) (.slice a' n' c')) :
    Rd (w.alloc (.cells #[.slice a n c, .int .i64 f.result, .int .i64 f.body.op, .int .i64 f.body.num, .slice a' n' c'] T)) D (encFuncs [f]) (.slice (some ⟨w.heap.size, 0, none⟩) 1 1) := by
  refine Rd.litD w D T 5 _ ([f].map rowF) 1 hB (by simp) (by omega) (by omega) (by simp) (fun i hi => by rw [funcs_row [f] i (by simpa using hi)]; rfl) (fun i j hi hj => ?_)
  obtain rfl : i = 0 := by simpa using hi
  rcases (show j = 0 ∨ j = 1 ∨ j = 2 ∨ j = 3 ∨ j = 4 by omega) with rfl | rfl | rfl | rfl | rfl
  · exact ⟨_, rfl, h⟩
  · exact ⟨_, rfl, .num f.result⟩
  · exact ⟨_, rfl, .num f.body.op⟩
  · exact ⟨_, rfl, .num f.body.num⟩
  · exact ⟨_, rfl, h'⟩

set_option maxRecDepth 100000 in
set_option maxHeartbeats 1000000 in
theorem specSigsOfN (rs : List RoutL) (a0 : Option Addr) (n0 c0 : Nat) (a1 : Option Addr) (n1 c1 : Nat) (D1 : Nat → Prop) (w : World) (r1 : Rd w D1 (encRouts rs) (.slice a1 n1 c1)) (hn4 : n1 ≤ 4) :
    Calls Tryz.prog 126 #[.agg #[.slice a0 n0 c0, .slice a1 n1 c1]] w fun e w' => ∃ a' c', e = .returned (.agg #[.slice a0 n0 c0, .slice a' n1 c']) ∧ Rd w' (fun _ => True) (encFuncs (rs.map funcR)) (.slice a' n1 c') ∧ Keep w w' := by
  refine calls_k fun Q hQ => ?_
  obtain ⟨e1, hnc, hm, hat⟩ := routs_at r1
  have HL := Lib.hid e1
  have HA := Lib.hid hat
  have HLM : Hid ((rs.map funcR).length = n1) := by show _ = _; simp [e1]
  have ER : Hid (∀ j, j < n1 → ((rs.map funcR).take (j + 1)).map rowF = ((rs.map funcR).take j).map rowF ++ [funcR (rtAt rs j)].map rowF) := fun j hj => by
    have hj' : j < rs.length := by omega
    rw [List.take_succ_eq_append_getElem (by simpa using hj'), rtAt_get hj']; simp
  clear e1 hat
  go_enter Tryz.func126, Tryz.ntmps126
  have W1 : World := w.alloc (.cells #[.slice a0 n0 c0, .slice a1 n1 c1] 30)
  clear W1
  have K0 := (((Keep.al w (.cells #[.slice a0 n0 c0, .slice a1 n1 c1] 30)).trans (Keep.al _ (.cells #[.slice none 0 0, .slice none 0 0] 44))).trans (Keep.al _ (.cells #[] 60))).trans (Keep.al _ (.cells #[.slice a0 n0 c0, .slice (some ⟨w.heap.size + 2, 0, none⟩) 0 0] 44))
  have RN := (((rowOf w #[.slice a0 n0 c0, .slice a1 n1 c1] 30).alloc (.cells #[.slice none 0 0, .slice none 0 0] 44)).alloc (.cells #[] 60)).alloc (.cells #[.slice a0 n0 c0, .slice (some ⟨w.heap.size + 2, 0, none⟩) 0 0] 44)
  have RR := ((rowOf (w.alloc (.cells #[.slice a0 n0 c0, .slice a1 n1 c1] 30)) #[.slice none 0 0, .slice none 0 0] 44).alloc (.cells #[] 60)).alloc (.cells #[.slice a0 n0 c0, .slice (some ⟨w.heap.size + 2, 0, none⟩) 0 0] 44)
  have RP := rowOf (((w.alloc (.cells #[.slice a0 n0 c0, .slice a1 n1 c1] 30)).alloc (.cells #[.slice none 0 0, .slice none 0 0] 44)).alloc (.cells #[] 60)) #[.slice a0 n0 c0, .slice (some ⟨w.heap.size + 2, 0, none⟩) 0 0] 44
  have AM := (AccR.made ((w.alloc (.cells #[.slice a0 n0 c0, .slice a1 n1 c1] 30)).alloc (.cells #[.slice none 0 0, .slice none 0 0] 44)) (fun k => k < w.heap.size ∨ w.heap.size + 4 ≤ k) 60 5).keep (Keep.al _ (.cells #[.slice a0 n0 c0, .slice (some ⟨w.heap.size + 2, 0, none⟩) 0 0] 44))
  simp only [World.size_alloc] at RN RR RP AM
  have HRN := Lib.hid RN
  have HRR := Lib.hid RR
  have HRP := Lib.hid RP
  have HAM := Lib.hid AM
  have HK0 := Lib.hid K0
  have HW4 : Hid (((((w.alloc (.cells #[.slice a0 n0 c0, .slice a1 n1 c1] 30)).alloc (.cells #[.slice none 0 0, .slice none 0 0] 44)).alloc (.cells #[] 60)).alloc (.cells #[.slice a0 n0 c0, .slice (some ⟨w.heap.size + 2, 0, none⟩) 0 0] 44)).heap.size = w.heap.size + 4) := by show _ = _; simp
  clear RN RR RP AM K0
  go_wp2_with fail
  generalize hW : ((((w.alloc (.cells #[.slice a0 n0 c0, .slice a1 n1 c1] 30)).alloc (.cells #[.slice none 0 0, .slice none 0 0] 44)).alloc (.cells #[] 60)).alloc (.cells #[.slice a0 n0 c0, .slice (some ⟨w.heap.size + 2, 0, none⟩) 0 0] 44)) = W at *
  clear hW
  go_loopw [4] (fun iv wr => ∃ (j : Nat) (sv : Value), j ≤ n1 ∧ iv = .int .i64 j ∧ Hid (AccR wr (w.heap.size + 2) (fun k => k < w.heap.size ∨ w.heap.size + 4 ≤ k) 60 5 sv (((rs.map funcR).take j).map rowF)) ∧ Hid (sv.ownBlock ≠ some (w.heap.size + 3)) ∧ Hid (wr.rowIs (w.heap.size + 3) 44 2 (fun i => (#[.slice a0 n0 c0, sv] : Array Value).getD i undef)) ∧ Hid (Ext (fun q => q = w.heap.size + 3 ∨ q = w.heap.size + 2 ∨ w.heap.size + 4 ≤ q) W wr)) (fun iv _ => n1 - (intOf iv).toNat)
  case atStart => exact ⟨0, .slice (some ⟨w.heap.size + 2, 0, none⟩) 0 0, Nat.zero_le _, rfl, (show AccR _ _ _ _ _ _ _ from by simpa using HAM.out), (by show _ ≠ _; simp [Value.ownBlock]), HRP.out, Ext.refl _ _⟩
  case round =>
    obtain ⟨wo, rfl⟩ : ∃ wo : World, wo = wr := ⟨_, rfl⟩
    obtain ⟨j, sv, hj, rfl, hB, hne, hR, hK⟩ := hrel
    have hs : w.heap.size + 4 ≤ wo.heap.size := by have := hK.out.size; have := HW4.out; omega
    have KW := Lib.hid (HK0.out.then_ hK.out (fun q hq h => by omega))
    have rn := row_ext HRN.out hK.out (fun h => by omega)
    have e0 := rn.cell (i := 1) (by simp)
    simp at e0
    by_cases hlt : j < n1
    · obtain ⟨b, o, rfl, hd, a3, n3, c3, a5, n5, c5, a4, n4, c4, d0, d1, d2, d3, d4, r3, r5, r4⟩ := HA.out j hlt
      have hbl := World.block_lt_of_cell? w _ d0
      have g0 := (KW.out.cell (World.block_lt_of_cell? w _ d0) (fun h => h)).trans d0
      have g2 := (KW.out.cell (World.block_lt_of_cell? w _ d2) (fun h => h)).trans d2
      have bnd : Hid (∀ k, sv.ownBlock = some k → w.heap.size + 2 ≤ k ∧ k < wo.drew.heap.size) := hB.out.bound
      have dr : Keep wo wo.drew := (Ext.refl (fun _ => False) wo).drew
      have A := hB.out.keep dr
      have R := row_ext hR.out dr (fun h => h)
      have y17 : wo.drew.cell? ⟨w.heap.size + 1 + 1 + 1, 1, none⟩ = some sv := R.cell (i := 1) (by simp)
      have q3 := (((r3.lt.k KW.out).k dr).mono (D' := fun q => (q < w.heap.size ∨ w.heap.size + 4 ≤ q) ∧ sv.ownBlock ≠ some q) (fun k hk => ⟨.inl hk.2, fun e => by have := (bnd.out k e).1; omega⟩))
      have HLR : Hid ((((rs.map funcR).take j).map rowF).length = j) := by show _ = _; rw [List.length_map, List.length_take, HLM.out]; omega
      have HW0 : Hid (w.heap.size + 4 ≤ wo.drew.heap.size) := hs
      have bndS : Hid (∀ q, sv.ownBlock = some q → q = w.heap.size + 3 ∨ q = w.heap.size + 2 ∨ w.heap.size + 4 ≤ q) := fun q hq => by have := bnd.out q hq; omega
      have kD := Lib.hid (hK.out.trans (Keep.to dr))
      have f0 : wo.drew.cell? ⟨w.heap.size, 1, none⟩ = some (.slice (some ⟨b, o, none⟩) n1 c1) := e0
      have f1 : wo.drew.cell? ⟨b, o + j * 5, none⟩ = some (.slice a3 n3 c3) := g0
      have f2 : wo.drew.cell? ⟨b, o + j * 5 + 2, none⟩ = some (.int .i64 (rtAt rs j).result) := g2
      clear d0 d1 d2 d3 d4 r3 r5 r4 dr hB hR g0 g2 rn hs
      have hs : w.heap.size + 4 ≤ wo.drew.heap.size := HW0.out
      have pc : Ext (fun q => q = w.heap.size + 3 ∨ q = w.heap.size + 2 ∨ w.heap.size + 4 ≤ q) wo.drew wo.drew := Ext.refl _ _
      go_wp2_with fail
      refine wp_region_held_drew (S := fun w' => w'.cell? ⟨w.heap.size, 1, none⟩ = some (.slice (some ⟨b, o, none⟩) n1 c1) ∧ w'.cell? ⟨b, o + j * 5, none⟩ = some (.slice a3 n3 c3) ∧ w'.cell? ⟨b, o + j * 5 + 2, none⟩ = some (.int .i64 (rtAt rs j).result)) (by kernel_rfl) ⟨(pc.cell (World.block_lt_of_cell? _ _ f0) (fun h => by (try dsimp only at h); omega)).trans f0, (pc.cell (World.block_lt_of_cell? _ _ f1) (fun h => by (try dsimp only at h); omega)).trans f1, (pc.cell (World.block_lt_of_cell? _ _ f2) (fun h => by (try dsimp only at h); omega)).trans f2⟩ (fun hHeld => ?_)
      clear e0
      generalize wo.drew = W0 at *
      refine wT 0 hHeld ?_
      try go_frame
      refine wT 2 hHeld ?_
      try go_frame
      refine wT 3 hHeld ?_
      try go_frame
      refine wT 4 hHeld ?_
      try go_frame
      refine wT 5 hHeld ?_
      try go_frame
      refine wT 6 hHeld ?_
      try go_frame
      refine wT 7 hHeld ?_
      try go_frame
      refine wT 8 hHeld ?_
      try go_frame
      refine wT 9 hHeld ?_
      try go_frame
      refine wT 10 hHeld ?_
      try go_frame
      refine wT 11 hHeld ?_
      try go_frame
      refine wT 12 hHeld ?_
      try go_frame
      refine wT 13 hHeld ?_
      try go_frame
      refine wT 14 hHeld ?_
      try go_frame
      refine wpAnyH_ready (rs := [1, 15]) (by kernel_rfl) (by simp) ?_
      refine allReadyH_consL rfl (by rfl) (fun K hK => ?_) (allReadyH_consL rfl (by rfl) (fun K hK => ?_) AllReadyH.nil)
      · go_simp
        refine hK.out _ _ ⟨(pc.cell (World.block_lt_of_cell? _ _ f0) (fun h => by (try dsimp only at h); omega)).trans f0, (pc.cell (World.block_lt_of_cell? _ _ f1) (fun h => by (try dsimp only at h); omega)).trans f1, (pc.cell (World.block_lt_of_cell? _ _ f2) (fun h => by (try dsimp only at h); omega)).trans f2⟩ (fun hHeld => ?_)
        clear hK K
        try go_frame
        refine wO 15 (fun K hK => ?_)
        go_simp
        have X := lit_func W0 (fun q => (q < w.heap.size ∨ w.heap.size + 4 ≤ q) ∧ sv.ownBlock ≠ some q) 60 (funcR (rtAt rs j)) a3 n3 c3 none 0 0 ⟨.inr HW0.out, fun e => by have := bnd.out _ e; omega⟩ q3 (.nil 3 none 0)
        have kk := Keep.al W0 (.cells #[.slice a3 n3 c3, .int .i64 (rtAt rs j).result, .int .i64 0, .int .i64 0, .slice none 0 0] 60)
        replace pc := pc.trans (Keep.to kk)
        replace A := A.keep kk
        replace y17 := (kk.cell (World.block_lt_of_cell? _ _ y17) (fun h => h)).trans y17
        refine hK.out _ _ ⟨(pc.cell (World.block_lt_of_cell? _ _ f0) (fun h => by (try dsimp only at h); omega)).trans f0, (pc.cell (World.block_lt_of_cell? _ _ f1) (fun h => by (try dsimp only at h); omega)).trans f1, (pc.cell (World.block_lt_of_cell? _ _ f2) (fun h => by (try dsimp only at h); omega)).trans f2⟩ (fun hHeld => ?_)
        clear hK K
        try go_frame
        refine wO 16 (fun K hK => ?_)
        have zpc := pc.size
        refine wp_appR _ (.tmp 17) (.tmp 31) 42 rfl (w.heap.size + 2) 60 (.agg #[.slice none 0 0, .int .i64 0, .int .i64 0, .int .i64 0, .slice none 0 0]) 5 72 Tryz.underlying42 (by kernel_rfl) rfl (by omega) (fun k => k < w.heap.size ∨ w.heap.size + 4 ≤ k) _ _ rfl A _ 1 _ _ _ rfl X (fun q _ hq2 => hq2) (by rw [HLR.out]; omega) (by rw [HLR.out]; omega) (by have := HW0.out; simp; omega) ?_
        rintro v1 w16 A1 x1 hv1
        have x2 : Ext (fun k => sv.ownBlock = some k) (W0.alloc (.cells #[.slice a3 n3 c3, .int .i64 (rtAt rs j).result, .int .i64 0, .int .i64 0, .slice none 0 0] 60)) w16 := x1
        replace pc := pc.trans (x2.mono (fun q _ hq => bndS.out q hq))
        have hne1 : v1.ownBlock ≠ some (w.heap.size + 3) := fun hh => by
          rcases hv1 with e | e
          · have e0 : v1.ownBlock = sv.ownBlock := e
            exact hne.out (by rw [← e0]; exact hh)
          · rw [hh] at e
            have e1 : w.heap.size + 3 = (W0.alloc (.cells #[.slice a3 n3 c3, .int .i64 (rtAt rs j).result, .int .i64 0, .int .i64 0, .slice none 0 0] 60)).heap.size := Option.some.inj e
            rw [World.size_alloc] at e1
            have := HW0.out
            omega
        replace R := row_ext (row_ext R kk (fun h => h)) x2 (fun h => hne.out h)
        obtain ⟨a9, n9, c9, rfl⟩ : ∃ a9 n9 c9, v1 = .slice a9 n9 c9 := by
          obtain ⟨a9, c9, e9, _⟩ := A1.read (by omega)
          exact ⟨a9, _, c9, e9⟩
        have y1 : w16.cell? ⟨w.heap.size + 1 + 1 + 1, 1, none⟩ = some sv := R.cell (i := 1) (by simp)
        have fr1 : w16.frozen? ⟨w.heap.size + 1 + 1 + 1, 1, none⟩ = false := R.frozen 1
        refine hK.out _ _ ⟨(pc.cell (World.block_lt_of_cell? _ _ f0) (fun h => by (try dsimp only at h); omega)).trans f0, (pc.cell (World.block_lt_of_cell? _ _ f1) (fun h => by (try dsimp only at h); omega)).trans f1, (pc.cell (World.block_lt_of_cell? _ _ f2) (fun h => by (try dsimp only at h); omega)).trans f2⟩ (fun hHeld => ?_)
        clear hK K
        try go_frame
        refine wT 17 hHeld ?_
        try go_frame
        refine wO 18 (fun K hK => ?_)
        go_simp
        have hs2 : Ext (fun q => q = w.heap.size + 3) w16 (w16.setCell ⟨w.heap.size + 1 + 1 + 1, 1, none⟩ (.slice a9 n9 c9)) := Ext.setCell (S := fun q => q = w.heap.size + 3) (Ext.refl _ w16) (p := ⟨w.heap.size + 1 + 1 + 1, 1, none⟩) (.inr rfl) _
        replace pc := pc.trans (hs2.mono (fun q _ hq => .inl hq))
        refine hK.out _ _ ⟨(pc.cell (World.block_lt_of_cell? _ _ f0) (fun h => by (try dsimp only at h); omega)).trans f0, (pc.cell (World.block_lt_of_cell? _ _ f1) (fun h => by (try dsimp only at h); omega)).trans f1, (pc.cell (World.block_lt_of_cell? _ _ f2) (fun h => by (try dsimp only at h); omega)).trans f2⟩ (fun hHeld => ?_)
        clear hK K
        try go_frame
        refine wpAnyH_done (by kernel_rfl) ?_ _
        have KE := Lib.hid (kD.out.trans pc)
        have A2 := Lib.hid (A1.extO hs2 (fun k _ hk e => by omega) (fun k hk e => hne1 (by rw [hk, e])))
        have R2 := Lib.hid ((R.set 1 (.slice a9 n9 c9)).congr (g := fun i => (#[.slice a0 n0 c0, .slice a9 n9 c9] : Array Value).getD i undef) (fun i hi => by
          rcases (show i = 0 ∨ i = 1 by omega) with rfl | rfl <;> rfl))
        clear pc A1 R x2 x1 hs2
        go_wp2_with fail
        go_roundw
        case rel => exact ⟨j + 1, _, by omega, by go_num, by show AccR _ _ _ _ _ _ _; rw [ER.out j hlt]; exact A2.out, hne1, R2.out, KE.out⟩
        case measure => simp [intOf]; omega
      · go_simp
        have X := lit_func W0 (fun q => (q < w.heap.size ∨ w.heap.size + 4 ≤ q) ∧ sv.ownBlock ≠ some q) 60 (funcR (rtAt rs j)) a3 n3 c3 none 0 0 ⟨.inr HW0.out, fun e => by have := bnd.out _ e; omega⟩ q3 (.nil 3 none 0)
        have kk := Keep.al W0 (.cells #[.slice a3 n3 c3, .int .i64 (rtAt rs j).result, .int .i64 0, .int .i64 0, .slice none 0 0] 60)
        replace pc := pc.trans (Keep.to kk)
        replace A := A.keep kk
        replace y17 := (kk.cell (World.block_lt_of_cell? _ _ y17) (fun h => h)).trans y17
        refine hK.out _ _ ⟨(pc.cell (World.block_lt_of_cell? _ _ f0) (fun h => by (try dsimp only at h); omega)).trans f0, (pc.cell (World.block_lt_of_cell? _ _ f1) (fun h => by (try dsimp only at h); omega)).trans f1, (pc.cell (World.block_lt_of_cell? _ _ f2) (fun h => by (try dsimp only at h); omega)).trans f2⟩ (fun hHeld => ?_)
        clear hK K
        try go_frame
        refine wO 1 (fun K hK => ?_)
        go_simp
        refine hK.out _ _ ⟨(pc.cell (World.block_lt_of_cell? _ _ f0) (fun h => by (try dsimp only at h); omega)).trans f0, (pc.cell (World.block_lt_of_cell? _ _ f1) (fun h => by (try dsimp only at h); omega)).trans f1, (pc.cell (World.block_lt_of_cell? _ _ f2) (fun h => by (try dsimp only at h); omega)).trans f2⟩ (fun hHeld => ?_)
        clear hK K
        try go_frame
        refine wO 16 (fun K hK => ?_)
        have zpc := pc.size
        refine wp_appR _ (.tmp 17) (.tmp 31) 42 rfl (w.heap.size + 2) 60 (.agg #[.slice none 0 0, .int .i64 0, .int .i64 0, .int .i64 0, .slice none 0 0]) 5 72 Tryz.underlying42 (by kernel_rfl) rfl (by omega) (fun k => k < w.heap.size ∨ w.heap.size + 4 ≤ k) _ _ rfl A _ 1 _ _ _ rfl X (fun q _ hq2 => hq2) (by rw [HLR.out]; omega) (by rw [HLR.out]; omega) (by have := HW0.out; simp; omega) ?_
        rintro v1 w16 A1 x1 hv1
        have x2 : Ext (fun k => sv.ownBlock = some k) (W0.alloc (.cells #[.slice a3 n3 c3, .int .i64 (rtAt rs j).result, .int .i64 0, .int .i64 0, .slice none 0 0] 60)) w16 := x1
        replace pc := pc.trans (x2.mono (fun q _ hq => bndS.out q hq))
        have hne1 : v1.ownBlock ≠ some (w.heap.size + 3) := fun hh => by
          rcases hv1 with e | e
          · have e0 : v1.ownBlock = sv.ownBlock := e
            exact hne.out (by rw [← e0]; exact hh)
          · rw [hh] at e
            have e1 : w.heap.size + 3 = (W0.alloc (.cells #[.slice a3 n3 c3, .int .i64 (rtAt rs j).result, .int .i64 0, .int .i64 0, .slice none 0 0] 60)).heap.size := Option.some.inj e
            rw [World.size_alloc] at e1
            have := HW0.out
            omega
        replace R := row_ext (row_ext R kk (fun h => h)) x2 (fun h => hne.out h)
        obtain ⟨a9, n9, c9, rfl⟩ : ∃ a9 n9 c9, v1 = .slice a9 n9 c9 := by
          obtain ⟨a9, c9, e9, _⟩ := A1.read (by omega)
          exact ⟨a9, _, c9, e9⟩
        have y1 : w16.cell? ⟨w.heap.size + 1 + 1 + 1, 1, none⟩ = some sv := R.cell (i := 1) (by simp)
        have fr1 : w16.frozen? ⟨w.heap.size + 1 + 1 + 1, 1, none⟩ = false := R.frozen 1
        refine hK.out _ _ ⟨(pc.cell (World.block_lt_of_cell? _ _ f0) (fun h => by (try dsimp only at h); omega)).trans f0, (pc.cell (World.block_lt_of_cell? _ _ f1) (fun h => by (try dsimp only at h); omega)).trans f1, (pc.cell (World.block_lt_of_cell? _ _ f2) (fun h => by (try dsimp only at h); omega)).trans f2⟩ (fun hHeld => ?_)
        clear hK K
        try go_frame
        refine wT 17 hHeld ?_
        try go_frame
        refine wO 18 (fun K hK => ?_)
        go_simp
        have hs2 : Ext (fun q => q = w.heap.size + 3) w16 (w16.setCell ⟨w.heap.size + 1 + 1 + 1, 1, none⟩ (.slice a9 n9 c9)) := Ext.setCell (S := fun q => q = w.heap.size + 3) (Ext.refl _ w16) (p := ⟨w.heap.size + 1 + 1 + 1, 1, none⟩) (.inr rfl) _
        replace pc := pc.trans (hs2.mono (fun q _ hq => .inl hq))
        refine hK.out _ _ ⟨(pc.cell (World.block_lt_of_cell? _ _ f0) (fun h => by (try dsimp only at h); omega)).trans f0, (pc.cell (World.block_lt_of_cell? _ _ f1) (fun h => by (try dsimp only at h); omega)).trans f1, (pc.cell (World.block_lt_of_cell? _ _ f2) (fun h => by (try dsimp only at h); omega)).trans f2⟩ (fun hHeld => ?_)
        clear hK K
        try go_frame
        refine wpAnyH_done (by kernel_rfl) ?_ _
        have KE := Lib.hid (kD.out.trans pc)
        have A2 := Lib.hid (A1.extO hs2 (fun k _ hk e => by omega) (fun k hk e => hne1 (by rw [hk, e])))
        have R2 := Lib.hid ((R.set 1 (.slice a9 n9 c9)).congr (g := fun i => (#[.slice a0 n0 c0, .slice a9 n9 c9] : Array Value).getD i undef) (fun i hi => by
          rcases (show i = 0 ∨ i = 1 by omega) with rfl | rfl <;> rfl))
        clear pc A1 R x2 x1 hs2
        go_wp2_with fail
        go_roundw
        case rel => exact ⟨j + 1, _, by omega, by go_num, by show AccR _ _ _ _ _ _ _; rw [ER.out j hlt]; exact A2.out, hne1, R2.out, KE.out⟩
        case measure => simp [intOf]; omega

    · have HJ : Hid (j = n1) := by show _ = _; omega
      have hB2 := hB.out
      rw [List.take_of_length_le (by have := HLM.out; have := HJ.out; omega)] at hB2
      obtain ⟨a', c', e, _, _, rd⟩ := hB2.read (by omega)
      rw [List.length_map, HLM.out] at e
      subst e
      have RD := Lib.hid rd
      have y0 : wo.cell? ⟨w.heap.size + 1 + 1 + 1, 0, none⟩ = some (.slice a0 n0 c0) := hR.out.cell (i := 0) (by omega)
      have y1 : wo.cell? ⟨w.heap.size + 1 + 1 + 1, 1, none⟩ = some (.slice a' n1 c') := hR.out.cell (i := 1) (by omega)
      have rr := row_ext HRR.out hK.out (fun h => by omega)
      have z0 := rr.cell (i := 0) (by simp)
      have z1 := rr.cell (i := 1) (by simp)
      simp at z0 z1
      have fr : ∀ i, wo.frozen? ⟨w.heap.size + 1, i, none⟩ = false := rr.frozen
      have fr0 := fr 0
      have fr1 := fr 1
      clear hB hB2 rd rr fr
      go_wp2_with fail
      have sx : Ext (fun q => q = w.heap.size + 1) wo ((wo.setCell ⟨w.heap.size + 1, 0, none⟩ (.slice a0 n0 c0)).setCell ⟨w.heap.size + 1, 1, none⟩ (.slice a' n1 c')) := Ext.setCell (S := fun q => q = w.heap.size + 1) (Ext.setCell (S := fun q => q = w.heap.size + 1) (Ext.refl _ wo) (p := ⟨w.heap.size + 1, 0, none⟩) (.inr rfl) _) (p := ⟨w.heap.size + 1, 1, none⟩) (.inr rfl) _
      refine bodyPost_ret (v := .agg #[.slice a0 n0 c0, .slice a' n1 c']) (by simp [results, Tryz.results126, go_sem, z0, z1]) rfl (fin_ hQ ⟨a', c', rfl, (RD.out.ext sx (fun k hk => by omega)).t, KW.out.then_ sx (fun q hq h => by omega)⟩)
end Go.Proofs.YtkapldpmjkdmcaaGreat
