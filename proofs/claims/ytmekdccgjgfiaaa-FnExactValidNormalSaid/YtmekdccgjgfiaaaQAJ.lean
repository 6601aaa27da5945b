/- The reference's types of expressions: let, if, apply; all together. -/
import Derived.Test.YtmekdccgjgfiaaaQAI
import Derived.Test.YtmekdccgjgfiaaaQAG
namespace Go.Proofs.Ytmekdccgjgfiaaa
open Go.RowKit

theorem nE_two {es : List ExprL} (h : es.length = 2) : nE (eAt es 0) + nE (eAt es 1) = nEs es := by
  match es, h with
  | [a, b], _ => simp [eAt, nEs]

section
variable (ds : List DeclL) (fs : List FuncL) (hok : sigsOk ds (fs.map sigF) = true)
include hok

end
end Go.Proofs.Ytmekdccgjgfiaaa
/- The reference's types of steps: its small helpers. -/
namespace Go.Proofs.Ytmekdccgjgfiaaa
open Go.RowKit

def typedL (sc args tys : List Int) : Bool := argsIn sc args && decide (tysOf sc args = tys)
theorem typedL_len {sc args tys : List Int} (h : args.length ≠ tys.length) : typedL sc args tys = false := by
  have : tysOf sc args ≠ tys := fun e => h (by rw [← e, tysOf_len])
  simp [typedL, this]
theorem typedL_out {sc args tys : List Int} {j : Nat} (hj : j < args.length) (h : ¬ (0 ≤ iAt args j ∧ iAt args j < (sc.length : Int))) : typedL sc args tys = false := by simp [typedL, argsIn_neg hj h]
theorem typedL_ne {sc args tys : List Int} {j : Nat} (hj : j < args.length) (h : iAt sc (iAt args j).toNat ≠ iAt tys j) : typedL sc args tys = false := by
  have : tysOf sc args ≠ tys := ints_ne j (by rw [tysOf_at hj]; exact h)
  simp [typedL, this]
theorem typedL_yes {sc args tys : List Int} (hl : args.length = tys.length) (h : ∀ l, l < args.length → (0 ≤ iAt args l ∧ iAt args l < (sc.length : Int)) ∧ iAt sc (iAt args l).toNat = iAt tys l) : typedL sc args tys = true := by
  have h1 : argsIn sc args = true := argsIn_iff.2 fun i hi => (h i hi).1
  have h2 : tysOf sc args = tys := ints_ext (by rw [tysOf_len]; exact hl) (fun i hi => by rw [tysOf_len] at hi; rw [tysOf_at hi]; exact (h i hi).2)
  simp [typedL, h1, h2]
theorem typedL_iff {sc args tys : List Int} : typedL sc args tys = true ↔ argsIn sc args = true ∧ tysOf sc args = tys := by simp [typedL]

theorem IntsL.at {w : World} {D : Nat → Prop} {a : Option Addr} {n : Nat} {xs : List Int} (h : IntsL w D a n xs) {i : Nat} (hi : i < n) : ∃ b o, a = some ⟨b, o, none⟩ ∧ D b ∧ w.cell? ⟨b, o + i, none⟩ = some (.int .i64 (iAt xs i)) := by
  obtain ⟨b, o, e, hd, hc⟩ := h.2 (by omega)
  exact ⟨b, o, e, hd, hc i hi⟩

set_option maxRecDepth 100000 in
set_option maxHeartbeats 1000000 in
theorem specTyped (av : Option Addr) (nv cv : Nat) (sc : List Int) (aa : Option Addr) (na ca : Nat) (args : List Int) (at_ : Option Addr) (nt ct : Nat) (tys : List Int) (D D1 D2 : Nat → Prop) (w : World) (hv : IntsL w D av nv sc) (ha : IntsL w D1 aa na args) (ht : IntsL w D2 at_ nt tys) (hnv : nv ≤ 4000000) (hna : na ≤ 9223372036854775807) :
    Calls Try.prog 64 #[.slice av nv cv, .slice aa na ca, .slice at_ nt ct] w fun e w' => e = .returned (.bool (typedL sc args tys)) ∧ Keep w w' := by
  refine calls_k fun Q hQ => ?_
  have HV := Lib.hid hv
  have HA := Lib.hid ha
  have HT := Lib.hid ht
  have HLV := Lib.hid hv.1
  have HLA := Lib.hid ha.1
  have HLT := Lib.hid ht.1
  clear hv ha ht
  by_cases hlt0 : na = nt
  case neg =>
    have V : Hid (typedL sc args tys = false) := typedL_len (by have := HLA.out; have := HLT.out; omega)
    go_enter Try.func64, Try.ntmps64
    go_wp2_with fail
    exact fin_ hQ ⟨ret_b V.out.symm, Ext.refl _ _⟩
  subst hlt0
  go_enter Try.func64, Try.ntmps64
  go_wp2_with fail
  go_loopw [7] (fun iv wr => ∃ j : Nat, j ≤ na ∧ iv = .int .i64 j ∧ Hid (∀ l, l < j → (0 ≤ iAt args l ∧ iAt args l < (sc.length : Int)) ∧ iAt sc (iAt args l).toNat = iAt tys l) ∧ Keep w wr) (fun iv _ => na - (intOf iv).toNat)
  case atStart => exact ⟨0, Nat.zero_le _, rfl, fun l hl => absurd hl (by omega), Ext.refl _ _⟩
  case round =>
    obtain ⟨j, hj, rfl, hI, hK⟩ := hrel
    by_cases hlt : j < na
    · obtain ⟨b, o, rfl, _, d0⟩ := HA.out.at hlt
      obtain ⟨b', o', rfl, _, d1⟩ := HT.out.at hlt
      have g0 := (hK.cell (World.block_lt_of_cell? w _ d0) (fun h => h)).trans d0
      have g1 := (hK.cell (World.block_lt_of_cell? w _ d1) (fun h => h)).trans d1
      have HJ : Hid (j < args.length) := by have := HLA.out; show _ < _; omega
      generalize hv : iAt args j = v at g0 d0
      generalize hu : iAt tys j = u at g1 d1
      have HVV := Lib.hid hv
      have HU := Lib.hid hu
      clear d0 d1 hv hu
      by_cases hr : 0 ≤ v ∧ v < (nv : Int)
      case neg =>
        have V : Hid (typedL sc args tys = false) := typedL_out HJ.out (by rw [HVV.out]; have := HLV.out; omega)
        have hd : decide (0 ≤ v ∧ v ≤ (nv : Int) - 1) = false := decide_eq_false (fun h => hr (by omega))
        have HD := Lib.hid hd
        clear hr hd
        go_wp2_with fail
        go_quiet ((go_at_call 41; exact Calls.quiet_of_same ((specInRange _ _ _ _).mono fun _ _ q => ⟨q.1.trans (by rw [HD.out]), q.2.symm⟩)))
        go_wp2_with fail
        exact fin_ hQ ⟨ret_b V.out.symm, by first | exact hK.drew | exact hK.drewN _⟩
      obtain ⟨k, rfl⟩ : ∃ k : Nat, v = (k : Int) := ⟨v.toNat, by omega⟩
      have hk : k < nv := by omega
      obtain ⟨b2, o2, rfl, _, d2⟩ := HV.out.at hk
      have g2 := (hK.cell (World.block_lt_of_cell? w _ d2) (fun h => h)).trans d2
      generalize hx : iAt sc k = x at g2 d2
      have HX := Lib.hid hx
      have hd : decide (0 ≤ (k : Int) ∧ (k : Int) ≤ (nv : Int) - 1) = true := decide_eq_true (by omega)
      have HD := Lib.hid hd
      clear hr hd d2 hx
      by_cases hxu : x = u
      · have hxu' : (x != u) = false := by simpa using hxu
        have hI2 : Hid (∀ l, l < j + 1 → (0 ≤ iAt args l ∧ iAt args l < (sc.length : Int)) ∧ iAt sc (iAt args l).toNat = iAt tys l) := by
          intro l hl
          rcases Nat.lt_succ_iff_lt_or_eq.1 hl with h | rfl
          · exact hI.out l h
          · rw [HVV.out, HU.out]
            exact ⟨by have := HLV.out; omega, by rw [show ((k : Int)).toNat = k from rfl, HX.out]; exact hxu⟩
        clear hxu
        go_wp2_with fail
        go_quiet ((go_at_call 41; exact Calls.quiet_of_same ((specInRange _ _ _ _).mono fun _ _ q => ⟨q.1.trans (by rw [HD.out]), q.2.symm⟩)))
        go_wp2_with fail
        go_roundw
        case rel => exact ⟨j + 1, by omega, by go_num, hI2, by first | exact hK.drew | exact hK.drewN _⟩
        case measure => simp [intOf]; omega
      · have hxu' : (x != u) = true := by simpa using hxu
        have V : Hid (typedL sc args tys = false) := typedL_ne HJ.out (by rw [HVV.out, HU.out, show ((k : Int)).toNat = k from rfl, HX.out]; exact hxu)
        clear hxu
        go_wp2_with fail
        go_quiet ((go_at_call 41; exact Calls.quiet_of_same ((specInRange _ _ _ _).mono fun _ _ q => ⟨q.1.trans (by rw [HD.out]), q.2.symm⟩)))
        go_wp2_with fail
        exact fin_ hQ ⟨ret_b V.out.symm, by first | exact hK.drew | exact hK.drewN _⟩
    · have V : Hid (typedL sc args tys = true) := typedL_yes (by have := HLA.out; have := HLT.out; omega) (fun l hl => hI.out l (by have := HLA.out; omega))
      go_wp2_with fail
      exact fin_ hQ ⟨ret_b V.out.symm, hK⟩
end Go.Proofs.Ytmekdccgjgfiaaa
/- The reference's types of steps: Into, Num, counting steps, lent parameters. -/
namespace Go.Proofs.Ytmekdccgjgfiaaa
open Go.RowKit

theorem specHasNum (op : Int) (w : World) : Calls Try.prog 62 #[.int .i64 op] w fun e w' => e = .returned (.bool (decide (op = 0 ∨ op = 6 ∨ op = 8 ∨ op = 9 ∨ op = 10))) ∧ w = w' := by
  refine calls_k fun Q hQ => ?_
  by_cases h : op = 0 ∨ op = 6 ∨ op = 8 ∨ op = 9 ∨ op = 10
  · have V := Lib.hid (decide_eq_true h)
    rcases h with rfl | rfl | rfl | rfl | rfl
    all_goals
      go_enter Try.func62, Try.ntmps62
      go_wp2_with fail
      exact fin_ hQ ⟨ret_b V.out.symm, rfl⟩
  · have V := Lib.hid (decide_eq_false h)
    have o0 : (op == 0) = false := by simp; omega
    have o6 : (op == 6) = false := by simp; omega
    have o8 : (op == 8) = false := by simp; omega
    have o9 : (op == 9) = false := by simp; omega
    have o10 : (op == 10) = false := by simp; omega
    clear h
    go_enter Try.func62, Try.ntmps62
    go_wp2_with fail
    exact fin_ hQ ⟨ret_b V.out.symm, rfl⟩

theorem specDefines (op : Int) (w : World) : Calls Try.prog 45 #[.int .i64 op] w fun e w' => e = .returned (.bool (decide (0 ≤ op ∧ op ≤ 11))) ∧ w = w' := by
  refine calls_k fun Q hQ => ?_
  go_enter Try.func45, Try.ntmps45
  go_wp2_with fail
  refine (specInRange _ _ _ _).mono ?_
  rintro e w1 ⟨rfl, rfl⟩
  go_wp2_with fail
  exact fin_ hQ ⟨ret_b (Bool.decide_and _ _).symm, rfl⟩

set_option maxRecDepth 100000 in
set_option maxHeartbeats 1000000 in
theorem specValidInto (av : Option Addr) (nv cv : Nat) (sc : List Int) (op num into : Int) (aa : Option Addr) (na ca : Nat) (ak : Option Addr) (nk ck : Nat) (D : Nat → Prop) (w : World) (hv : IntsL w D av nv sc) (hnv : nv ≤ 4000000) :
    Calls Try.prog 63 #[.slice av nv cv, .agg #[.int .i64 op, .int .i64 num, .int .i64 into, .slice aa na ca, .slice ak nk ck]] w fun e w' => e = .returned (.bool (intoOk sc op into)) ∧ Keep w w' := by
  refine calls_k fun Q hQ => ?_
  have K0 := Keep.al w (.cells #[.int .i64 op, .int .i64 num, .int .i64 into, .slice aa na ca, .slice ak nk ck] 89)
  have HV := Lib.hid hv
  have HLV := Lib.hid hv.1
  clear hv
  by_cases h0 : into = 0
  · subst h0
    have V : Hid (intoOk sc op 0 = true) := by simp [Hid, intoOk]
    go_enter Try.func63, Try.ntmps63
    go_wp2_with fail
    exact fin_ hQ ⟨ret_b V.out.symm, K0⟩
  have h0' : (into == 0) = false := by simpa using h0
  by_cases h6 : op = 6
  case neg =>
    have h6' : (op == 6) = false := by simpa using h6
    have V : Hid (intoOk sc op into = false) := decide_eq_false (by omega)
    clear h6 h0
    go_enter Try.func63, Try.ntmps63
    go_wp2_with fail
    exact fin_ hQ ⟨ret_b V.out.symm, K0⟩
  subst h6
  by_cases hr : 1 ≤ into ∧ into ≤ (nv : Int)
  case neg =>
    have V : Hid (intoOk sc 6 into = false) := decide_eq_false (by have := HLV.out; omega)
    have HD := Lib.hid (decide_eq_false hr)
    clear h0 hr
    go_enter Try.func63, Try.ntmps63
    go_wp2_with fail
    refine (specInRange _ _ _ _).mono ?_
    rw [HD.out]
    rintro e w1 ⟨rfl, rfl⟩
    go_wp2_with fail
    exact fin_ hQ ⟨ret_b V.out.symm, K0⟩
  have HD := Lib.hid (decide_eq_true hr)
  obtain ⟨k, rfl⟩ : ∃ k : Nat, into = (k : Int) + 1 := ⟨(into - 1).toNat, by omega⟩
  have hk : k < nv := by omega
  have hk2 : (k : Int) < (nv : Int) := by omega
  obtain ⟨b, o, rfl, _, d0⟩ := HV.out.at hk
  have g0 := (K0.cell (World.block_lt_of_cell? w _ d0) (fun h => h)).trans d0
  generalize hx : iAt sc k = x at g0 d0
  have HX := Lib.hid hx
  have hw1 : IntKind.i64.wrap (k : Int) = (k : Int) := by rw [IntWalk.i64_in _ (by omega)]
  clear d0 hx h0 hr
  have V : Hid (intoOk sc 6 ((k : Int) + 1) = decide (0 < x)) := by
    show _ = _
    rw [intoOk]
    rw [decide_eq_decide]
    rw [show ((k : Int) + 1).toNat - 1 = k from by omega, HX.out]
    have := HLV.out
    constructor
    · rintro (h | ⟨_, _, _, h⟩)
      · omega
      · exact h
    · intro h
      exact .inr ⟨rfl, by omega, by omega, h⟩
  go_enter Try.func63, Try.ntmps63
  go_wp2_with fail
  refine (specInRange _ _ _ _).mono ?_
  rw [HD.out]
  rintro e w1 ⟨rfl, rfl⟩
  go_wp2_with fail
  exact fin_ hQ ⟨ret_b (by rw [V.out]), K0⟩

/-- The type of a counting step whose Num is 0. -/
def cntS (ds : List DeclL) (sc : List Int) (op : Int) (args : List Int) : Int := if argsIn sc args = true then cntL ds op 0 (tysOf sc args) else -1

set_option maxRecDepth 100000 in
set_option maxHeartbeats 2000000 in
theorem specCountingType (ds : List DeclL) (a0 : Option Addr) (n0 c0 : Nat) (a1 : Option Addr) (n1 c1 : Nat) (av : Option Addr) (nv cv : Nat) (sc : List Int) (op num into : Int) (aa : Option Addr) (na ca : Nat) (args : List Int) (ak : Option Addr) (nk ck : Nat) (D0 D D1 : Nat → Prop) (w : World) (hd : Rd w D0 (encDecls ds) (.slice a0 n0 c0)) (hn0 : n0 ≤ 4) (hv : IntsL w D av nv sc) (hnv : nv ≤ 4000000) (ha : IntsL w D1 aa na args) :
    Calls Try.prog 70 #[.agg #[.slice a0 n0 c0, .slice a1 n1 c1], .slice av nv cv, .agg #[.int .i64 op, .int .i64 num, .int .i64 into, .slice aa na ca, .slice ak nk ck]] w fun e w' => e = .returned (.int .i64 (cntS ds sc op args)) ∧ Keep w w' := by
  refine calls_k fun Q hQ => ?_
  have K0 := (Keep.al w (.cells #[.slice a0 n0 c0, .slice a1 n1 c1] 36)).trans (Keep.al _ (.cells #[.int .i64 op, .int .i64 num, .int .i64 into, .slice aa na ca, .slice ak nk ck] 89))
  have qd := Lib.hid (hd.k K0)
  have HV := Lib.hid hv
  have HLV := Lib.hid hv.1
  have HA := Lib.hid ha
  have HLA := Lib.hid ha.1
  clear hv ha hd
  by_cases h1 : na = 1
  case neg =>
    have h1' : ((na : Int) != 1) = true := by simp; omega
    have V : Hid (cntS ds sc op args = -1) := by
      show _ = _
      rw [cntS]
      split
      · rw [cntL, if_neg (fun h => h1 (by have := h.2.1; rw [tysOf_len] at this; have := HLA.out; omega))]
      · rfl
    clear h1
    go_enter Try.func70, Try.ntmps70
    go_wp2_with fail
    exact fin_ hQ ⟨ret_i V.out.symm, K0⟩
  subst h1
  have HJ : Hid (0 < args.length) := by have := HLA.out; show _ < _; omega
  obtain ⟨b, o, rfl, _, d0⟩ := HA.out.at (i := 0) (by omega)
  rw [Nat.add_zero] at d0
  have g0 := (K0.cell (World.block_lt_of_cell? w _ d0) (fun h => h)).trans d0
  generalize hv : iAt args 0 = v at g0 d0
  have HVV := Lib.hid hv
  clear d0 hv
  by_cases hr : 0 ≤ v ∧ v < (nv : Int)
  case neg =>
    have V : Hid (cntS ds sc op args = -1) := by
      show _ = _
      rw [cntS, argsIn_neg HJ.out (by rw [HVV.out]; have := HLV.out; omega)]
      rfl
    have HD := Lib.hid (decide_eq_false (p := 0 ≤ v ∧ v ≤ (nv : Int) - 1) (fun h => hr (by omega)))
    clear hr
    go_enter Try.func70, Try.ntmps70
    go_wp2_with fail
    refine (specInRange _ _ _ _).mono ?_
    rw [HD.out]
    rintro e w1 ⟨rfl, rfl⟩
    go_wp2_with fail
    exact fin_ hQ ⟨ret_i V.out.symm, K0⟩
  obtain ⟨k, rfl⟩ : ∃ k : Nat, v = (k : Int) := ⟨v.toNat, by omega⟩
  have hk : k < nv := by omega
  have HAI : Hid (argsIn sc args = true) := argsIn_iff.2 (fun i hi => by
    obtain rfl : i = 0 := by have := HLA.out; omega
    rw [HVV.out]; have := HLV.out; omega)
  obtain ⟨b2, o2, rfl, _, d2⟩ := HV.out.at hk
  have g2 := (K0.cell (World.block_lt_of_cell? w _ d2) (fun h => h)).trans d2
  generalize hx : iAt sc k = x at g2 d2
  have HX := Lib.hid hx
  have HT0 : Hid (iAt (tysOf sc args) 0 = x) := by
    show _ = _
    rw [tysOf_at HJ.out, HVV.out]; exact HX.out
  have HTL : Hid ((tysOf sc args).length = 1) := by show _ = _; rw [tysOf_len]; exact HLA.out
  have HD := Lib.hid (decide_eq_true (p := 0 ≤ (k : Int) ∧ (k : Int) ≤ (nv : Int) - 1) (by omega))
  clear d2 hx hr
  by_cases hx0 : x = 0
  · subst hx0
    have V : Hid (cntS ds sc op args = -1) := by
      show _ = _
      rw [cntS, if_pos HAI.out, cntL, if_neg (fun h => h.2.2.1 HT0.out)]
    go_enter Try.func70, Try.ntmps70
    go_wp2_with fail
    refine (specInRange _ _ _ _).mono ?_
    rw [HD.out]
    rintro e w1 ⟨rfl, rfl⟩
    go_wp2_with fail
    exact fin_ hQ ⟨ret_i V.out.symm, K0⟩
  have hx0' : (x == 0) = false := by simpa using hx0
  have HX0 := Lib.hid hx0
  clear hx0
  by_cases h14 : op = 14 ∨ op = 15
  · have V : Hid (cntS ds sc op args = 0) := by
      show _ = _
      rw [cntS, if_pos HAI.out, cntL, if_pos ⟨rfl, HTL.out, by rw [HT0.out]; exact HX0.out, h14.elim .inl (fun h => .inr (.inl h))⟩]
    rcases h14 with rfl | rfl
    all_goals
      go_enter Try.func70, Try.ntmps70
      go_wp2_with fail
      refine (specInRange _ _ _ _).mono ?_
      rw [HD.out]
      rintro e w1 ⟨rfl, rfl⟩
      go_wp2_with fail
      go_quiet (fail)
      go_wp2_with fail
      exact fin_ hQ ⟨ret_i V.out.symm, by first | exact K0.drew | exact K0.drewN _⟩
  have o14 : (op != 14) = true := by simp; omega
  have o15 : (op != 15) = true := by simp; omega
  cases harr : isArr ds x
  · have V : Hid (cntS ds sc op args = 0) := by
      show _ = _
      rw [cntS, if_pos HAI.out, cntL, if_pos ⟨rfl, HTL.out, by rw [HT0.out]; exact HX0.out, .inr (.inr (by rw [HT0.out]; exact harr))⟩]
    have HR := Lib.hid harr
    clear h14 harr
    go_enter Try.func70, Try.ntmps70
    go_wp2_with fail
    refine (specInRange _ _ _ _).mono ?_
    rw [HD.out]
    rintro e w1 ⟨rfl, rfl⟩
    go_wp2_with fail
    go_quiet ((go_at_call 69; exact Calls.quiet_of_same ((specIsArrow _ _ _ ds _ _ _ ((Rd.toDecls qd.out).drewN _) (by omega)).mono fun _ _ q => ⟨q.1.trans (by rw [HR.out]), q.2.symm⟩)))
    go_wp2_with fail
    exact fin_ hQ ⟨ret_i V.out.symm, by first | exact K0.drew | exact K0.drewN _⟩
  · have V : Hid (cntS ds sc op args = -1) := by
      show _ = _
      rw [cntS, if_pos HAI.out, cntL, if_neg (fun h => by
        rcases h.2.2.2 with h | h | h
        · exact h14 (.inl h)
        · exact h14 (.inr h)
        · rw [HT0.out, harr] at h; exact absurd h (by simp))]
    have HR := Lib.hid harr
    clear h14 harr
    go_enter Try.func70, Try.ntmps70
    go_wp2_with fail
    refine (specInRange _ _ _ _).mono ?_
    rw [HD.out]
    rintro e w1 ⟨rfl, rfl⟩
    go_wp2_with fail
    go_quiet ((go_at_call 69; exact Calls.quiet_of_same ((specIsArrow _ _ _ ds _ _ _ ((Rd.toDecls qd.out).drewN _) (by omega)).mono fun _ _ q => ⟨q.1.trans (by rw [HR.out]), q.2.symm⟩)))
    go_wp2_with fail
    exact fin_ hQ ⟨ret_i V.out.symm, by first | exact K0.drew | exact K0.drewN _⟩
end Go.Proofs.Ytmekdccgjgfiaaa
