/- validSigs of the program. -/
import Derived.Test.YtkapldpmjkdmcaaGreatSAC
import Derived.Test.YtkapldpmjkdmcaaGreatSAE
import Derived.Test.YtkapldpmjkdmcaaGreatSAD
import Derived.Test.YtkapldpmjkdmcaaGreatSAG
import Derived.StillTailTactics
namespace Go.Proofs.YtkapldpmjkdmcaaGreat
open Go.RowKit

theorem lentAt_neg {s : SigL} {k : Nat} (h : iAt s.lent k < 0) : lentAt s k = false := by
  have e : decide (0 ≤ iAt s.lent k) = false := decide_eq_false (by omega)
  simp only [lentAt, e, Bool.false_and]
theorem lentAt_big {s : SigL} {k : Nat} (h : (s.params.length : Int) ≤ iAt s.lent k) : lentAt s k = false := by
  have e : decide (iAt s.lent k < (s.params.length : Int)) = false := decide_eq_false (by omega)
  simp only [lentAt, e, Bool.false_and, Bool.and_false]
theorem lentAt_int {s : SigL} {k v : Nat} (hv : iAt s.lent k = (v : Int)) (h : iAt s.params v = 0) : lentAt s k = false := by
  have e : decide (iAt s.params (iAt s.lent k).toNat ≠ 0) = false := decide_eq_false (by rw [hv, Int.toNat_natCast]; simpa using h)
  simp only [lentAt, e, Bool.false_and, Bool.and_false]
theorem lentAt_order {s : SigL} {k : Nat} (hk : 0 < k) (h : iAt s.lent k ≤ iAt s.lent (k - 1)) : lentAt s k = false := by
  have e : (decide (k = 0) || decide (iAt s.lent (k - 1) < iAt s.lent k)) = false := by simp; omega
  simp only [lentAt, e, Bool.and_false]
theorem lentAt_yes {s : SigL} {k v : Nat} (hv : iAt s.lent k = (v : Int)) (h1 : v < s.params.length) (h2 : iAt s.params v ≠ 0) (h3 : k = 0 ∨ iAt s.lent (k - 1) < iAt s.lent k) : lentAt s k = true := by
  have e : (decide (k = 0) || decide (iAt s.lent (k - 1) < iAt s.lent k)) = true := by simpa using h3
  have e1 : decide (0 ≤ iAt s.lent k) = true := decide_eq_true (by omega)
  have e2 : decide (iAt s.lent k < (s.params.length : Int)) = true := decide_eq_true (by omega)
  have e3 : decide (iAt s.params (iAt s.lent k).toNat ≠ 0) = true := decide_eq_true (by rw [hv, Int.toNat_natCast]; exact h2)
  simp only [lentAt, e, e1, e2, e3, Bool.and_self]

set_option maxRecDepth 100000 in
set_option maxHeartbeats 4000000 in
theorem implValidSigs0 (ds : List DeclL) (sg : List SigL) (a0 : Option Addr) (n0 c0 : Nat) (a1 : Option Addr) (n1 c1 : Nat) (D0 D1 : Nat → Prop) (w : World) (r0 : Rd w D0 (encDecls ds) (.slice a0 n0 c0)) (r1 : Rd w D1 (encSigs sg) (.slice a1 n1 c1)) :
    Calls Tryz.prog 114 #[.slice a0 n0 c0, .slice a1 n1 c1] w fun e w' => e = .returned (.bool (sigsOk ds sg)) ∧ Keep w w' := by
  refine calls_k fun Q hQ => ?_
  have hd0 := Lib.hid (r0.toDecls.1)
  have hnc0 := (decls_at r0).2.1
  obtain ⟨e1, hnc, hm, hat⟩ := sigs_at r1
  have HL := Lib.hid e1
  have HA := Lib.hid hat
  clear e1 hat
  cases v1 : typesOk ds
  · have V := Lib.hid (sigsOk_types (sg := sg) v1)
    have V1 := Lib.hid v1
    clear v1
    go_enter Tryz.func114, Tryz.ntmps114
    go_wp2_with fail
    refine (implValidTypes _ _ _ _ _ _ r0.toDecls hnc0).mono ?_
    rw [V1.out]
    rintro e w1 ⟨rfl, p1⟩
    go_wp2_with fail
    exact fin_ hQ ⟨ret_b V.out.symm, p1⟩
  have V1 := Lib.hid v1
  clear v1
  by_cases hl1 : 1 ≤ n1
  case neg =>
    have V := Lib.hid (sigsOk_len (ds := ds) (sg := sg) (by have := HL.out; omega))
    go_enter Tryz.func114, Tryz.ntmps114
    go_wp2_with fail
    refine (implValidTypes _ _ _ _ _ _ r0.toDecls hnc0).mono ?_
    rw [V1.out]
    rintro e w1 ⟨rfl, p1⟩
    go_wp2_with fail
    exact fin_ hQ ⟨ret_b V.out.symm, p1⟩
  by_cases hl4 : n1 ≤ 4
  case neg =>
    have V := Lib.hid (sigsOk_len (ds := ds) (sg := sg) (by have := HL.out; omega))
    go_enter Tryz.func114, Tryz.ntmps114
    go_wp2_with fail
    refine (implValidTypes _ _ _ _ _ _ r0.toDecls hnc0).mono ?_
    rw [V1.out]
    rintro e w1 ⟨rfl, p1⟩
    go_wp2_with fail
    exact fin_ hQ ⟨ret_b V.out.symm, p1⟩
  obtain ⟨b, o, rfl, hd, a3, n3, c3, a4, n4, c4, d0, d1, d2, r3, r4⟩ := HA.out 0 (by omega)
  rw [Nat.zero_mul, Nat.add_zero] at d0 d1 d2
  have hP0 := Lib.hid r3.toInts.1
  clear r3 r4 d1
  by_cases h0 : n3 = 0
  case neg =>
    have V := Lib.hid (sigsOk_first (ds := ds) (sg := sg) (fun h => h0 (by have := h.1; have := hP0.out; omega)))
    go_enter Tryz.func114, Tryz.ntmps114
    go_wp2_with fail
    refine (implValidTypes _ _ _ _ _ _ r0.toDecls hnc0).mono ?_
    rw [V1.out]
    rintro e w1 ⟨rfl, p1⟩
    have g0 := (p1.cell (World.block_lt_of_cell? w _ d0) (fun h => h)).trans d0
    have g2 := (p1.cell (World.block_lt_of_cell? w _ d2) (fun h => h)).trans d2
    go_wp2_with fail
    exact fin_ hQ ⟨ret_b V.out.symm, p1⟩
  by_cases h5 : (sgAt sg 0).result = 0
  case neg =>
    have V := Lib.hid (sigsOk_first (ds := ds) (sg := sg) (fun h => h5 h.2))
    have h5' : ((sgAt sg 0).result != 0) = true := by simpa using h5
    subst h0
    go_enter Tryz.func114, Tryz.ntmps114
    go_wp2_with fail
    refine (implValidTypes _ _ _ _ _ _ r0.toDecls hnc0).mono ?_
    rw [V1.out]
    rintro e w1 ⟨rfl, p1⟩
    have g0 := (p1.cell (World.block_lt_of_cell? w _ d0) (fun h => h)).trans d0
    have g2 := (p1.cell (World.block_lt_of_cell? w _ d2) (fun h => h)).trans d2
    go_wp2_with fail
    exact fin_ hQ ⟨ret_b V.out.symm, p1⟩
  have V5 := Lib.hid h5
  subst h0
  rw [h5] at d2
  clear h5
  go_enter Tryz.func114, Tryz.ntmps114
  go_wp2_with fail
  refine (implValidTypes _ _ _ _ _ _ r0.toDecls hnc0).mono ?_
  rw [V1.out]
  rintro e w1 ⟨rfl, p1⟩
  have g0 := (p1.cell (World.block_lt_of_cell? w _ d0) (fun h => h)).trans d0
  have g2 := (p1.cell (World.block_lt_of_cell? w _ d2) (fun h => h)).trans d2
  go_wp2_with fail
  clear g0 g2 d0 d2
  go_loopw [39] (fun iv wr => ∃ j : Nat, j ≤ n1 ∧ iv = .int .i64 j ∧ Hid (∀ l, l < j → sigOk n0 (sgAt sg l) = true) ∧ Keep w wr) (fun i _ => n1 - (intOf i).toNat)
  case atStart => exact ⟨0, Nat.zero_le _, rfl, fun j hj => absurd hj (by omega), p1⟩
  case round =>
    obtain ⟨wo, rfl⟩ : ∃ wo : World, wo = wr := ⟨_, rfl⟩
    obtain ⟨j, hj, rfl, H, hK⟩ := hrel
    by_cases hlt : j < n1
    · obtain ⟨_, _, e, hd, a3, n3, c3, a4, n4, c4, d0, d1, d2, r3, r4⟩ := HA.out j hlt
      injection e with e
      injection e with e1 e2
      subst e1
      subst e2
      have g0 := (hK.cell (World.block_lt_of_cell? w _ d0) (fun h => h)).trans d0
      have g1 := (hK.cell (World.block_lt_of_cell? w _ d1) (fun h => h)).trans d1
      have g2 := (hK.cell (World.block_lt_of_cell? w _ d2) (fun h => h)).trans d2
      have hP := Lib.hid r3.toInts.1
      have ka := Keep.al wo (.cells #[.slice a3 n3 c3, .slice a4 n4 c4, .int .i64 (sgAt sg j).result] 164)
      have q3 := Lib.hid (((r3.k hK).k ka))
      have q4 := Lib.hid (((r4.k hK).k ka))
      have hKa := Lib.hid (hK.trans ka)
      have hj' := Lib.hid (show j < sg.length by have := HL.out; omega)
      clear d0 d1 d2 r3 r4 ka
      by_cases h3 : n3 ≤ 3
      case neg =>
        have V := Lib.hid (sigsOk_at (ds := ds) hd0.out hj'.out (sigOk_len (n := n0) (by have := hP.out; omega)))
        go_wp2_with fail
        exact fin_ hQ ⟨ret_b V.out.symm, hKa.out⟩
      cases v3 : allT n0 (sgAt sg j).params
      · have V := Lib.hid (sigsOk_at (ds := ds) hd0.out hj'.out (sigOk_params v3))
        have V3 := Lib.hid v3
        clear v3
        go_wp2_with fail
        refine (implAllTypes _ _ _ _ _ _ _ _ _ q3.out.toInts (by omega)).mono ?_
        rw [V3.out]
        rintro e w2 ⟨rfl, rfl⟩
        go_wp2_with fail
        exact fin_ hQ ⟨ret_b V.out.symm, hKa.out⟩
      have V3 := Lib.hid v3
      clear v3
      cases v4 : isT n0 (sgAt sg j).result
      · have V := Lib.hid (sigsOk_at (ds := ds) hd0.out hj'.out (sigOk_result v4))
        have V4 := Lib.hid v4
        clear v4
        go_wp2_with fail
        refine (implAllTypes _ _ _ _ _ _ _ _ _ q3.out.toInts (by omega)).mono ?_
        rw [V3.out]
        rintro e w2 ⟨rfl, rfl⟩
        go_wp2_with fail
        refine (implIsType_no _ _ _ _ _ V4.out).mono ?_
        rintro e w2 ⟨rfl, rfl⟩
        go_wp2_with fail
        exact fin_ hQ ⟨ret_b V.out.symm, hKa.out⟩
      have V4 := Lib.hid v4
      clear v4
      go_wp2_with fail
      refine (implAllTypes _ _ _ _ _ _ _ _ _ q3.out.toInts (by omega)).mono ?_
      rw [V3.out]
      rintro e w2 ⟨rfl, rfl⟩
      go_wp2_with fail
      refine (implIsType_yes _ _ _ _ _ V4.out).mono ?_
      rintro e w2 ⟨rfl, rfl⟩
      go_wp2_with fail
      clear g0 g1 g2
      obtain ⟨eP, _, _, hatP⟩ := ints_at q3.out
      obtain ⟨eL, _, hmL, hatL⟩ := ints_at q4.out
      have HP := Lib.hid hatP
      have HLn := Lib.hid hatL
      have EL := Lib.hid eL
      clear eP eL hatP hatL
      go_loopw [64] (fun iv wr => ∃ k : Nat, k ≤ n4 ∧ iv = .int .i64 k ∧ Hid (∀ l, l < k → lentAt (sgAt sg j) l = true) ∧ Keep (wo.alloc (.cells #[.slice a3 n3 c3, .slice a4 n4 c4, .int .i64 (sgAt sg j).result] 164)) wr) (fun i _ => n4 - (intOf i).toNat)
      case atStart => exact ⟨0, Nat.zero_le _, rfl, fun j hj => absurd hj (by omega), Ext.refl _ _⟩
      case round =>
        obtain ⟨wi, rfl⟩ : ∃ wi : World, wi = wr := ⟨_, rfl⟩
        obtain ⟨k, hk, rfl, H2, hK2⟩ := hrel
        have y0 := boxk hK2 0
        have y1 := boxk hK2 1
        simp only [List.getElem?_toArray, List.getElem?_cons_zero, List.getElem?_cons_succ] at y0 y1
        by_cases hltk : k < n4
        · obtain ⟨b4, o4, rfl, _, f0⟩ := HLn.out k hltk
          have t0 := (hK2.cell (World.block_lt_of_cell? _ _ f0) (fun h => h)).trans f0
          clear f0
          have hk' := Lib.hid (show k < (sgAt sg j).lent.length by have := EL.out; omega)
          by_cases c1 : iAt (sgAt sg j).lent k < 0
          · have V := Lib.hid (sigsOk_at (ds := ds) hd0.out hj'.out (sigOk_lent hk'.out (lentAt_neg c1)))
            go_wp2_with fail
            exact fin_ hQ ⟨ret_b V.out.symm, hKa.out.trans hK2⟩
          by_cases c2 : (n3 : Int) ≤ iAt (sgAt sg j).lent k
          · have V := Lib.hid (sigsOk_at (ds := ds) hd0.out hj'.out (sigOk_lent hk'.out (lentAt_big (by have := hP.out; omega))))
            go_wp2_with fail
            exact fin_ hQ ⟨ret_b V.out.symm, hKa.out.trans hK2⟩
          obtain ⟨v, hv⟩ : ∃ v : Nat, iAt (sgAt sg j).lent k = (v : Int) := ⟨(iAt (sgAt sg j).lent k).toNat, by omega⟩
          rw [hv] at t0 c1 c2
          have hv3 : v < n3 := by omega
          have HV := Lib.hid hv
          obtain ⟨b3, o3, rfl, _, f3⟩ := HP.out v hv3
          have t3 := (hK2.cell (World.block_lt_of_cell? _ _ f3) (fun h => h)).trans f3
          clear f3 c1 c2 hv
          by_cases c3 : iAt (sgAt sg j).params v = 0
          · have V := Lib.hid (sigsOk_at (ds := ds) hd0.out hj'.out (sigOk_lent hk'.out (lentAt_int HV.out c3)))
            rw [c3] at t3
            clear c3
            go_wp2_with fail
            exact fin_ hQ ⟨ret_b V.out.symm, hKa.out.trans hK2⟩
          have c3' : (iAt (sgAt sg j).params v == 0) = false := by simpa using c3
          by_cases c4 : k = 0
          · have V := Lib.hid (lentAt_yes HV.out (by have := hP.out; omega) c3 (.inl c4))
            have HK0 := Lib.hid c4
            have c4' : ¬ (0 : Int) < (k : Int) := by omega
            clear c3 c4
            go_wp2_with fail
            go_roundw
            case rel => exact ⟨k + 1, by omega, by go_num, fun l hl => by
              obtain rfl : l = k := by have := HK0.out; omega
              exact V.out, hK2⟩
            case measure => simp [intOf]; omega
          obtain ⟨k, rfl⟩ : ∃ m, k = m + 1 := ⟨k - 1, by omega⟩
          obtain ⟨_, _, e, _, f5⟩ := HLn.out k (by omega)
          injection e with e
          injection e with e1 e2
          subst e1
          subst e2
          have t5 := (hK2.cell (World.block_lt_of_cell? _ _ f5) (fun h => h)).trans f5
          clear f5 c4
          have wr1 : IntKind.i64.wrap (((k + 1 : Nat) : Int) - 1) = (k : Int) := by
            have : ((k + 1 : Nat) : Int) - 1 = (k : Int) := by omega
            rw [this]
            exact IntWalk.i64_in _ (by omega)
          have wr2 : IntKind.i64.wrap ((k : Int) + 1 - 1) = (k : Int) := by rw [show (k : Int) + 1 - 1 = (k : Int) by omega]; exact IntWalk.i64_in _ (by omega)
          by_cases c5 : (v : Int) ≤ iAt (sgAt sg j).lent k
          · have V := Lib.hid (sigsOk_at (ds := ds) hd0.out hj'.out (sigOk_lent hk'.out (lentAt_order (Nat.succ_pos k) (by rw [HV.out]; exact c5))))
            clear c3
            go_wp2_with fail
            exact fin_ hQ ⟨ret_b V.out.symm, hKa.out.trans hK2⟩
          · have V := Lib.hid (lentAt_yes HV.out (by have := hP.out; omega) c3 (.inr (by rw [HV.out]; show iAt _ k < _; omega)))
            clear c3
            go_wp2_with fail
            go_roundw
            case rel => exact ⟨k + 1 + 1, by omega, by go_num, fun l hl => by
              rcases Nat.lt_succ_iff_lt_or_eq.1 hl with h | rfl
              · exact H2.out l h
              · exact V.out, hK2⟩
            case measure => simp [intOf]; omega
        · have V := Lib.hid (sigOk_yes (n := n0) (s := sgAt sg j) (by have := hP.out; omega) V3.out V4.out (fun l hl => H2.out l (by have := EL.out; omega)))
          go_wp2_with fail
          go_roundw
          case rel => exact ⟨j + 1, by omega, by go_num, fun l hl => by
            rcases Nat.lt_succ_iff_lt_or_eq.1 hl with h | rfl
            · exact H.out l h
            · exact V.out, (hK.trans (Keep.al _ _)).trans hK2⟩
          case measure => simp [intOf]; omega
    · have V := Lib.hid (sigsOk_yes (n := n0) hd0.out V1.out (by have := HL.out; omega) (by have := HL.out; omega) hP0.out V5.out (fun i hi => H.out i (by have := HL.out; omega)))
      go_wp2_with fail
      exact fin_ hQ ⟨ret_b V.out.symm, hK⟩
end Go.Proofs.YtkapldpmjkdmcaaGreat
/- ValidSigs of both. -/
namespace Go.Proofs.YtkapldpmjkdmcaaGreat
open Go.RowKit


/-- An empty slice with room. -/
theorem wpList_makeR {P : Program} (w : World) {ops : Array Oper} {rest : List Oper} {o : Oper} {a : Act} {Q : Exit → Act → World → Prop}
    (hg : o.guard = none) (l c : Operand) (t : TypeId) (hop : o.op = Op.makeSlice t l c)
    (base : Nat) (e : TypeId) (z : Value) (size bytes : Nat) (h1 : P.underlying t = some (.slice e)) (hinfo : (P.info? e).map (fun i => (i.zero, i.size, i.bytes)) = some (some z, size, bytes))
    (C : Int) (n : Nat) (hl : a.eval l = .int .i64 0) (hc : a.eval c = .int .i64 C) (hC : C = (n : Int)) (b2 : bytes * n ≤ 281474976710656) (b3 : n ≤ maxLen) (b4 : base ≤ w.heap.size) (D : Nat → Prop)
    (hK : ∀ w', AccR w' base D e size (.slice (some ⟨w.heap.size, 0, none⟩) 0 n) [] → Keep w w' → wpList P ops Q rest (a.put o.dst (.slice (some ⟨w.heap.size, 0, none⟩) 0 n)) w') :
    wpList P ops Q (o :: rest) a w := by
  obtain ⟨i, hi, hz0, hz1, hz2⟩ := info_parts hinfo
  exact wpList_make_own w hg l c t hop base e i z size h1 hi hz0 hz1 .i64 .i64 C n hl hc hC (by rw [hz2]; exact b2) b3 b4 (fun w' h g => hK w' ⟨[], h, by simp, by simp⟩ (Ext.grown (Ext.refl _ _) g (fun k hk => by cases hk)))

/-- One signature, laid into a new block. -/
theorem lit_sig (w : World) (D : Nat → Prop) (T : TypeId) (s : SigL) (a : Option Addr) (n c : Nat) (a' : Option Addr) (n' c' : Nat) (hB : D w.heap.size) (h : Rd w D (encInts s.params) (.slice a n c)) (h' : Rd w D (encInts s.lent) (.slice a' n' c')) :
    Rd (w.alloc (.cells #[.slice a n c, .slice a' n' c', .int .i64 s.result] T)) D (encSigs [s]) (.slice (some ⟨w.heap.size, 0, none⟩) 1 1) := by
  refine Rd.litD w D T 3 _ ([s].map rowG) 1 hB (by simp) (by omega) (by omega) (by simp) (fun i hi => by rw [sigs_row [s] i (by simpa using hi)]; rfl) (fun i j hi hj => ?_)
  obtain rfl : i = 0 := by simpa using hi
  rcases (show j = 0 ∨ j = 1 ∨ j = 2 by omega) with rfl | rfl | rfl
  · exact ⟨_, rfl, h⟩
  · exact ⟨_, rfl, h'⟩
  · exact ⟨_, rfl, .num s.result⟩

set_option maxRecDepth 100000 in
set_option maxHeartbeats 2000000 in
theorem implValidSigs (ds : List DeclL) (fs : List FuncL) (a0 : Option Addr) (n0 c0 : Nat) (a1 : Option Addr) (n1 c1 : Nat) (D0 D1 : Nat → Prop) (w : World) (r0 : Rd w D0 (encDecls ds) (.slice a0 n0 c0)) (r1 : Rd w D1 (encFuncs fs) (.slice a1 n1 c1)) :
    Calls Tryz.prog 62 #[.agg #[.slice a0 n0 c0, .slice a1 n1 c1]] w fun e w' => e = .returned (.bool (sigsOk ds (fs.map sigF))) ∧ Keep w w' := by
  refine calls_k fun Q hQ => ?_
  have K0 := Keep.al w (.cells #[.slice a0 n0 c0, .slice a1 n1 c1] 44)
  obtain ⟨e1, hnc, hm, hat⟩ := funcs_at r1
  have HL := Lib.hid e1
  have HA := Lib.hid hat
  have HLM : Hid ((fs.map sigF).length = n1) := by show _ = _; simp [e1]
  clear e1 hat
  by_cases hl4 : n1 ≤ 4
  case neg =>
    have V := Lib.hid (sigsOk_len (ds := ds) (sg := fs.map sigF) (by have := HLM.out; omega))
    go_enter Tryz.func62, Tryz.ntmps62
    go_wp2_with (at_make; refine wpList_makeR _ rfl _ _ 128 rfl (w.heap.size + 1) 164 (.agg #[.slice none 0 0, .slice none 0 0, .int .i64 0]) 3 56 Tryz.underlying128 (by kernel_rfl) 4 4 rfl rfl rfl (by omega) (by simp [maxLen]) (by simp) (fun k => k ≠ w.heap.size) ?_; intro w1 hA hk1; have x1 := boxk hk1 1; simp at x1)
    exact fin_ hQ ⟨ret_b V.out.symm, K0.trans hk1⟩
  have ER : Hid (∀ j, j < n1 → (fs.map sigF).take (j + 1) = (fs.map sigF).take j ++ [sigF (fAt fs j)]) := fun j hj => by
    have hj' : j < (fs.map sigF).length := by have := HLM.out; omega
    rw [List.take_succ_eq_append_getElem hj', ← sgAt_get hj', sgAt_sigF _ (by simpa using hj')]
  go_enter Tryz.func62, Tryz.ntmps62
  go_wp2_with (at_make; refine wpList_makeR _ rfl _ _ 128 rfl (w.heap.size + 1) 164 (.agg #[.slice none 0 0, .slice none 0 0, .int .i64 0]) 3 56 Tryz.underlying128 (by kernel_rfl) 4 4 rfl rfl rfl (by omega) (by simp [maxLen]) (by simp) (fun k => k ≠ w.heap.size) ?_; intro w1 hA hk1; have x1 := boxk hk1 1; simp at x1)
  clear x1
  go_loopw [3, 14] (fun sv iv wr => ∃ j : Nat, j ≤ n1 ∧ iv = .int .i64 j ∧ AccR wr (w.heap.size + 1) (fun k => k ≠ w.heap.size) 164 3 sv (((fs.map sigF).take j).map rowG) ∧ Keep (w.alloc (.cells #[.slice a0 n0 c0, .slice a1 n1 c1] 44)) wr) (fun _ i _ => n1 - (intOf i).toNat)
  case atStart => exact ⟨0, Nat.zero_le _, rfl, by simpa using hA, hk1⟩
  case round =>
    obtain ⟨j, hj, rfl, hB, hK⟩ := hrel
    have hs := hK.size
    simp at hs
    by_cases hlt : j < n1
    · obtain ⟨b, o, rfl, hd, a3, n3, c3, a4, n4, c4, d0, d1, d2, d3, d4, r3, r4⟩ := HA.out j hlt
      have hKw := K0.trans hK
      have g0 := (hKw.cell (World.block_lt_of_cell? w _ d0) (fun h => h)).trans d0
      have g1 := (hKw.cell (World.block_lt_of_cell? w _ d1) (fun h => h)).trans d1
      have g2 := (hKw.cell (World.block_lt_of_cell? w _ d2) (fun h => h)).trans d2
      have g3 := (hKw.cell (World.block_lt_of_cell? w _ d3) (fun h => h)).trans d3
      have g4 := (hKw.cell (World.block_lt_of_cell? w _ d4) (fun h => h)).trans d4
      have ka := Keep.al wr (.cells #[.slice a3 n3 c3, .int .i64 (fAt fs j).result, .int .i64 (fAt fs j).body.op, .int .i64 (fAt fs j).body.num, .slice a4 n4 c4] 60)
      have bnd := hB.bound
      have q3 := ((r3.lt.k hKw).k ka).mono (D' := fun k => k ≠ w.heap.size ∧ u3.ownBlock ≠ some k) (fun k hk => ⟨by omega, fun e => by have := bnd k e; omega⟩)
      have kl := Keep.al (wr.alloc (.cells #[.slice a3 n3 c3, .int .i64 (fAt fs j).result, .int .i64 (fAt fs j).body.op, .int .i64 (fAt fs j).body.num, .slice a4 n4 c4] 60)) (.cells #[.slice a3 n3 c3, .slice none 0 0, .int .i64 (fAt fs j).result] 164)
      have hX := lit_sig (wr.alloc (.cells #[.slice a3 n3 c3, .int .i64 (fAt fs j).result, .int .i64 (fAt fs j).body.op, .int .i64 (fAt fs j).body.num, .slice a4 n4 c4] 60)) (fun k => k ≠ w.heap.size ∧ u3.ownBlock ≠ some k) 164 (sigF (fAt fs j)) a3 n3 c3 none 0 0 ⟨by simp; omega, fun e => by have := bnd _ e; simp at this; omega⟩ q3 (.nil 1 none 0)
      simp only [World.size_alloc, sigF] at hX
      have hO2 := (hB.keep ka).keep kl
      have hlr : (((fs.map sigF).take j).map rowG).length = j := by
        rw [List.length_map, List.length_take, HLM.out]; omega
      have HLR := Lib.hid hlr
      have hBB := Lib.hid (hK.trans (ka.trans kl))
      clear d0 d1 d2 d3 d4 r3 r4 bnd q3 hlr hKw ka kl hB
      go_wp2_with (at_builtin; go_must (refine wpList_appR _ rfl (.tmp 18) (.tmp 24) 128 rfl (w.heap.size + 1) 164 (.agg #[.slice none 0 0, .slice none 0 0, .int .i64 0]) 3 56 Tryz.underlying128 (by kernel_rfl) rfl (by omega) (fun k => k ≠ w.heap.size) _ _ rfl hO2 _ 1 1 _ _ rfl hX (fun k _ hk => hk) (by rw [HLR.out]; omega) (by rw [HLR.out]; omega) (by simp; omega) ?_); intro v1 w10 hA2 xA sA)
      go_roundw
      case rel => exact ⟨j + 1, by omega, by go_num, by rw [ER.out j hlt, List.map_append]; exact hA2, hBB.out.then_ xA (fun q hq h => by simp at hq; omega)⟩
      case measure => simp [intOf]; omega
    · have HJ : Hid (j = n1) := by show _ = _; omega
      have x0 := boxk hK 0
      simp at x0
      rw [List.take_of_length_le (by have := HLM.out; have := HJ.out; omega)] at hB
      obtain ⟨a', c', e, _, _, rd⟩ := hB.read (by omega)
      rw [List.length_map, HLM.out] at e
      subst e
      go_wp2_with fail
      refine (implValidSigs0 ds (fs.map sigF) a0 n0 c0 a' n1 c' _ _ wr (r0.k (K0.trans hK)) rd).mono ?_
      rintro e w2 ⟨rfl, p2⟩
      go_wp2_with fail
      exact fin_ hQ ⟨rfl, (K0.trans hK).trans p2⟩
end Go.Proofs.YtkapldpmjkdmcaaGreat
/- lower of the reference: numbers, variables, bindings, other operations. -/
namespace Go.Proofs.YtkapldpmjkdmcaaGreat
open Go.RowKit

/-- append of an integer to a row of the call's own. -/
theorem wpList_appVR (w : World) {ops : Array Oper} {rest : List Oper} {o : Oper} {a : Act} {Q : Exit → Act → World → Prop} (hgd : o.guard = none) (s x : Operand)
    (ho : o.op = .call { callee := .builtin .append, args := #[s, x], argTypes := #[52, 52] })
    (base : Nat) (v : Value) (xs : List Int) (hs : a.eval s = v) (hown : VR w base v xs) (g c : Nat) (y : Int) (hx : a.eval x = .slice (some ⟨g, 0, none⟩) 1 c) (hc : w.cell? ⟨g, 0, none⟩ = some (.int .i64 y)) (hn : xs.length ≤ 4000000) (hbase : base ≤ w.heap.size)
    (h : ∀ v' w', AppV w base v xs y v' w' → wpList Tryz.prog ops Q rest (a.put o.dst v') w') : wpList Tryz.prog ops Q (o :: rest) a w := by
  refine wpList_plain hgd fun K hK => ?_
  obtain ⟨v', w', hrun, h1⟩ := run_appV w o.type base v xs hown g c y hc hn hbase
  unfold Oper.wp execOp
  simp only [ho, resolve, invoke, builtin, Sem.run_bind, Sem.run_pure, Result.andThen_ok, List.map_toArray, List.map_cons, List.map_nil, hs, hx, hrun]
  exact hK _ _ (h v' w' h1)
theorem VR.made (w : World) : VR (w.alloc (.cells #[] 3)) w.heap.size (.slice (some ⟨w.heap.size, 0, none⟩) 0 0) [] := World.ownsRow_made w #[] 0 (Nat.le_refl _) (by simp [maxLen]) rfl

theorem rowsS_app (a b : List StepL) : rowsS (a ++ b) = rowsS a ++ rowsS b := by simp [rowsS_map]
/-- What can be read aside of a list in the making: what could be read at the call, and the call's two boxes. -/
def Aside (D1 : Nat → Prop) (w : World) (k : Nat) : Prop := (D1 k ∧ k < w.heap.size) ∨ k = w.heap.size ∨ k = w.heap.size + 1
theorem at_low {w w' : World} {q : Nat} {D D' E : Nat → Prop} {v v' u : Value} {p : Addr} (hx : LowTo w w' q D D' v v') (hE : ∀ k, E k → k ≠ q ∧ v.ownBlock ≠ some k) (h : w.cell? p = some u) (hp : E p.block) : w'.cell? p = some u :=
  hx.cell h (hE _ hp).1 (hE _ hp).2
theorem aside_next {w wa w' : World} {q : Nat} {D D' D1 : Nat → Prop} {v v' : Value} (hE : ∀ k, Aside D1 w k → k ≠ q ∧ v.ownBlock ≠ some k) (hs : w.heap.size + 2 ≤ wa.heap.size) (hx : LowTo wa w' q D D' v v') : ∀ k, Aside D1 w k → k ≠ q ∧ v'.ownBlock ≠ some k :=
  aside_low hE (fun k hk => by rcases hk with hk | rfl | rfl <;> omega) hx

/-- What lower does for one expression. -/
def LwS (ds : List DeclL) (sg : List SigL) (e : ExprL) : Prop := ∀ (vars env : List Int) (n : Nat) (N : Int) (q base : Nat) (D D1 : Nat → Prop) (v : Value) (rows : List (List Dat)) (a0 : Option Addr) (n0 c0 : Nat) (a1 : Option Addr) (n1 c1 : Nat) (av : Option Addr) (nv cv : Nat) (a : Option Addr) (m c : Nat) (w : World),
  LowSt w base q 196 #[v, .int .i64 N] D v rows → N = (n : Int) → Rd w D1 (encDecls ds) (.slice a0 n0 c0) → Rd w D1 (encInts env) (.slice av nv cv) → Rd w D1 (encExprs e.kids) (.slice a m c) →
  (∀ k, D1 k → k ≠ q ∧ v.ownBlock ≠ some k) → 0 ≤ tyE ds sg vars e → vars.length = env.length → env.length + 4 * nE e ≤ 4000 → n + 4 * nE e ≤ 4000 → rows.length + nE e ≤ 4000 →
  Calls Tryz.prog 153 #[.pointer (some ⟨q, 0, none⟩), .agg #[.slice a0 n0 c0, .slice a1 n1 c1], .agg #[.int .i64 e.op, .int .i64 e.num, .slice a m c], .slice av nv cv] w fun r w' =>
    ∃ v' D', r = .returned (.int .i64 (lowE ds e env n).2) ∧ LowSt w' base q 196 #[v', .int .i64 ((n + (lowE ds e env n).1.length : Nat) : Int)] D' v' (rows ++ rowsS (lowE ds e env n).1) ∧ LowTo w w' q D D' v v'

set_option maxHeartbeats 1000000 in
theorem specNumbersFrom (n m : Nat) (N M : Int) (hN : N = (n : Int)) (hM : M = (m : Int)) (w : World) (hn : n ≤ 100000) (hm : m ≤ 100000) :
    Calls Tryz.prog 101 #[.int .i64 N, .int .i64 M] w fun e w' => ∃ v', e = .returned v' ∧ VR w' w.heap.size v' (numsL n m) ∧ Keep w w' := by
  refine calls_k fun Q hQ => ?_
  subst hM
  have hN0 : 0 ≤ N := by omega
  have hN1 : N ≤ 100000 := by omega
  have HN := Lib.hid hN
  have A0 := VR.made w
  clear hN
  go_enter Tryz.func101, Tryz.ntmps101
  go_wp2
  go_loopw [5, 6] (fun ov iv wr => ∃ j : Nat, j ≤ m ∧ iv = .int .i64 j ∧ VR wr w.heap.size ov (numsL n j) ∧ Keep w wr) (fun _ i _ => m - (intOf i).toNat)
  case atStart => exact ⟨0, Nat.zero_le _, rfl, A0, Keep.al _ _⟩
  case round =>
    obtain ⟨j, hj, rfl, hB, hK⟩ := hrel
    by_cases hlt : j < m
    · have hs := hK.size
      have KA := Keep.al wr (.cells #[.int .i64 (N + (j : Int))] 3)
      have hl := numsL_len n j
      have B1 := Lib.hid (hB.k KA)
      have bl := Lib.hid hB.lt
      have hc0 : (wr.alloc (.cells #[.int .i64 (N + (j : Int))] 3)).cell? ⟨wr.heap.size, 0, none⟩ = some (.int .i64 (N + (j : Int))) := by simp
      have K1 := Lib.hid (hK.trans KA)
      clear hB
      go_wp2_with (at_builtin; go_must (refine wpList_appVR _ rfl (.tmp 13) (.tmp 17) rfl w.heap.size _ (numsL n j) rfl B1.out wr.heap.size 1 (N + (j : Int)) rfl hc0 (by omega) (by simp; omega) ?_); intro v1 w1 hV)
      have HV := Lib.hid hV
      clear hV
      go_roundw
      case rel => exact ⟨j + 1, by omega, by go_num, by
        rw [numsL_succ, show ((n + j : Nat) : Int) = N + (j : Int) by have := HN.out; omega]
        exact HV.out.row, K1.out.then_ HV.out.ext (fun k hk e => by have := bl.out k e; omega)⟩
      case measure => simp [intOf]; omega
    · have HJ : Hid (j = m) := by show _ = _; omega
      go_wp2
      exact fin_ hQ ⟨_, rfl, by rw [HJ.out] at hB; exact hB, hK⟩

section
variable (ds : List DeclL) (sg : List SigL) (hok : sigsOk ds sg = true)

set_option maxRecDepth 100000 in
set_option maxHeartbeats 1000000 in
theorem specLow_var (num : Int) (ks : List ExprL) : LwS ds sg (.mk 12 num ks) := by
  intro vars env n N q base D D1 v rows a0 n0 c0 a1 n1 c1 av nv cv a m c w hL hN r0 rv re hAs hty hlen hB1 hB2 hB3
  refine calls_k fun Q hQ => ?_
  change Rd w D1 (encExprs ks) _ at re
  simp only [ExprL.op, ExprL.num]
  rw [nE] at hB1 hB2 hB3
  have K0 := (Keep.al w (.cells #[.slice a0 n0 c0, .slice a1 n1 c1] 44)).trans (Keep.al _ (.cells #[.int .i64 12, .int .i64 num, .slice a m c] 58))
  have R0 := (rowOf w #[.slice a0 n0 c0, .slice a1 n1 c1] 44).alloc (.cells #[.int .i64 12, .int .i64 num, .slice a m c] 58)
  have R1 := rowOf (w.alloc (.cells #[.slice a0 n0 c0, .slice a1 n1 c1] 44)) #[.int .i64 12, .int .i64 num, .slice a m c] 58
  simp only [World.size_alloc] at R1
  have hq := hL.qlt
  have hv := hL.own
  have HE : Hid (∀ k, Aside D1 w k → k ≠ q ∧ v.ownBlock ≠ some k) := by
    intro k hk
    rcases hk with hk | rfl | rfl
    · exact hAs k hk.1
    · exact ⟨by omega, fun e => by have := hv _ e; omega⟩
    · exact ⟨by omega, fun e => by have := hv _ e; omega⟩
  have rd0 := Lib.hid (((r0.lt).mono (D' := Aside D1 w) (fun k hk => .inl hk)).k K0)
  have rdv := Lib.hid (((rv.lt).mono (D' := Aside D1 w) (fun k hk => .inl hk)).k K0)
  have rde := Lib.hid (((re.lt).mono (D' := Aside D1 w) (fun k hk => .inl hk)).k K0)
  have LW := Lib.hid (hL.k K0)
  have KW := Lib.hid K0
  have sW : (((w.alloc (.cells #[.slice a0 n0 c0, .slice a1 n1 c1] 44)).alloc (.cells #[.int .i64 12, .int .i64 num, .slice a m c] 58))).heap.size = w.heap.size + 2 := by simp
  clear hAs hL r0 rv re
  obtain ⟨t1, t2⟩ := ty_var hty
  obtain ⟨i, rfl⟩ : ∃ i : Nat, num = i := ⟨num.toNat, by omega⟩
  obtain ⟨e1, hnc, hnm, hat⟩ := ints_at rdv.out
  obtain ⟨b, o, rfl, _, d0⟩ := hat i (by omega)
  have V : Hid (lowE ds (.mk 12 (i : Int) ks) env n = ([], iAt env i)) := by show _ = _; rw [lowE_var]; rfl
  rw [V.out] at hQ
  have hi : (i : Int) < (nv : Int) := by omega
  have hi0 : (0 : Int) ≤ (i : Int) := by omega
  clear hat V t1 t2 hty
  go_enter Tryz.func153, Tryz.ntmps153
  go_wp2_with fail
  exact fin_ hQ ⟨v, D, rfl, by simpa [rowsS, hN] using LW.out, LowTo.keep KW.out⟩

set_option maxRecDepth 100000 in
set_option maxHeartbeats 2000000 in
theorem specLow_let (num : Int) (ks : List ExprL) (IH0 : ∀ j, j < ks.length → LwS ds sg (eAt ks j)) : LwS ds sg (.mk 13 num ks) := by
  intro vars env n N q base D D1 v rows a0 n0 c0 a1 n1 c1 av nv cv a m c w hL hN r0 rv re hAs hty hlen hB1 hB2 hB3
  refine calls_k fun Q hQ => ?_
  change Rd w D1 (encExprs ks) _ at re
  simp only [ExprL.op, ExprL.num]
  rw [nE] at hB1 hB2 hB3
  have K0 := (Keep.al w (.cells #[.slice a0 n0 c0, .slice a1 n1 c1] 44)).trans (Keep.al _ (.cells #[.int .i64 13, .int .i64 num, .slice a m c] 58))
  have R0 := (rowOf w #[.slice a0 n0 c0, .slice a1 n1 c1] 44).alloc (.cells #[.int .i64 13, .int .i64 num, .slice a m c] 58)
  have R1 := rowOf (w.alloc (.cells #[.slice a0 n0 c0, .slice a1 n1 c1] 44)) #[.int .i64 13, .int .i64 num, .slice a m c] 58
  simp only [World.size_alloc] at R1
  have hq := hL.qlt
  have hv := hL.own
  have HE : Hid (∀ k, Aside D1 w k → k ≠ q ∧ v.ownBlock ≠ some k) := by
    intro k hk
    rcases hk with hk | rfl | rfl
    · exact hAs k hk.1
    · exact ⟨by omega, fun e => by have := hv _ e; omega⟩
    · exact ⟨by omega, fun e => by have := hv _ e; omega⟩
  have rd0 := Lib.hid (((r0.lt).mono (D' := Aside D1 w) (fun k hk => .inl hk)).k K0)
  have rdv := Lib.hid (((rv.lt).mono (D' := Aside D1 w) (fun k hk => .inl hk)).k K0)
  have rde := Lib.hid (((re.lt).mono (D' := Aside D1 w) (fun k hk => .inl hk)).k K0)
  have LW := Lib.hid (hL.k K0)
  have KW := Lib.hid K0
  have sW : (((w.alloc (.cells #[.slice a0 n0 c0, .slice a1 n1 c1] 44)).alloc (.cells #[.int .i64 13, .int .i64 num, .slice a m c] 58))).heap.size = w.heap.size + 2 := by simp
  clear hAs hL r0 rv re
  obtain ⟨t1, t2, t3⟩ := ty_let hty
  have TY2 := Lib.hid t2
  have TY3 := Lib.hid t3
  have IH := Lib.hid IH0
  have hq0 := nE_le ks (j := 0) (by omega)
  have hq1 : nE (eAt ks 0) + nE (eAt ks 1) ≤ nEs ks := by
    have h1 := nEs_take ks (j := 0) (by omega)
    have h2 := nEs_take ks (j := 1) (by omega)
    have h3 := nEs_take_le ks 2
    simp only [Nat.zero_add, List.take_zero, nEs, Nat.reduceAdd] at h1 h2
    omega
  have VL := Lib.hid (lowE_let (num := num) ds env n t1)
  rw [VL.out] at hQ
  obtain ⟨s1, hs1⟩ : ∃ s, (lowE ds (eAt ks 0) env n).1 = s := ⟨_, rfl⟩
  obtain ⟨y1, hy1⟩ : ∃ s, (lowE ds (eAt ks 0) env n).2 = s := ⟨_, rfl⟩
  have hsl : s1.length ≤ nE (eAt ks 0) := by rw [← hs1]; exact lowE_len ds _ _ _
  rw [hs1, hy1] at hQ
  have HS1 := Lib.hid hs1
  have HY1 := Lib.hid hy1
  obtain ⟨s2, hs2⟩ : ∃ s, (lowE ds (eAt ks 1) (env ++ [y1]) (n + s1.length)).1 = s := ⟨_, rfl⟩
  obtain ⟨y2, hy2⟩ : ∃ s, (lowE ds (eAt ks 1) (env ++ [y1]) (n + s1.length)).2 = s := ⟨_, rfl⟩
  rw [hs2, hy2] at hQ
  have HS2 := Lib.hid hs2
  have HY2 := Lib.hid hy2
  obtain ⟨e1, hnc, hnm, hat⟩ := exprs_at rde.out
  obtain ⟨b, o, rfl, hb0, ak, nk, ck, d0, d1, d2, rk⟩ := hat 0 (by omega)
  obtain ⟨b', o', e', _, ak', nk', ck', g0, g1, g2, rk'⟩ := hat 1 (by omega)
  injection e' with e'
  injection e' with e' e''
  subst e' e''
  simp only [Nat.zero_mul, Nat.add_zero, Nat.one_mul] at d0 d1 d2 g0 g1 g2
  have HN := Lib.hid hN
  have hm2 : m = 2 := by omega
  subst hm2
  have enl : env.length ≤ 4000 := by omega
  have x0 : (((w.alloc (.cells #[.slice a0 n0 c0, .slice a1 n1 c1] 44)).alloc (.cells #[.int .i64 13, .int .i64 num, .slice (some ⟨b, o, none⟩) 2 c] 58))).cell? ⟨w.heap.size, 0, none⟩ = some (.slice a0 n0 c0) := R0.cell (i := 0) (by simp)
  have x1 : (((w.alloc (.cells #[.slice a0 n0 c0, .slice a1 n1 c1] 44)).alloc (.cells #[.int .i64 13, .int .i64 num, .slice (some ⟨b, o, none⟩) 2 c] 58))).cell? ⟨w.heap.size, 1, none⟩ = some (.slice a1 n1 c1) := R0.cell (i := 1) (by simp)
  have u2 : (((w.alloc (.cells #[.slice a0 n0 c0, .slice a1 n1 c1] 44)).alloc (.cells #[.int .i64 13, .int .i64 num, .slice (some ⟨b, o, none⟩) 2 c] 58))).cell? ⟨w.heap.size + 1, 2, none⟩ = some (.slice (some ⟨b, o, none⟩) 2 c) := R1.cell (i := 2) (by simp)
  have RK := Lib.hid rk
  have RK' := Lib.hid rk'
  have hv5 : env.length = nv := (ints_at rdv.out).1
  clear hat VL hs1 hy1 hs2 hy2 t2 t3 IH0 hty rk rk' R0 R1 hN K0
  go_enter Tryz.func153, Tryz.ntmps153
  go_wp2_with fail
  have hW2 := sW
  generalize hW : ((w.alloc (.cells #[.slice a0 n0 c0, .slice a1 n1 c1] 44)).alloc (.cells #[.int .i64 13, .int .i64 num, .slice (some ⟨b, o, none⟩) 2 c] 58)) = W at *
  clear hW sW
  go_still_tail 7, (by kernel_rfl)
  change wpList _ _ _ _ _ W.drew
  go_wp2_with fail
  refine (IH.out 0 (by omega) vars env n N q base D (Aside D1 w) v rows _ _ _ _ _ _ _ _ _ _ _ _ W.drew (LW.out.k (Ext.refl (fun _ => False) W).drew) HN.out rd0.out.kd rdv.out.kd RK.out.kd HE.out TY2.out hlen (by omega) (by omega) (by omega)).mono ?_
  rw [HS1.out, HY1.out]
  rintro e w1 ⟨v1, D2, rfl, L1, T1⟩
  have T1' := Lib.hid ((LowTo.keep (Ext.refl (fun _ => False) W).drew).trans T1)
  have L1' := Lib.hid L1
  have HE1 := Lib.hid (aside_next HE.out (by omega) T1'.out)
  obtain ⟨N1, hN1⟩ : ∃ N1 : Int, N1 = ((n + s1.length : Nat) : Int) := ⟨_, rfl⟩
  have HN1 := Lib.hid hN1
  have x0 := at_low T1'.out HE.out x0 (.inr (.inl rfl))
  have x1 := at_low T1'.out HE.out x1 (.inr (.inl rfl))
  have u2 := at_low T1'.out HE.out u2 (.inr (.inr rfl))
  have g0 := at_low T1'.out HE.out g0 hb0
  have g1 := at_low T1'.out HE.out g1 hb0
  have g2 := at_low T1'.out HE.out g2 hb0
  have qd := Lib.hid (rd0.out.low HE.out T1'.out).kd
  have qv := Lib.hid (rdv.out.low HE.out T1'.out).kd
  have qk := Lib.hid (RK'.out.low HE.out T1'.out).kd
  have hw1 := T1'.out.ext.size
  have LD := Lib.hid (L1.k (Ext.refl (fun _ => False) w1).drew)
  clear d0 d1 d2 T1 L1 hN1
  go_wp2_with fail
  have pc := Ext.refl0 w1
  go_region_held3 (fun w' => w'.cell? ⟨w.heap.size, 0, none⟩ = some (.slice a0 n0 c0) ∧ w'.cell? ⟨w.heap.size, 1, none⟩ = some (.slice a1 n1 c1) ∧ w'.cell? ⟨w.heap.size + 1, 2, none⟩ = some (.slice (some ⟨b, o, none⟩) 2 c) ∧ w'.cell? ⟨b, o + 3, none⟩ = some (.int .i64 (eAt ks 1).op) ∧ w'.cell? ⟨b, o + 3 + 1, none⟩ = some (.int .i64 (eAt ks 1).num) ∧ w'.cell? ⟨b, o + 3 + 2, none⟩ = some (.slice ak' nk' ck'))
    (first | exact ⟨Keep.at pc x0, Keep.at pc x1, Keep.at pc u2, Keep.at pc g0, Keep.at pc g1, Keep.at pc g2⟩ | exact ⟨Keep.at (Ext.trans pc (Keep.al _ _)) x0, Keep.at (Ext.trans pc (Keep.al _ _)) x1, Keep.at (Ext.trans pc (Keep.al _ _)) u2, Keep.at (Ext.trans pc (Keep.al _ _)) g0, Keep.at (Ext.trans pc (Keep.al _ _)) g1, Keep.at (Ext.trans pc (Keep.al _ _)) g2⟩ | exact ⟨at_low p4 HE1.out (Keep.at pc x0) (.inr (.inl rfl)), at_low p4 HE1.out (Keep.at pc x1) (.inr (.inl rfl)), at_low p4 HE1.out (Keep.at pc u2) (.inr (.inr rfl)), at_low p4 HE1.out (Keep.at pc g0) hb0, at_low p4 HE1.out (Keep.at pc g1) hb0, at_low p4 HE1.out (Keep.at pc g2) hb0⟩ | go_keep)
    (first
      | (go_at_call 149; have il := Rd.toInts (lit_ints w1.drew 0 3 [y1] #[.int .i64 y1] 1 (Nat.zero_le _) rfl rfl (by omega)).t; replace pc := Ext.trans pc (Keep.al w1.drew (.cells #[.int .i64 y1] 3)); refine (specExtend _ _ _ env _ _ _ _ [y1] _ _ (Rd.toInts (qv.out.k pc)) (by omega) il (by omega)).mono ?_; rintro e wb ⟨xa, xn, xc, rfl, hxc, ox, pb⟩; have zb := pb.size; simp at zb; have LB := Lib.hid (LD.out.k (Ext.trans pc pb)); replace pc := Ext.trans pc pb; have OX := Lib.hid ((ox.read.toRd hxc (by have := ox.1; simp at this; omega)).lt))
      | (go_at_call 153; refine (IH.out 1 (by omega) (vars ++ [tyE ds sg vars (eAt ks 0)]) (env ++ [y1]) (n + s1.length) N1 q base D2 (fun k => Aside D1 w k ∨ (w1.heap.size ≤ k ∧ k < wb.heap.size)) v1 (rows ++ rowsS s1) _ _ _ _ _ _ _ _ _ _ _ _ wb (by rw [HN1.out]; exact LB.out) HN1.out ((qd.out.k pc).mono (fun k h => .inl h)) (OX.out.mono (fun k h => .inr ⟨by have := h.1; simp at this; omega, h.2⟩)) ((qk.out.k pc).mono (fun k h => .inl h)) (fun k hk => by rcases hk with hk | hk; exact HE1.out k hk; exact ⟨fun e => by have := L1'.out.qlt; omega, fun e => by have := L1'.out.own k e; omega⟩) TY3.out (by simp; omega) (by simp; omega) (by omega) (by rw [List.length_append, rowsS_map, List.length_map]; omega)).mono ?_; rw [HS2.out, HY2.out]; rintro e w4 ⟨v4, D4, rfl, L4, p4⟩))
  have KF := Lib.hid (((LowTo.keep KW.out).trans T1'.out).trans ((LowTo.keep (Keep.dt pc)).trans p4))
  have L4' := Lib.hid L4
  clear L4 pc p4
  go_wp2_with fail
  refine fin_ hQ ⟨v4, D4, rfl, ?_, KF.out⟩
  have := L4'.out
  rw [List.append_assoc, ← rowsS_app] at this
  simpa [Nat.add_assoc] using this
end
end Go.Proofs.YtkapldpmjkdmcaaGreat
