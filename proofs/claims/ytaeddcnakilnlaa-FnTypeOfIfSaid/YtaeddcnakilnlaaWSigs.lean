/- Signatures: valid or not, by the reference and by the program. -/
import Derived.Test.YtaeddcnakilnlaaMGA
import Derived.Test.YtaeddcnakilnlaaMGB
namespace Go.Proofs.Ytaeddcnakilnlaa
open Go.RowKit

def lentAt (s : SigL) (k : Nat) : Bool := decide (0 ≤ iAt s.lent k) && decide (iAt s.lent k < (s.params.length : Int)) && decide (iAt s.params (iAt s.lent k).toNat ≠ 0) && (decide (k = 0) || decide (iAt s.lent (k - 1) < iAt s.lent k))
def lentOk (s : SigL) : Bool := (List.range s.lent.length).all (lentAt s)
def sigOk (n : Nat) (s : SigL) : Bool := decide (s.params.length ≤ 3) && allT n s.params && isT n s.result && lentOk s
/-- Declarations and signatures are valid. -/
def sigsOk (ds : List DeclL) (sg : List SigL) : Bool :=
  typesOk ds && decide (1 ≤ sg.length) && decide (sg.length ≤ 4) && decide ((sgAt sg 0).params.length = 0) && decide ((sgAt sg 0).result = 0) && (List.range sg.length).all (fun i => sigOk ds.length (sgAt sg i))
def sigF (f : FuncL) : SigL := ⟨f.params, [], f.result⟩
theorem sgAt_sigF (fs : List FuncL) {i : Nat} (h : i < fs.length) : sgAt (fs.map sigF) i = sigF (fAt fs i) := by
  rw [sgAt_get (by simpa using h), fAt_get h]; simp

theorem sigsOk_types {ds sg} (h : typesOk ds = false) : sigsOk ds sg = false := by simp [sigsOk, h]
theorem sigsOk_len {ds} {sg : List SigL} (h : sg.length < 1 ∨ 4 < sg.length) : sigsOk ds sg = false := by
  rcases h with h | h
  · have e : decide (1 ≤ sg.length) = false := decide_eq_false (by omega)
    simp only [sigsOk, e, Bool.and_false, Bool.false_and]
  · have e : decide (sg.length ≤ 4) = false := decide_eq_false (by omega)
    simp only [sigsOk, e, Bool.and_false, Bool.false_and]
theorem sigsOk_first {ds} {sg : List SigL} (h : ¬ ((sgAt sg 0).params.length = 0 ∧ (sgAt sg 0).result = 0)) : sigsOk ds sg = false := by
  by_cases h1 : (sgAt sg 0).params.length = 0
  · have e : decide ((sgAt sg 0).result = 0) = false := decide_eq_false (fun h2 => h ⟨h1, h2⟩)
    simp only [sigsOk, e, Bool.and_false, Bool.false_and]
  · have e : decide ((sgAt sg 0).params.length = 0) = false := decide_eq_false h1
    simp only [sigsOk, e, Bool.and_false, Bool.false_and]
theorem sigsOk_at {ds} {sg : List SigL} {n i : Nat} (hn : ds.length = n) (hi : i < sg.length) (h : sigOk n (sgAt sg i) = false) : sigsOk ds sg = false := by
  subst hn
  have e : (List.range sg.length).all (fun i => sigOk ds.length (sgAt sg i)) = false := nAll_false hi h
  simp only [sigsOk, e, Bool.and_false]
theorem sigsOk_yes {ds} {sg : List SigL} {n : Nat} (hn : ds.length = n) (h1 : typesOk ds = true) (h2 : 1 ≤ sg.length) (h3 : sg.length ≤ 4) (h4 : (sgAt sg 0).params.length = 0) (h5 : (sgAt sg 0).result = 0)
    (h : ∀ i, i < sg.length → sigOk n (sgAt sg i) = true) : sigsOk ds sg = true := by
  subst hn
  have e : (List.range sg.length).all (fun i => sigOk ds.length (sgAt sg i)) = true := nAll.2 h
  simp only [sigsOk, e, h1, h2, h3, h4, h5, decide_true, Bool.and_self]
theorem sigOk_len {n : Nat} {s : SigL} (h : 3 < s.params.length) : sigOk n s = false := by
  have e : decide (s.params.length ≤ 3) = false := decide_eq_false (by omega)
  simp only [sigOk, e, Bool.false_and]
theorem sigOk_params {n : Nat} {s : SigL} (h : allT n s.params = false) : sigOk n s = false := by simp only [sigOk, h, Bool.and_false, Bool.false_and]
theorem sigOk_result {n : Nat} {s : SigL} (h : isT n s.result = false) : sigOk n s = false := by simp only [sigOk, h, Bool.and_false, Bool.false_and]
theorem sigOk_lent {n : Nat} {s : SigL} {k : Nat} (hk : k < s.lent.length) (h : lentAt s k = false) : sigOk n s = false := by
  have e : lentOk s = false := nAll_false hk h
  simp only [sigOk, e, Bool.and_false]
theorem sigOk_yes {n : Nat} {s : SigL} (h1 : s.params.length ≤ 3) (h2 : allT n s.params = true) (h3 : isT n s.result = true) (h4 : ∀ k, k < s.lent.length → lentAt s k = true) : sigOk n s = true := by
  have e : lentOk s = true := nAll.2 h4
  simp only [sigOk, e, h1, h2, h3, decide_true, Bool.and_self]
theorem sigF_lent {f : FuncL} : (sigF f).lent.length = 0 := rfl

theorem specValidTypesR (a : Option Addr) (n c : Nat) (ds : List DeclL) (D : Nat → Prop) (w : World) (h : Rd w D (encDecls ds) (.slice a n c)) :
    Calls Try.prog 121 #[.slice a n c] w fun e w' => e = .returned (.bool (typesOk ds)) ∧ Keep w w' := by
  by_cases h4 : n ≤ 4
  · exact specValidTypes0 a n c ds D w h.toDecls (by omega)
  refine calls_k fun Q hQ => ?_
  have hlen := h.toDecls.1
  have hfin : Hid (typesOk ds = false) := by
    show _ = _
    simp [typesOk, hlen, h4]
  go_enter Try.func121, Try.ntmps121
  go_wp2
  exact fin_ hQ ⟨ret_b hfin.out.symm, Ext.refl _ _⟩

set_option maxRecDepth 100000 in
set_option maxHeartbeats 2000000 in
theorem specValidSigs0 (ds : List DeclL) (fs : List FuncL) (a0 : Option Addr) (n0 c0 : Nat) (a1 : Option Addr) (n1 c1 : Nat) (D0 D1 : Nat → Prop) (w : World) (r0 : Rd w D0 (encDecls ds) (.slice a0 n0 c0)) (r1 : Rd w D1 (encFuncs fs) (.slice a1 n1 c1)) :
    Calls Try.prog 75 #[.agg #[.slice a0 n0 c0, .slice a1 n1 c1]] w fun e w' => e = .returned (.bool (sigsOk ds (fs.map sigF))) ∧ Keep w w' := by
  refine calls_k fun Q hQ => ?_
  have K0 := Keep.al w (.cells #[.slice a0 n0 c0, .slice a1 n1 c1] 50)
  have hd0 := Lib.hid (r0.toDecls.1)
  obtain ⟨e1, hnc, hm, hat⟩ := funcs_at r1
  have HL := Lib.hid e1
  have HA := Lib.hid hat
  have HLM : Hid ((fs.map sigF).length = n1) := by show _ = _; simp [e1]
  clear e1 hat
  cases v1 : typesOk ds
  · have V := Lib.hid (sigsOk_types (sg := fs.map sigF) v1)
    have V1 := Lib.hid v1
    clear v1
    go_enter Try.func75, Try.ntmps75
    go_wp2_with fail
    refine (specValidTypesR _ _ _ _ _ _ (r0.k K0)).mono ?_
    rw [V1.out]
    rintro e w1 ⟨rfl, p1⟩
    go_wp2_with fail
    exact fin_ hQ ⟨ret_b V.out.symm, K0.trans p1⟩
  have V1 := Lib.hid v1
  clear v1
  by_cases hl : 1 ≤ n1 ∧ n1 ≤ 4
  case neg =>
    have V := Lib.hid (sigsOk_len (ds := ds) (sg := fs.map sigF) (by have := HLM.out; omega))
    have V2 : Hid (decide ((1 : Int) ≤ (n1 : Int) ∧ (n1 : Int) ≤ 4) = false) := decide_eq_false (by omega)
    clear hl
    go_enter Try.func75, Try.ntmps75
    go_wp2_with fail
    refine (specValidTypesR _ _ _ _ _ _ (r0.k K0)).mono ?_
    rw [V1.out]
    rintro e w1 ⟨rfl, p1⟩
    have x1 := boxk p1 1
    simp at x1
    go_wp2_with fail
    refine (specInRange _ _ _ _).mono ?_
    rw [V2.out]
    rintro e w2 ⟨rfl, rfl⟩
    go_wp2_with fail
    exact fin_ hQ ⟨ret_b V.out.symm, K0.trans p1⟩
  obtain ⟨hl1, hl4⟩ := hl
  have V2 : Hid (decide ((1 : Int) ≤ (n1 : Int) ∧ (n1 : Int) ≤ 4) = true) := decide_eq_true (by omega)
  go_enter Try.func75, Try.ntmps75
  go_wp2_with fail
  refine (specValidTypesR _ _ _ _ _ _ (r0.k K0)).mono ?_
  rw [V1.out]
  rintro e w1 ⟨rfl, p1⟩
  have x1 := boxk p1 1
  simp at x1
  go_wp2_with fail
  refine (specInRange _ _ _ _).mono ?_
  rw [V2.out]
  rintro e w2 ⟨rfl, rfl⟩
  go_wp2_with fail
  clear x1
  go_loopw [3] (fun iv wr => ∃ j : Nat, j ≤ n1 ∧ iv = .int .i64 j ∧ Hid (∀ l, l < j → sigOk n0 (sgAt (fs.map sigF) l) = true) ∧ Keep (w.alloc (.cells #[.slice a0 n0 c0, .slice a1 n1 c1] 50)) wr) (fun i _ => n1 - (intOf i).toNat)
  case atStart => exact ⟨0, Nat.zero_le _, rfl, fun j hj => absurd hj (by omega), p1⟩
  case round =>
    obtain ⟨wo, rfl⟩ : ∃ wo : World, wo = wr := ⟨_, rfl⟩
    obtain ⟨j, hj, rfl, H, hK⟩ := hrel
    have x0 := boxk hK 0
    have x1 := boxk hK 1
    simp at x0 x1
    by_cases hlt : j < n1
    · obtain ⟨b, o, rfl, hd, a3, n3, c3, a4, n4, c4, d0, d1, d2, d3, d4, r3, r4⟩ := HA.out j hlt
      have hKw := K0.trans hK
      have g0 := (hKw.cell (World.block_lt_of_cell? w _ d0) (fun h => h)).trans d0
      have g1 := (hKw.cell (World.block_lt_of_cell? w _ d1) (fun h => h)).trans d1
      have g2 := (hKw.cell (World.block_lt_of_cell? w _ d2) (fun h => h)).trans d2
      have g3 := (hKw.cell (World.block_lt_of_cell? w _ d3) (fun h => h)).trans d3
      have g4 := (hKw.cell (World.block_lt_of_cell? w _ d4) (fun h => h)).trans d4
      have hP := Lib.hid r3.toInts.1
      have HG := Lib.hid (sgAt_sigF fs (i := j) (by have := HL.out; omega))
      have ka := Keep.al wo (.cells #[.slice a3 n3 c3, .int .i64 (fAt fs j).result, .int .i64 (fAt fs j).body.op, .int .i64 (fAt fs j).body.num, .slice a4 n4 c4] 63)
      have q3 := Lib.hid (((r3.k hKw).k ka).toInts)
      have hKa := Lib.hid (hKw.trans ka)
      have hKb := Lib.hid (hK.trans ka)
      have z0 := boxk hKb.out 0
      simp only [List.getElem?_toArray, List.getElem?_cons_zero] at z0
      clear d0 d1 d2 d3 d4 r3 r4 ka
      by_cases h3 : n3 ≤ 3
      case neg =>
        have V := Lib.hid (sigsOk_at (ds := ds) hd0.out (by have := HLM.out; omega) (show sigOk n0 (sgAt (fs.map sigF) j) = false from by rw [HG.out]; exact sigOk_len (by have := hP.out; show 3 < (fAt fs j).params.length; omega)))
        go_wp2_with fail
        exact fin_ hQ ⟨ret_b V.out.symm, hKa.out⟩
      cases v3 : allT n0 (fAt fs j).params
      · have V := Lib.hid (sigsOk_at (ds := ds) hd0.out (by have := HLM.out; omega) (show sigOk n0 (sgAt (fs.map sigF) j) = false from by rw [HG.out]; exact sigOk_params v3))
        have V3 := Lib.hid v3
        clear v3
        go_wp2_with fail
        refine (specAllTypes _ _ _ _ _ _ _ _ _ q3.out (by omega)).mono ?_
        rw [V3.out]
        rintro e w2 ⟨rfl, rfl⟩
        go_wp2_with fail
        exact fin_ hQ ⟨ret_b V.out.symm, hKa.out⟩
      have V3 := Lib.hid v3
      clear v3
      cases v4 : isT n0 (fAt fs j).result
      · have V := Lib.hid (sigsOk_at (ds := ds) hd0.out (by have := HLM.out; omega) (show sigOk n0 (sgAt (fs.map sigF) j) = false from by rw [HG.out]; exact sigOk_result v4))
        have V4 : Hid (decide (0 ≤ (fAt fs j).result ∧ (fAt fs j).result ≤ (n0 : Int)) = false) := v4
        clear v4
        go_wp2_with fail
        refine (specAllTypes _ _ _ _ _ _ _ _ _ q3.out (by omega)).mono ?_
        rw [V3.out]
        rintro e w2 ⟨rfl, rfl⟩
        go_wp2_with fail
        refine (specInRange _ _ _ _).mono ?_
        rw [V4.out]
        rintro e w2 ⟨rfl, rfl⟩
        go_wp2_with fail
        exact fin_ hQ ⟨ret_b V.out.symm, hKa.out⟩
      have V5 := Lib.hid v4
      have V4 : Hid (decide (0 ≤ (fAt fs j).result ∧ (fAt fs j).result ≤ (n0 : Int)) = true) := v4
      clear v4
      go_wp2_with fail
      refine (specAllTypes _ _ _ _ _ _ _ _ _ q3.out (by omega)).mono ?_
      rw [V3.out]
      rintro e w2 ⟨rfl, rfl⟩
      go_wp2_with fail
      refine (specInRange _ _ _ _).mono ?_
      rw [V4.out]
      rintro e w2 ⟨rfl, rfl⟩
      go_wp2_with fail
      go_roundw
      case rel => exact ⟨j + 1, by omega, by go_num, fun l hl => by
        rcases Nat.lt_succ_iff_lt_or_eq.1 hl with h | rfl
        · exact H.out l h
        · rw [HG.out]; exact sigOk_yes (by have := hP.out; show (fAt fs l).params.length ≤ 3; omega) V3.out V5.out (fun k hk => absurd hk (by rw [sigF_lent]; omega)), hKb.out⟩
      case measure => simp [intOf]; omega
    · obtain ⟨b, o, rfl, hd, a3, n3, c3, a4, n4, c4, d0, d1, d2, d3, d4, r3, r4⟩ := HA.out 0 (by omega)
      have hKw := K0.trans hK
      have g0 := (hKw.cell (World.block_lt_of_cell? w _ d0) (fun h => h)).trans d0
      have g1 := (hKw.cell (World.block_lt_of_cell? w _ d1) (fun h => h)).trans d1
      rw [Nat.zero_mul, Nat.add_zero] at g0 g1
      have hP := r3.toInts.1
      have HG := sgAt_sigF fs (i := 0) (by have := HL.out; omega)
      have HJ : j = n1 := by omega
      clear d0 d1 d2 d3 d4 r3 r4
      by_cases h0 : n3 = 0
      · by_cases h5 : (fAt fs 0).result = 0
        · have V := Lib.hid (sigsOk_yes (n := n0) hd0.out V1.out (by have := HLM.out; omega) (by have := HLM.out; omega) (by rw [HG]; show (fAt fs 0).params.length = 0; omega) (by rw [HG]; exact h5) (fun i hi => H.out i (by have := HLM.out; omega)))
          clear hP HG HJ
          subst h0
          rw [h5] at g1
          go_wp2_with fail
          exact fin_ hQ ⟨ret_b (by rw [V.out]), hKw⟩
        · have V := Lib.hid (sigsOk_first (ds := ds) (sg := fs.map sigF) (fun h => h5 (by have := h.2; rw [HG] at this; exact this)))
          have h5' : ((fAt fs 0).result == 0) = false := by simpa using h5
          clear hP HG HJ h5
          subst h0
          go_wp2_with fail
          exact fin_ hQ ⟨ret_b (by rw [V.out]), hKw⟩
      · have V := Lib.hid (sigsOk_first (ds := ds) (sg := fs.map sigF) (fun h => h0 (by have := h.1; rw [HG] at this; have e : (fAt fs 0).params.length = 0 := this; omega)))
        have h0' : ((n3 : Int) == 0) = false := by simp; omega
        clear hP HG HJ h0
        go_wp2_with fail
        exact fin_ hQ ⟨ret_b (by rw [V.out]), hKw⟩
end Go.Proofs.Ytaeddcnakilnlaa
