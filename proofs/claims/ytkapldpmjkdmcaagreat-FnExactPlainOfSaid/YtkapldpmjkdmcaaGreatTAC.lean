/- Signatures: valid or not, by the reference and by the program. -/
import Derived.Test.YtkapldpmjkdmcaaGreatTAB
import Derived.Deep.RegionHeld3
namespace Go.Proofs.YtkapldpmjkdmcaaGreat
open Go.RowKit

def lentAt (s : SigL) (k : Nat) : Bool := decide (0 ≤ iAt s.lent k) && decide (iAt s.lent k < (s.params.length : Int)) && decide (iAt s.params (iAt s.lent k).toNat ≠ 0) && (decide (k = 0) || decide (iAt s.lent (k - 1) < iAt s.lent k))
def lentOk (s : SigL) : Bool := (List.range s.lent.length).all (lentAt s)
def sigOk (n : Nat) (s : SigL) : Bool := decide (s.params.length ≤ 3) && allT n s.params && isT n s.result && lentOk s
/-- Declarations and signatures are valid. -/
def sigsOk (ds : List DeclL) (sg : List SigL) : Bool :=
  typesOk ds && decide (1 ≤ sg.length) && decide (sg.length ≤ 4) && decide ((sgAt sg 0).params.length = 0) && decide ((sgAt sg 0).result = 0) && (List.range sg.length).all (fun i => sigOk ds.length (sgAt sg i))
def sigF (f : FuncL) : SigL := ⟨f.params, [], f.result⟩
theorem sgAt_sigF (fs : List FuncL) {i : Nat} (h : i < fs.length) : sgAt (fs.map sigF) i = sigF (fAt fs i) := by
  rw [sgAt_get (by simpa using h), fAt_get h]; simp

theorem sigsOk_types {ds sg} (h : typesOk ds = false) : sigsOk ds sg = false := by simp [sigsOk, h]
theorem sigsOk_len {ds} {sg : List SigL} (h : sg.length < 1 ∨ 4 < sg.length) : sigsOk ds sg = false := by
  rcases h with h | h
  · have e : decide (1 ≤ sg.length) = false := decide_eq_false (by omega)
    simp only [sigsOk, e, Bool.and_false, Bool.false_and]
  · have e : decide (sg.length ≤ 4) = false := decide_eq_false (by omega)
    simp only [sigsOk, e, Bool.and_false, Bool.false_and]
theorem sigsOk_first {ds} {sg : List SigL} (h : ¬ ((sgAt sg 0).params.length = 0 ∧ (sgAt sg 0).result = 0)) : sigsOk ds sg = false := by
  by_cases h1 : (sgAt sg 0).params.length = 0
  · have e : decide ((sgAt sg 0).result = 0) = false := decide_eq_false (fun h2 => h ⟨h1, h2⟩)
    simp only [sigsOk, e, Bool.and_false, Bool.false_and]
  · have e : decide ((sgAt sg 0).params.length = 0) = false := decide_eq_false h1
    simp only [sigsOk, e, Bool.and_false, Bool.false_and]
theorem sigsOk_at {ds} {sg : List SigL} {n i : Nat} (hn : ds.length = n) (hi : i < sg.length) (h : sigOk n (sgAt sg i) = false) : sigsOk ds sg = false := by
  subst hn
  have e : (List.range sg.length).all (fun i => sigOk ds.length (sgAt sg i)) = false := nAll_false hi h
  simp only [sigsOk, e, Bool.and_false]
theorem sigsOk_yes {ds} {sg : List SigL} {n : Nat} (hn : ds.length = n) (h1 : typesOk ds = true) (h2 : 1 ≤ sg.length) (h3 : sg.length ≤ 4) (h4 : (sgAt sg 0).params.length = 0) (h5 : (sgAt sg 0).result = 0)
    (h : ∀ i, i < sg.length → sigOk n (sgAt sg i) = true) : sigsOk ds sg = true := by
  subst hn
  have e : (List.range sg.length).all (fun i => sigOk ds.length (sgAt sg i)) = true := nAll.2 h
  simp only [sigsOk, e, h1, h2, h3, h4, h5, decide_true, Bool.and_self]
theorem sigOk_len {n : Nat} {s : SigL} (h : 3 < s.params.length) : sigOk n s = false := by
  have e : decide (s.params.length ≤ 3) = false := decide_eq_false (by omega)
  simp only [sigOk, e, Bool.false_and]
theorem sigOk_params {n : Nat} {s : SigL} (h : allT n s.params = false) : sigOk n s = false := by simp only [sigOk, h, Bool.and_false, Bool.false_and]
theorem sigOk_result {n : Nat} {s : SigL} (h : isT n s.result = false) : sigOk n s = false := by simp only [sigOk, h, Bool.and_false, Bool.false_and]
theorem sigOk_lent {n : Nat} {s : SigL} {k : Nat} (hk : k < s.lent.length) (h : lentAt s k = false) : sigOk n s = false := by
  have e : lentOk s = false := nAll_false hk h
  simp only [sigOk, e, Bool.and_false]
theorem sigOk_yes {n : Nat} {s : SigL} (h1 : s.params.length ≤ 3) (h2 : allT n s.params = true) (h3 : isT n s.result = true) (h4 : ∀ k, k < s.lent.length → lentAt s k = true) : sigOk n s = true := by
  have e : lentOk s = true := nAll.2 h4
  simp only [sigOk, e, h1, h2, h3, decide_true, Bool.and_self]
theorem sigF_lent {f : FuncL} : (sigF f).lent.length = 0 := rfl

theorem specValidTypesR (a : Option Addr) (n c : Nat) (ds : List DeclL) (D : Nat → Prop) (w : World) (h : Rd w D (encDecls ds) (.slice a n c)) :
    Calls Tryz.prog 142 #[.slice a n c] w fun e w' => e = .returned (.bool (typesOk ds)) ∧ Keep w w' := by
  by_cases h4 : n ≤ 4
  · exact specValidTypes0 a n c ds D w h.toDecls (by omega)
  refine calls_k fun Q hQ => ?_
  have hlen := h.toDecls.1
  have hfin : Hid (typesOk ds = false) := by
    show _ = _
    simp [typesOk, hlen, h4]
  go_enter Tryz.func142, Tryz.ntmps142
  go_wp2
  exact fin_ hQ ⟨ret_b hfin.out.symm, Ext.refl _ _⟩

set_option maxRecDepth 100000 in
set_option maxHeartbeats 2000000 in
theorem specValidSigs0 (ds : List DeclL) (fs : List FuncL) (a0 : Option Addr) (n0 c0 : Nat) (a1 : Option Addr) (n1 c1 : Nat) (D0 D1 : Nat → Prop) (w : World) (r0 : Rd w D0 (encDecls ds) (.slice a0 n0 c0)) (r1 : Rd w D1 (encFuncs fs) (.slice a1 n1 c1)) :
    Calls Tryz.prog 97 #[.agg #[.slice a0 n0 c0, .slice a1 n1 c1]] w fun e w' => e = .returned (.bool (sigsOk ds (fs.map sigF))) ∧ Keep w w' := by
  refine calls_k fun Q hQ => ?_
  have K0 := Keep.al w (.cells #[.slice a0 n0 c0, .slice a1 n1 c1] 44)
  have hd0 := Lib.hid (r0.toDecls.1)
  obtain ⟨e1, hnc, hm, hat⟩ := funcs_at r1
  have HL := Lib.hid e1
  have HA := Lib.hid hat
  have HLM : Hid ((fs.map sigF).length = n1) := by show _ = _; simp [e1]
  clear e1 hat
  cases v1 : typesOk ds
  · have V := Lib.hid (sigsOk_types (sg := fs.map sigF) v1)
    have V1 := Lib.hid v1
    clear v1
    go_enter Tryz.func97, Tryz.ntmps97
    go_wp2_with fail
    refine (specValidTypesR _ _ _ _ _ _ (r0.k K0)).mono ?_
    rw [V1.out]
    rintro e w1 ⟨rfl, p1⟩
    go_wp2_with fail
    exact fin_ hQ ⟨ret_b V.out.symm, K0.trans p1⟩
  have V1 := Lib.hid v1
  clear v1
  by_cases hl : 1 ≤ n1 ∧ n1 ≤ 4
  case neg =>
    have V := Lib.hid (sigsOk_len (ds := ds) (sg := fs.map sigF) (by have := HLM.out; omega))
    have V2 : Hid (decide ((1 : Int) ≤ (n1 : Int) ∧ (n1 : Int) ≤ 4) = false) := decide_eq_false (by omega)
    clear hl
    go_enter Tryz.func97, Tryz.ntmps97
    go_wp2_with fail
    refine (specValidTypesR _ _ _ _ _ _ (r0.k K0)).mono ?_
    rw [V1.out]
    rintro e w1 ⟨rfl, p1⟩
    have x1 := boxk p1 1
    simp at x1
    go_wp2_with fail
    refine (specInRange _ _ _ _).mono ?_
    rw [V2.out]
    rintro e w2 ⟨rfl, rfl⟩
    go_wp2_with fail
    exact fin_ hQ ⟨ret_b V.out.symm, K0.trans p1⟩
  obtain ⟨hl1, hl4⟩ := hl
  have V2 : Hid (decide ((1 : Int) ≤ (n1 : Int) ∧ (n1 : Int) ≤ 4) = true) := decide_eq_true (by omega)
  go_enter Tryz.func97, Tryz.ntmps97
  go_wp2_with fail
  refine (specValidTypesR _ _ _ _ _ _ (r0.k K0)).mono ?_
  rw [V1.out]
  rintro e w1 ⟨rfl, p1⟩
  have x1 := boxk p1 1
  simp at x1
  go_wp2_with fail
  refine (specInRange _ _ _ _).mono ?_
  rw [V2.out]
  rintro e w2 ⟨rfl, rfl⟩
  go_wp2_with fail
  clear x1
  go_loopw [3] (fun iv wr => ∃ j : Nat, j ≤ n1 ∧ iv = .int .i64 j ∧ Hid (∀ l, l < j → sigOk n0 (sgAt (fs.map sigF) l) = true) ∧ Keep (w.alloc (.cells #[.slice a0 n0 c0, .slice a1 n1 c1] 44)) wr) (fun i _ => n1 - (intOf i).toNat)
  case atStart => exact ⟨0, Nat.zero_le _, rfl, fun j hj => absurd hj (by omega), p1⟩
  case round =>
    obtain ⟨wo, rfl⟩ : ∃ wo : World, wo = wr := ⟨_, rfl⟩
    obtain ⟨j, hj, rfl, H, hK⟩ := hrel
    have x0 := boxk hK 0
    have x1 := boxk hK 1
    simp at x0 x1
    by_cases hlt : j < n1
    · obtain ⟨b, o, rfl, hd, a3, n3, c3, a4, n4, c4, d0, d1, d2, d3, d4, r3, r4⟩ := HA.out j hlt
      have hKw := K0.trans hK
      have g0 := (hKw.cell (World.block_lt_of_cell? w _ d0) (fun h => h)).trans d0
      have g1 := (hKw.cell (World.block_lt_of_cell? w _ d1) (fun h => h)).trans d1
      have g2 := (hKw.cell (World.block_lt_of_cell? w _ d2) (fun h => h)).trans d2
      have g3 := (hKw.cell (World.block_lt_of_cell? w _ d3) (fun h => h)).trans d3
      have g4 := (hKw.cell (World.block_lt_of_cell? w _ d4) (fun h => h)).trans d4
      have hP := Lib.hid r3.toInts.1
      have HG := Lib.hid (sgAt_sigF fs (i := j) (by have := HL.out; omega))
      have ka := Keep.al wo (.cells #[.slice a3 n3 c3, .int .i64 (fAt fs j).result, .int .i64 (fAt fs j).body.op, .int .i64 (fAt fs j).body.num, .slice a4 n4 c4] 60)
      have q3 := Lib.hid (((r3.k hKw).k ka).toInts)
      have hKa := Lib.hid (hKw.trans ka)
      have hKb := Lib.hid (hK.trans ka)
      have z0 := boxk hKb.out 0
      simp only [List.getElem?_toArray, List.getElem?_cons_zero] at z0
      clear d0 d1 d2 d3 d4 r3 r4 ka
      by_cases h3 : n3 ≤ 3
      case neg =>
        have V := Lib.hid (sigsOk_at (ds := ds) hd0.out (by have := HLM.out; omega) (show sigOk n0 (sgAt (fs.map sigF) j) = false from by rw [HG.out]; exact sigOk_len (by have := hP.out; show 3 < (fAt fs j).params.length; omega)))
        go_wp2_with fail
        exact fin_ hQ ⟨ret_b V.out.symm, hKa.out⟩
      cases v3 : allT n0 (fAt fs j).params
      · have V := Lib.hid (sigsOk_at (ds := ds) hd0.out (by have := HLM.out; omega) (show sigOk n0 (sgAt (fs.map sigF) j) = false from by rw [HG.out]; exact sigOk_params v3))
        have V3 := Lib.hid v3
        clear v3
        go_wp2_with fail
        refine (specAllTypes _ _ _ _ _ _ _ _ _ q3.out (by omega)).mono ?_
        rw [V3.out]
        rintro e w2 ⟨rfl, rfl⟩
        go_wp2_with fail
        exact fin_ hQ ⟨ret_b V.out.symm, hKa.out⟩
      have V3 := Lib.hid v3
      clear v3
      cases v4 : isT n0 (fAt fs j).result
      · have V := Lib.hid (sigsOk_at (ds := ds) hd0.out (by have := HLM.out; omega) (show sigOk n0 (sgAt (fs.map sigF) j) = false from by rw [HG.out]; exact sigOk_result v4))
        have V4 : Hid (decide (0 ≤ (fAt fs j).result ∧ (fAt fs j).result ≤ (n0 : Int)) = false) := v4
        clear v4
        go_wp2_with fail
        refine (specAllTypes _ _ _ _ _ _ _ _ _ q3.out (by omega)).mono ?_
        rw [V3.out]
        rintro e w2 ⟨rfl, rfl⟩
        go_wp2_with fail
        refine (specInRange _ _ _ _).mono ?_
        rw [V4.out]
        rintro e w2 ⟨rfl, rfl⟩
        go_wp2_with fail
        exact fin_ hQ ⟨ret_b V.out.symm, hKa.out⟩
      have V5 := Lib.hid v4
      have V4 : Hid (decide (0 ≤ (fAt fs j).result ∧ (fAt fs j).result ≤ (n0 : Int)) = true) := v4
      clear v4
      go_wp2_with fail
      refine (specAllTypes _ _ _ _ _ _ _ _ _ q3.out (by omega)).mono ?_
      rw [V3.out]
      rintro e w2 ⟨rfl, rfl⟩
      go_wp2_with fail
      refine (specInRange _ _ _ _).mono ?_
      rw [V4.out]
      rintro e w2 ⟨rfl, rfl⟩
      go_wp2_with fail
      go_roundw
      case rel => exact ⟨j + 1, by omega, by go_num, fun l hl => by
        rcases Nat.lt_succ_iff_lt_or_eq.1 hl with h | rfl
        · exact H.out l h
        · rw [HG.out]; exact sigOk_yes (by have := hP.out; show (fAt fs l).params.length ≤ 3; omega) V3.out V5.out (fun k hk => absurd hk (by rw [sigF_lent]; omega)), hKb.out⟩
      case measure => simp [intOf]; omega
    · obtain ⟨b, o, rfl, hd, a3, n3, c3, a4, n4, c4, d0, d1, d2, d3, d4, r3, r4⟩ := HA.out 0 (by omega)
      have hKw := K0.trans hK
      have g0 := (hKw.cell (World.block_lt_of_cell? w _ d0) (fun h => h)).trans d0
      have g1 := (hKw.cell (World.block_lt_of_cell? w _ d1) (fun h => h)).trans d1
      rw [Nat.zero_mul, Nat.add_zero] at g0 g1
      have hP := r3.toInts.1
      have HG := sgAt_sigF fs (i := 0) (by have := HL.out; omega)
      have HJ : j = n1 := by omega
      clear d0 d1 d2 d3 d4 r3 r4
      by_cases h0 : n3 = 0
      · by_cases h5 : (fAt fs 0).result = 0
        · have V := Lib.hid (sigsOk_yes (n := n0) hd0.out V1.out (by have := HLM.out; omega) (by have := HLM.out; omega) (by rw [HG]; show (fAt fs 0).params.length = 0; omega) (by rw [HG]; exact h5) (fun i hi => H.out i (by have := HLM.out; omega)))
          clear hP HG HJ
          subst h0
          rw [h5] at g1
          go_wp2_with fail
          exact fin_ hQ ⟨ret_b (by rw [V.out]), hKw⟩
        · have V := Lib.hid (sigsOk_first (ds := ds) (sg := fs.map sigF) (fun h => h5 (by have := h.2; rw [HG] at this; exact this)))
          have h5' : ((fAt fs 0).result == 0) = false := by simpa using h5
          clear hP HG HJ h5
          subst h0
          go_wp2_with fail
          exact fin_ hQ ⟨ret_b (by rw [V.out]), hKw⟩
      · have V := Lib.hid (sigsOk_first (ds := ds) (sg := fs.map sigF) (fun h => h0 (by have := h.1; rw [HG] at this; have e : (fAt fs 0).params.length = 0 := this; omega)))
        have h0' : ((n3 : Int) == 0) = false := by simp; omega
        clear hP HG HJ h0
        go_wp2_with fail
        exact fin_ hQ ⟨ret_b (by rw [V.out]), hKw⟩
end Go.Proofs.YtkapldpmjkdmcaaGreat
/- Expressions in plain Lean: nodes, mentions. -/
namespace Go.Proofs.YtkapldpmjkdmcaaGreat

mutual
/-- The number of nodes. -/
def nE : ExprL → Nat
  | .mk _ _ ks => nEs ks + 1
def nEs : List ExprL → Nat
  | [] => 0
  | k :: ks => nE k + nEs ks
end
mutual
/-- How often a variable is mentioned. -/
def mE (v : Int) : ExprL → Nat
  | .mk op num ks => (if op = 12 ∧ num = v then 1 else 0) + mEs v ks
def mEs (v : Int) : List ExprL → Nat
  | [] => 0
  | k :: ks => mE v k + mEs v ks
end
mutual
theorem mE_le (v : Int) : ∀ e : ExprL, mE v e ≤ nE e
  | .mk op num ks => by
    have := mEs_le v ks
    rw [mE, nE]
    split <;> omega
theorem mEs_le (v : Int) : ∀ es : List ExprL, mEs v es ≤ nEs es
  | [] => Nat.le_refl _
  | k :: ks => by
    have := mE_le v k
    have := mEs_le v ks
    rw [mEs, nEs]
    omega
end
end Go.Proofs.YtkapldpmjkdmcaaGreat
/- Numbers of constructors, the place of a constructor, the arrow type between two types: in plain Lean. -/
namespace Go.Proofs.YtkapldpmjkdmcaaGreat

/-- The declarations are few, and so are their constructors. -/
def Few (ds : List DeclL) : Prop := ds.length ≤ 4 ∧ ∀ i, i < ds.length → (dAt ds i).cons.length ≤ 3

def firstN (ds : List DeclL) : Nat → Nat
  | 0 => 0
  | k + 1 => firstN ds k + (dAt ds k).cons.length
def conN (ds : List DeclL) : Nat := firstN ds ds.length

theorem declOk_few {ds : List DeclL} {k : Nat} (h : declOk ds k = true) : (dAt ds k).cons.length ≤ 3 := by
  unfold declOk at h
  split at h
  · simp at h; omega
  · omega
theorem Few.of_ok {ds : List DeclL} (h : typesOk ds = true) : Few ds := by
  simp only [typesOk, Bool.and_eq_true, decide_eq_true_eq] at h
  exact ⟨h.1, fun i hi => declOk_few (nAll.1 h.2 i hi)⟩
theorem firstN_le {ds : List DeclL} (h : Few ds) {k : Nat} (hk : k ≤ ds.length) : firstN ds k ≤ 3 * k := by
  induction k with
  | zero => simp [firstN]
  | succ k ih => have := h.2 k (by omega); have := ih (by omega); simp only [firstN]; omega
/-- The first of the numbers below n that is right. -/
def firstIx (n : Nat) (p : Nat → Bool) : Option Nat := (List.range n).find? p
theorem firstIx_some {n i : Nat} {p : Nat → Bool} (hi : i < n) (hp : p i = true) (hb : ∀ j, j < i → p j = false) : firstIx n p = some i := by
  unfold firstIx
  rw [List.find?_range_eq_some]
  exact ⟨hp, by simpa using hi, fun j hj => by simp [hb j hj]⟩
theorem firstIx_none {n : Nat} {p : Nat → Bool} (hb : ∀ j, j < n → p j = false) : firstIx n p = none := by
  unfold firstIx
  rw [List.find?_eq_none]
  intro j hj
  simp at hj
  simp [hb j hj]
theorem firstIx_spec {n i : Nat} {p : Nat → Bool} (h : firstIx n p = some i) : i < n ∧ p i = true ∧ ∀ j, j < i → p j = false := by
  unfold firstIx at h
  rw [List.find?_range_eq_some] at h
  exact ⟨by simpa using h.2.1, h.1, fun j hj => by simpa using h.2.2 j hj⟩
/-- A type plus 1, or -1. -/
def typeOr : Option Nat → Int
  | some i => (i : Int) + 1
  | none => -1
def inDecl (ds : List DeclL) (c : Int) (i : Nat) : Bool := decide ((firstN ds i : Int) ≤ c ∧ c < (firstN ds (i + 1) : Int))
def conIx (ds : List DeclL) (c : Int) : Option Nat := firstIx ds.length (inDecl ds c)
def conTypeL (ds : List DeclL) (c : Int) : Int := typeOr (conIx ds c)
/-- The fields of a constructor; none if there is no such constructor. -/
def conFieldsL (ds : List DeclL) (c : Int) : List Int :=
  match conIx ds c with
  | some i => cAt (dAt ds i).cons (c.toNat - firstN ds i)
  | none => []
def isArrow (ds : List DeclL) (f t : Int) (i : Nat) : Bool := decide ((dAt ds i).cons.length = 0) && ((dAt ds i).from_ == f) && ((dAt ds i).to_ == t)
def arrowL (ds : List DeclL) (f t : Int) : Int := typeOr (firstIx ds.length (isArrow ds f t))
/-- The numbers of the constructors of a type. -/
def consL (ds : List DeclL) (t : Int) : List Int :=
  if 1 ≤ t ∧ t ≤ (ds.length : Int) then (List.range (dAt ds (t.toNat - 1)).cons.length).map fun i => ((firstN ds (t.toNat - 1) + i : Nat) : Int) else []
end Go.Proofs.YtkapldpmjkdmcaaGreat
/- The types of expressions, plain. -/
namespace Go.Proofs.YtkapldpmjkdmcaaGreat
open Go.RowKit

/-- A type is an arrow type. -/
def isArr (ds : List DeclL) (t : Int) : Bool := decide (1 ≤ t ∧ t ≤ (ds.length : Int)) && decide ((dAt ds (t.toNat - 1)).cons.length = 0)
/-- The type of an operation that neither binds nor chooses, for kids of some types; -1 if it is not right. -/
def simpleL (ds : List DeclL) (sg : List SigL) (op num : Int) (tys : List Int) : Int :=
  if op = 0 then (if tys = [] ∧ -999 ≤ num ∧ num ≤ 999 then 0 else -1)
  else if op = 1 ∨ op = 2 ∨ op = 3 ∨ op = 4 then (if num = 0 ∧ tys = [0, 0] then 0 else -1)
  else if op = 5 then (if num = 0 ∧ tys = [0] then 0 else -1)
  else if op = 11 then (if num = 0 ∧ tys.length = 2 ∧ isArr ds (iAt tys 0) = true ∧ iAt tys 1 = (dAt ds ((iAt tys 0).toNat - 1)).from_ then (dAt ds ((iAt tys 0).toNat - 1)).to_ else -1)
  else if op = 6 then (if 0 < conTypeL ds num ∧ tys = conFieldsL ds num then conTypeL ds num else -1)
  else if op = 9 then (if 0 ≤ num ∧ num < (sg.length : Int) ∧ tys = (sgAt sg num.toNat).params then (sgAt sg num.toNat).result else -1)
  else if op = 10 then (if 0 ≤ num ∧ num < (sg.length : Int) ∧ 0 < (sgAt sg num.toNat).params.length ∧ tys = (sgAt sg num.toNat).params.take ((sgAt sg num.toNat).params.length - 1) then
    arrowL ds (iAt (sgAt sg num.toNat).params ((sgAt sg num.toNat).params.length - 1)) (sgAt sg num.toNat).result else -1)
  else -1
/-- The type that all have, or -1. -/
def oneT : List Int → Int
  | [] => -1
  | t :: ts => if 0 ≤ t ∧ ts.all (fun u => decide (u = t)) = true then t else -1
/-- The fields of the constructors of a type. -/
def armsL (ds : List DeclL) (t : Int) : List (List Int) := (consL ds t).map (conFieldsL ds)

mutual
/-- The type of an expression; -1 if it has none. -/
def tyE (ds : List DeclL) (sg : List SigL) (vars : List Int) : ExprL → Int
  | .mk op num ks =>
    if op = 12 then (if ks.length = 0 ∧ 0 ≤ num ∧ num < (vars.length : Int) then iAt vars num.toNat else -1)
    else if op = 13 then (if num = 0 ∧ ks.length = 2 then tyLet ds sg vars ks else -1)
    else if op = 7 then (if num = 0 ∧ ks.length = 3 ∧ tyHd ds sg vars ks = 0 then oneT (tyTl ds sg vars ks [[], []]) else -1)
    else if op = 8 then (if 0 < (armsL ds num).length ∧ ks.length = 1 + (armsL ds num).length ∧ tyHd ds sg vars ks = num then oneT (tyTl ds sg vars ks (armsL ds num)) else -1)
    else simpleL ds sg op num (tyEs ds sg vars ks)
def tyEs (ds : List DeclL) (sg : List SigL) (vars : List Int) : List ExprL → List Int
  | [] => []
  | k :: ks => tyE ds sg vars k :: tyEs ds sg vars ks
def tyHd (ds : List DeclL) (sg : List SigL) (vars : List Int) : List ExprL → Int
  | [] => -1
  | k :: _ => tyE ds sg vars k
def tyTl (ds : List DeclL) (sg : List SigL) (vars : List Int) : List ExprL → List (List Int) → List Int
  | [], _ => []
  | _ :: ks, fs => tyArms ds sg vars ks fs
def tyArms (ds : List DeclL) (sg : List SigL) (vars : List Int) : List ExprL → List (List Int) → List Int
  | [], _ => []
  | k :: ks, fs => tyE ds sg (vars ++ fs.headD []) k :: tyArms ds sg vars ks fs.tail
def tyLet (ds : List DeclL) (sg : List SigL) (vars : List Int) : List ExprL → Int
  | [] => -1
  | k :: ks => if 0 ≤ tyE ds sg vars k then tyHd ds sg (vars ++ [tyE ds sg vars k]) ks else -1
end

section
variable (ds : List DeclL) (sg : List SigL) (vars : List Int)
end
theorem oneT_at {ts : List Int} (h0 : 0 < ts.length) (h1 : 0 ≤ iAt ts 0) (h : ∀ i, i < ts.length → iAt ts i = iAt ts 0) : oneT ts = iAt ts 0 := by
  cases ts with
  | nil => simp at h0
  | cons t ts =>
    have e : iAt (t :: ts) 0 = t := by simp [iAt]
    rw [e] at h1 h ⊢
    have h2 : ts.all (fun u => decide (u = t)) = true := by
      rw [List.all_eq_true]
      intro u hu
      obtain ⟨i, hi, rfl⟩ := List.getElem_of_mem hu
      have := h (i + 1) (by simpa using hi)
      simpa [iAt, hi] using this
    rw [oneT, if_pos ⟨h1, h2⟩]
theorem oneT_neg {ts : List Int} {i : Nat} (hi : i < ts.length) (h : iAt ts i ≠ iAt ts 0 ∨ iAt ts i < 0) : oneT ts = -1 := by
  cases ts with
  | nil => simp at hi
  | cons t ts =>
    have e : iAt (t :: ts) 0 = t := by simp [iAt]
    rw [e] at h
    rw [oneT, if_neg ?_]
    rintro ⟨h1, h2⟩
    rw [List.all_eq_true] at h2
    cases i with
    | zero => rw [e] at h; omega
    | succ i =>
      have hi' : i < ts.length := by simpa using hi
      have := h2 ts[i] (List.getElem_mem hi')
      have e2 : iAt (t :: ts) (i + 1) = ts[i] := by simp [iAt, hi']
      rw [e2] at h
      simp at this
      omega
end Go.Proofs.YtkapldpmjkdmcaaGreat
/- The types of expressions, plain: what has a type has one that there is. -/
namespace Go.Proofs.YtkapldpmjkdmcaaGreat
open Go.RowKit

theorem isT_iff {n : Nat} {t : Int} : isT n t = true ↔ 0 ≤ t ∧ t ≤ (n : Int) := by simp [isT]
theorem allT_iff {n : Nat} {xs : List Int} : allT n xs = true ↔ ∀ i, i < xs.length → isT n (iAt xs i) = true := iAll
theorem allT_append {n : Nat} {xs ys : List Int} (h : allT n xs = true) (h2 : allT n ys = true) : allT n (xs ++ ys) = true := by simp only [allT, List.all_append, Bool.and_eq_true] at *; exact ⟨h, h2⟩
theorem allT_one {n : Nat} {t : Int} (h : isT n t = true) : allT n [t] = true := by simp [allT, h]
theorem typesOk_decl {ds : List DeclL} (h : typesOk ds = true) {k : Nat} (hk : k < ds.length) : declOk ds k = true := by
  simp only [typesOk, Bool.and_eq_true] at h
  exact nAll.1 h.2 k hk
theorem typesOk_len {ds : List DeclL} (h : typesOk ds = true) : ds.length ≤ 4 := by
  simp only [typesOk, Bool.and_eq_true, decide_eq_true_eq] at h
  exact h.1
theorem declOk_arrow {ds : List DeclL} {k : Nat} (h : declOk ds k = true) (h0 : (dAt ds k).cons.length = 0) : isT ds.length (dAt ds k).from_ = true ∧ isT ds.length (dAt ds k).to_ = true := by
  unfold declOk at h
  rw [if_neg (by omega)] at h
  simp only [Bool.and_eq_true] at h
  exact ⟨h.1.1, h.1.2⟩
theorem conFieldsL_ok {ds : List DeclL} (h : typesOk ds = true) (c : Int) : (conFieldsL ds c).length ≤ 3 ∧ allT ds.length (conFieldsL ds c) = true := by
  unfold conFieldsL
  split
  · next i hi =>
    obtain ⟨h1, h2, _⟩ := firstIx_spec hi
    have hd := typesOk_decl h h1
    have h2 : (firstN ds i : Int) ≤ c ∧ c < (firstN ds (i + 1) : Int) := of_decide_eq_true h2
    have h3 : firstN ds (i + 1) = firstN ds i + (dAt ds i).cons.length := rfl
    have hc : c.toNat - firstN ds i < (dAt ds i).cons.length := by omega
    unfold declOk at hd
    rw [if_pos (by omega)] at hd
    simp only [Bool.and_eq_true] at hd
    have := cAll.1 hd.2 _ hc
    simp only [conOk, Bool.and_eq_true, decide_eq_true_eq] at this
    exact this
  · exact ⟨by simp, rfl⟩
theorem typeOr_range {n : Nat} {p : Nat → Bool} : typeOr (firstIx n p) = -1 ∨ isT n (typeOr (firstIx n p)) = true := by
  cases h : firstIx n p with
  | none => exact .inl rfl
  | some i =>
    obtain ⟨h1, _⟩ := firstIx_spec h
    refine .inr (isT_iff.2 ?_)
    show 0 ≤ (i : Int) + 1 ∧ (i : Int) + 1 ≤ n
    omega
theorem sigsOk_parts {ds : List DeclL} {sg : List SigL} (h : sigsOk ds sg = true) : typesOk ds = true ∧ 1 ≤ sg.length ∧ sg.length ≤ 4 ∧ ∀ i, i < sg.length → sigOk ds.length (sgAt sg i) = true := by
  simp only [sigsOk, Bool.and_eq_true, decide_eq_true_eq] at h
  exact ⟨h.1.1.1.1.1, h.1.1.1.1.2, h.1.1.1.2, fun i hi => nAll.1 h.2 i hi⟩
theorem sigOk_parts {n : Nat} {s : SigL} (h : sigOk n s = true) : s.params.length ≤ 3 ∧ allT n s.params = true ∧ isT n s.result = true ∧ lentOk s = true := by
  simp only [sigOk, Bool.and_eq_true, decide_eq_true_eq] at h
  exact ⟨h.1.1.1, h.1.1.2, h.1.2, h.2⟩
theorem isArr_parts {ds : List DeclL} {t : Int} (h : isArr ds t = true) : 1 ≤ t ∧ t ≤ (ds.length : Int) ∧ (dAt ds (t.toNat - 1)).cons.length = 0 := by
  simp only [isArr, Bool.and_eq_true, decide_eq_true_eq] at h
  exact ⟨h.1.1, h.1.2, h.2⟩

section
variable {ds : List DeclL} {sg : List SigL} (hok : sigsOk ds sg = true)
include hok
theorem simple_range (op num : Int) (tys : List Int) : simpleL ds sg op num tys = -1 ∨ isT ds.length (simpleL ds sg op num tys) = true := by
  obtain ⟨ht, _, _, hs⟩ := sigsOk_parts hok
  have z : isT ds.length 0 = true := isT_iff.2 ⟨by omega, by omega⟩
  unfold simpleL
  split
  · split
    · exact .inr z
    · exact .inl rfl
  split
  · split
    · exact .inr z
    · exact .inl rfl
  split
  · split
    · exact .inr z
    · exact .inl rfl
  split
  · split
    · next h =>
      obtain ⟨h1, h2, h3⟩ := isArr_parts h.2.2.1
      exact .inr (declOk_arrow (typesOk_decl ht (by omega)) h3).2
    · exact .inl rfl
  split
  · split
    · exact typeOr_range
    · exact .inl rfl
  split
  · split
    · next h => exact .inr (sigOk_parts (hs _ (by omega))).2.2.1
    · exact .inl rfl
  split
  · split
    · exact typeOr_range
    · exact .inl rfl
  · exact .inl rfl
omit hok in
theorem oneT_range {ts : List Int} (h : ∀ i, i < ts.length → iAt ts i = -1 ∨ isT ds.length (iAt ts i) = true) : oneT ts = -1 ∨ isT ds.length (oneT ts) = true := by
  cases ts with
  | nil => exact .inl rfl
  | cons t ts =>
    rw [oneT]
    split
    · have := h 0 (by simp)
      simpa [iAt] using this
    · exact .inl rfl
omit hok in
/-- All have one type, t, or none. -/
theorem oneT_same {ts : List Int} {t : Int} (h0 : 0 < ts.length) (h1 : -1 ≤ t) (h : ∀ i, i < ts.length → iAt ts i = t) : oneT ts = t := by
  by_cases ht : 0 ≤ t
  · rw [oneT_at h0 (by rw [h 0 h0]; exact ht) (fun i hi => by rw [h i hi, h 0 h0]), h 0 h0]
  · rw [oneT_neg h0 (.inr (by rw [h 0 h0]; omega))]; omega
end
end Go.Proofs.YtkapldpmjkdmcaaGreat
/- A whole element written into a slice of the call's own; rows that are filled one by one. -/
namespace Go.Proofs.YtkapldpmjkdmcaaGreat
open Go.RowKit

/-- The cells from o on are written over. -/
def setAll (w : World) (b o : Nat) : List Value → World
  | [] => w
  | u :: us => setAll (w.setCell ⟨b, o, none⟩ u) b (o + 1) us
theorem setAll_ext (w : World) (b o : Nat) (us : List Value) : Ext (fun k => k = b) w (setAll w b o us) := by
  induction us generalizing w o with
  | nil => exact Ext.refl _ _
  | cons u us ih => exact ((Ext.refl (fun k => k = b) w).setCell (p := ⟨b, o, none⟩) (.inr rfl) u).trans (ih _ _)
theorem setAll_row {w : World} {b N : Nat} {T : TypeId} {f : Nat → Value} (h : w.rowIs b T N f) (us : List Value) (o : Nat) : (setAll w b o us).rowIs b T N (fun k => if o ≤ k ∧ k < o + us.length then us.getD (k - o) undef else f k) := by
  induction us generalizing w o f with
  | nil => exact h.congr (fun i _ => by rw [if_neg (by simp)])
  | cons u us ih =>
    refine (ih (h.set o u) (o + 1)).congr (fun i _ => ?_)
    by_cases e : i = o
    · subst e
      rw [if_neg (by omega), if_pos rfl, if_pos (by simp)]
      simp [List.getD]
    · by_cases e1 : o + 1 ≤ i ∧ i < o + 1 + us.length
      · rw [if_pos e1, if_pos (by simp; omega), show i - o = (i - (o + 1)) + 1 by omega]
        simp [List.getD]
      · rw [if_neg e1, if_neg e, if_neg (by simp; omega)]

section
variable {D : Nat → Prop} {w : World}
theorem Own.cells {s : Nat} {rows : List (List Dat)} {a : Option Addr} {n c : Nat} (h : Own w D (.arr s rows) (.slice a n c)) {j : Nat} (hj : j < n) : ∃ b, a = some ⟨b, 0, none⟩ ∧ D b ∧ b < w.heap.size ∧ (∀ o, w.frozen? ⟨b, o, none⟩ = false) ∧ ∀ l, l < s → ∃ u, w.cell? ⟨b, j * s + l, none⟩ = some u := by
  cases h with
  | nil => omega
  | arr D E s rows b c T N f hD h0 hs0 hc hm hs' hN hrow hE hdis hr =>
    exact ⟨b, rfl, hD, hrow.lt, hrow.frozen, fun l hl => ⟨_, hrow.cell (Nat.lt_of_lt_of_le (idx_lt hj hl) hN)⟩⟩
theorem Own.putRow {s : Nat} {rows : List (List Dat)} {b n c : Nat} (h : Own w D (.arr s rows) (.slice (some ⟨b, 0, none⟩) n c)) {j : Nat} (hj : j < n) (us : List Value) (ds : List Dat) (E : Nat → Nat → Prop)
    (hus : us.length = s) (hds : ds.length = s) (ho : ∀ i, i < s → ∃ u, us[i]? = some u ∧ Own w (E i) (dGet ds i) u) (hE : ∀ i k, i < s → E i k → ¬ D k) (hdis : ∀ i i' k, i < s → i' < s → E i k → E i' k → i = i') :
    Own (setAll w b (j * s) us) (fun k => D k ∨ ∃ i, i < s ∧ E i k) (.arr s (rows.set j ds)) (.slice (some ⟨b, 0, none⟩) n c) := by
  cases h with
  | nil => omega
  | arr D E0 s rows b c T N f hD h0 hs0 hc hm hs' hN hrow hE0 hdis0 hr =>
    have hx := setAll_ext w b (j * s) us
    have hlen : (rows.set j ds).length = rows.length := by simp
    have q := Own.arr (w := setAll w b (j * s) us) (fun k => D k ∨ ∃ i, i < s ∧ E i k) (fun k l => if k = j then E l else E0 k l) s (rows.set j ds) b c T N _ (.inl hD) (by rw [hlen]; exact h0) hs0 (by rw [hlen]; exact hc) (by rw [hlen]; exact hm)
      (fun i hi => by
        rw [hlen] at hi
        rw [rGet_set hj]
        by_cases e : i = j
        · rw [if_pos e, hds]
        · rw [if_neg e, hs' i hi]) (by rw [hlen]; exact hN) (setAll_row hrow us (j * s))
      (by
        rw [hlen]
        intro i l k hi hl hk
        by_cases e : i = j
        · rw [if_pos e] at hk
          exact ⟨.inr ⟨l, hl, hk⟩, fun e' => hE l k hl hk (e' ▸ hD)⟩
        · rw [if_neg e] at hk
          exact ⟨.inl (hE0 i l k hi hl hk).1, (hE0 i l k hi hl hk).2⟩)
      (by
        rw [hlen]
        intro i l i' l' k hi hl hi' hl' hk hk'
        by_cases e : i = j <;> by_cases e' : i' = j
        · rw [if_pos e] at hk; rw [if_pos e'] at hk'
          exact ⟨by omega, hdis l l' k hl hl' hk hk'⟩
        · rw [if_pos e] at hk; rw [if_neg e'] at hk'
          exact absurd (hE0 i' l' k hi' hl' hk').1 (hE l k hl hk)
        · rw [if_neg e] at hk; rw [if_pos e'] at hk'
          exact absurd (hE0 i l k hi hl hk).1 (hE l' k hl' hk')
        · rw [if_neg e] at hk; rw [if_neg e'] at hk'
          exact hdis0 i l i' l' k hi hl hi' hl' hk hk')
      (fun i l hi hl => by
        rw [hlen] at hi
        have hlt := idx_lt hi hl
        by_cases e : i = j
        · subst e
          obtain ⟨u, hu, hown⟩ := ho l hl
          have e1 : (if i * s ≤ i * s + l ∧ i * s + l < i * s + us.length then us.getD (i * s + l - i * s) undef else f (i * s + l)) = u := by
            rw [if_pos (by omega), Nat.add_sub_cancel_left]; simp [List.getD, hu]
          show Own _ (if i = i then E l else E0 i l) _ (if i * s ≤ i * s + l ∧ i * s + l < i * s + us.length then us.getD (i * s + l - i * s) undef else f (i * s + l))
          rw [if_pos rfl, e1, rAt, rGet_set hj, if_pos rfl]
          exact hown.ext hx (fun k hk h => hE l k hl hk (h ▸ hD))
        · have hne : ¬ (j * s ≤ i * s + l ∧ i * s + l < j * s + us.length) := by
            rintro ⟨q1, q2⟩
            have : i * s + l = j * s + (i * s + l - j * s) := by omega
            exact e (idx_inj hl (by omega) this).1
          show Own _ (if i = j then E l else E0 i l) _ (if j * s ≤ i * s + l ∧ i * s + l < j * s + us.length then us.getD (i * s + l - j * s) undef else f (i * s + l))
          rw [if_neg e, if_neg hne, rAt, rGet_set hj, if_neg e]
          exact (hr i l hi hl).ext hx (fun k hk h => (hE0 i l k hi hl hk).2 h))
    rw [hlen] at q
    exact q
end

/-- The values us hold the data ds in rows of the call's own, whose blocks lie from lo on and below hi. -/
def ToS (lo hi : Nat) (w : World) (ds : List Dat) (us : List Value) : Prop := ∃ E : Nat → Nat → Prop, (∀ i k, E i k → lo ≤ k ∧ k < hi) ∧ (∀ i i' k, E i k → E i' k → i = i') ∧ us.length = ds.length ∧
  ∀ i, i < ds.length → ∃ u, us[i]? = some u ∧ Own w (E i) (dGet ds i) u
theorem ToS.nil (lo hi : Nat) (w : World) : ToS lo hi w [] [] := ⟨fun _ _ => False, by simp, by simp, rfl, by simp⟩
theorem ToS.ext {S : Nat → Prop} {lo hi : Nat} {w w' : World} {ds : List Dat} {us : List Value} (h : ToS lo hi w ds us) (hx : Ext S w w') (hs : ∀ k, lo ≤ k → k < hi → ¬ S k) : ToS lo hi w' ds us := by
  obtain ⟨E, h1, h2, h3, h4⟩ := h
  exact ⟨E, h1, h2, h3, fun i hi => by obtain ⟨u, hu, ho⟩ := h4 i hi; exact ⟨u, hu, ho.ext hx (fun k hk => hs k (h1 i k hk).1 (h1 i k hk).2)⟩⟩
theorem ToS.wide {lo hi lo' hi' : Nat} {w : World} {ds : List Dat} {us : List Value} (h : ToS lo hi w ds us) (h1 : lo' ≤ lo) (h2 : hi ≤ hi') : ToS lo' hi' w ds us := by
  obtain ⟨E, q1, q2, q3, q4⟩ := h
  exact ⟨E, fun i k hk => by have := q1 i k hk; omega, q2, q3, q4⟩
theorem ToS.own {w : World} {m : Nat} {d : Dat} {u : Value} (h : Own w (fun k => m ≤ k) d u) : ToS m w.heap.size w [d] [u] := by
  refine ⟨fun i k => i = 0 ∧ m ≤ k ∧ k < w.heap.size, fun i k hk => hk.2, fun i i' k hk hk' => by omega, rfl, fun i hi => ?_⟩
  obtain rfl : i = 0 := by simpa using hi
  exact ⟨u, rfl, h.lt.mono (fun k hk => ⟨rfl, hk⟩)⟩
theorem ToS.int (lo hi : Nat) (w : World) (z : Int) : ToS lo hi w [.num z] [.int .i64 z] := by
  refine ⟨fun _ _ => False, by simp, by simp, rfl, fun i hi => ?_⟩
  obtain rfl : i = 0 := by simpa using hi
  exact ⟨_, rfl, .num _ z⟩
theorem ToS.app {lo m hi : Nat} {w : World} {ds ds2 : List Dat} {us us2 : List Value} (h : ToS lo m w ds us) (h2 : ToS m hi w ds2 us2) (hlo : lo ≤ m) (hhi : m ≤ hi) : ToS lo hi w (ds ++ ds2) (us ++ us2) := by
  obtain ⟨E, q1, q2, q3, q4⟩ := h
  obtain ⟨E', r1, r2, r3, r4⟩ := h2
  refine ⟨fun i => if i < ds.length then E i else E' (i - ds.length), fun i k hk => ?_, fun i i' k hk hk' => ?_, by simp [q3, r3], fun i hi => ?_⟩
  · by_cases e : i < ds.length
    · simp only [if_pos e] at hk; have := q1 i k hk; omega
    · simp only [if_neg e] at hk; have := r1 _ k hk; omega
  · by_cases e : i < ds.length <;> by_cases e' : i' < ds.length
    · simp only [if_pos e] at hk; simp only [if_pos e'] at hk'; exact q2 i i' k hk hk'
    · simp only [if_pos e] at hk; simp only [if_neg e'] at hk'
      have := q1 i k hk; have := r1 _ k hk'; omega
    · simp only [if_neg e] at hk; simp only [if_pos e'] at hk'
      have := q1 i' k hk'; have := r1 _ k hk; omega
    · simp only [if_neg e] at hk; simp only [if_neg e'] at hk'
      have := r2 _ _ k hk hk'; omega
  · by_cases e : i < ds.length
    · obtain ⟨u, hu, ho⟩ := q4 i e
      refine ⟨u, by rw [List.getElem?_append_left (by omega)]; exact hu, ?_⟩
      show Own w (if i < ds.length then E i else E' (i - ds.length)) _ _
      rw [if_pos e]
      have : dGet (ds ++ ds2) i = dGet ds i := by simp [dGet, List.getD, List.getElem?_append_left e]
      rw [this]; exact ho
    · have hl : i - ds.length < ds2.length := by simp at hi; omega
      obtain ⟨u, hu, ho⟩ := r4 _ hl
      refine ⟨u, by rw [List.getElem?_append_right (by omega), q3]; exact hu, ?_⟩
      show Own w (if i < ds.length then E i else E' (i - ds.length)) _ _
      rw [if_neg e]
      have : dGet (ds ++ ds2) i = dGet ds2 (i - ds.length) := by simp [dGet, List.getD, List.getElem?_append_right (Nat.le_of_not_lt e)]
      rw [this]; exact ho
/-- A whole element into a slice of the call's own. -/
theorem Own.put {w : World} {lo hi hi' s : Nat} {rows : List (List Dat)} {b n c : Nat} (h : Own w (fun k => lo ≤ k ∧ k < hi) (.arr s rows) (.slice (some ⟨b, 0, none⟩) n c)) {j : Nat} (hj : j < n) (us : List Value) (ds : List Dat)
    (hds : ds.length = s) (ht : ToS hi hi' w ds us) (hlo : lo ≤ hi) (hhi : hi ≤ hi') : Own (setAll w b (j * s) us) (fun k => lo ≤ k ∧ k < hi') (.arr s (rows.set j ds)) (.slice (some ⟨b, 0, none⟩) n c) := by
  obtain ⟨E, h1, h2, h3, h4⟩ := ht
  refine (h.putRow hj us ds E (by omega) hds (fun i hi => h4 i (by omega)) (fun i k _ hk hk' => by have := h1 i k hk; omega) (fun i i' k _ _ => h2 i i' k)).mono (fun k hk => ?_)
  rcases hk with hk | ⟨i, _, hk⟩
  · omega
  · have := h1 i k hk; omega
theorem ToS.get {lo hi : Nat} {w : World} {ds : List Dat} {us : List Value} (h : ToS lo hi w ds us) (i : Nat) (d : Dat) (u : Value) (hd : ds[i]? = some d) (hu : us[i]? = some u) : Own w (fun k => lo ≤ k ∧ k < hi) d u := by
  obtain ⟨E, h1, _, h3, h4⟩ := h
  obtain ⟨hi', e⟩ := List.getElem?_eq_some_iff.1 hd
  obtain ⟨u', hu', ho⟩ := h4 i hi'
  rw [hu] at hu'
  injection hu' with hu'
  subst hu'
  have : dGet ds i = d := by rw [dGet_lt hi', e]
  rw [this] at ho
  exact ho.mono (fun k hk => h1 i k hk)
theorem rowOf (w : World) (c : Array Value) (T : TypeId) : (w.alloc (.cells c T)).rowIs w.heap.size T c.size (fun i => c.getD i undef) := World.rowIs_alloc w c T _ (fun i hi => by simp [Array.getD, hi])

/-- The first j of rows, then z. -/
def rowsTo (rows : List (List Dat)) (z : List Dat) (j : Nat) : List (List Dat) := rows.take j ++ List.replicate (rows.length - j) z
theorem rowsTo_zero (rows : List (List Dat)) (z : List Dat) : rowsTo rows z 0 = List.replicate rows.length z := by simp [rowsTo]
theorem rowsTo_all (rows : List (List Dat)) (z : List Dat) {n : Nat} (h : n = rows.length) : rowsTo rows z n = rows := by subst h; simp [rowsTo]
theorem rowsTo_succ (rows : List (List Dat)) (z : List Dat) {j : Nat} (h : j < rows.length) : (rowsTo rows z j).set j (rGet rows j) = rowsTo rows z (j + 1) := by
  have h1 : (rows.take j).length = j := by simp; omega
  simp only [rowsTo]
  rw [List.set_append_right _ _ (Nat.le_of_eq h1), h1, Nat.sub_self, take_succ_rows rows j h, show rows.length - j = (rows.length - (j + 1)) + 1 by omega, List.replicate_succ, List.set_cons_zero]
  simp
end Go.Proofs.YtkapldpmjkdmcaaGreat
/- The nodes of an expression, counted by the reference and by the program. -/
namespace Go.Proofs.YtkapldpmjkdmcaaGreat
open Go.RowKit

/-- What is left of left, behind s; -1 if it is not enough. -/
def lft (s : Nat) (left : Int) : Int := if (s : Int) ≤ left then left - (s : Int) else -1
theorem lft_yes {s : Nat} {left : Int} (h : (s : Int) ≤ left) : lft s left = left - (s : Int) := if_pos h
theorem lft_no {s : Nat} {left : Int} (h : left < (s : Int)) : lft s left = -1 := if_neg (by omega)

/-- The number of nodes; -1 if there are too many. -/
def nodesL (es : List ExprL) : Int := if nEs es + 1 ≤ 30 then ((nEs es + 1 : Nat) : Int) else -1
end Go.Proofs.YtkapldpmjkdmcaaGreat
/- The steps of a block, counted by the reference and by the program. -/
namespace Go.Proofs.YtkapldpmjkdmcaaGreat
open Go.RowKit

mutual
/-- The number of steps. -/
def nS : StepL → Nat
  | .mk _ _ _ _ ks => nBs ks + 1
def nSs : List StepL → Nat
  | [] => 0
  | s :: ss => nS s + nSs ss
def nB : BlockL → Nat
  | .mk ss _ => nSs ss
def nBs : List BlockL → Nat
  | [] => 0
  | b :: bs => nB b + nBs bs
end
theorem nS_eq (s : StepL) : nS s = nBs s.kids + 1 := by cases s; rw [nS]; rfl
theorem nB_eq (b : BlockL) : nB b = nSs b.steps := by cases b; rw [nB]; rfl
theorem nSs_append (a b : List StepL) : nSs (a ++ b) = nSs a + nSs b := by induction a <;> simp_all [nSs, Nat.add_assoc]
theorem nBs_append (a b : List BlockL) : nBs (a ++ b) = nBs a + nBs b := by induction a <;> simp_all [nBs, Nat.add_assoc]
theorem nSs_take (es : List StepL) {j : Nat} (h : j < es.length) : nSs (es.take (j + 1)) = nSs (es.take j) + nS (sAt es j) := by rw [List.take_succ_eq_append_getElem h, sAt_get h, nSs_append]; simp [nSs]
theorem nBs_take (es : List BlockL) {j : Nat} (h : j < es.length) : nBs (es.take (j + 1)) = nBs (es.take j) + nB (bAt es j) := by rw [List.take_succ_eq_append_getElem h, bAt_get h, nBs_append]; simp [nBs]
theorem nSs_take_le (es : List StepL) (j : Nat) : nSs (es.take j) ≤ nSs es := by
  conv => rhs; rw [← List.take_append_drop j es, nSs_append]
  omega
theorem nBs_take_le (es : List BlockL) (j : Nat) : nBs (es.take j) ≤ nBs es := by
  conv => rhs; rw [← List.take_append_drop j es, nBs_append]
  omega
theorem nS_le (es : List StepL) {j : Nat} (h : j < es.length) : nS (sAt es j) ≤ nSs es := by
  have h1 := nSs_take es h
  have h2 := nSs_take_le es (j + 1)
  omega
theorem nB_le (es : List BlockL) {j : Nat} (h : j < es.length) : nB (bAt es j) ≤ nBs es := by
  have h1 := nBs_take es h
  have h2 := nBs_take_le es (j + 1)
  omega
theorem nkid_lt (ss : List StepL) {j k : Nat} (h : j < ss.length) (h2 : k < (sAt ss j).kids.length) : nSs (bAt (sAt ss j).kids k).steps < nSs ss := by
  have := nS_le ss h
  have := nS_eq (sAt ss j)
  have := nB_le (sAt ss j).kids h2
  have := nB_eq (bAt (sAt ss j).kids k)
  omega

set_option maxRecDepth 100000 in
set_option maxHeartbeats 2000000 in
theorem specStepsLeft_n (N : Nat) : ∀ (ss : List StepL) (res : Int), nSs ss < N → ∀ (a : Option Addr) (n c : Nat) (D : Nat → Prop) (left : Int) (w : World), Rd w D (encSteps ss) (.slice a n c) → 0 ≤ left → left ≤ 1048576 →
    Calls Tryz.prog 128 #[.agg #[.slice a n c, .int .i64 res], .int .i64 left] w fun e w' => e = .returned (.int .i64 (lft (nSs ss) left)) ∧ Keep w w' := by
  induction N with
  | zero => intro ss _ h; omega
  | succ N ihN =>
  intro ss res hN a n c D left w h h0 h1
  refine calls_k fun Q hQ => ?_
  obtain ⟨e1, hnc, hm, hat⟩ := steps_at h
  have HL := Lib.hid e1
  have HA := Lib.hid hat
  have IH := Lib.hid (fun (j k : Nat) (hj : j < ss.length) (hk : k < (sAt ss j).kids.length) => ihN (bAt (sAt ss j).kids k).steps (bAt (sAt ss j).kids k).result (by have := nkid_lt ss hj hk; omega))
  clear e1 hat ihN hN
  have K0 := Keep.al w (.cells #[.slice a n c, .int .i64 res] 69)
  go_enter Tryz.func128, Tryz.ntmps128
  go_wp2
  go_loopw [1, 5] (fun lv iv wr => ∃ j : Nat, j ≤ n ∧ iv = .int .i64 j ∧ lv = .int .i64 (left - (nSs (ss.take j) : Int)) ∧ (nSs (ss.take j) : Int) ≤ left ∧ Keep (w.alloc (.cells #[.slice a n c, .int .i64 res] 69)) wr) (fun _ i _ => n - (intOf i).toNat)
  case atStart => exact ⟨0, Nat.zero_le _, rfl, by simp [nSs], by simp only [List.take_zero, nSs]; omega, Ext.refl _ _⟩
  case round =>
    obtain ⟨wo, rfl⟩ : ∃ wo : World, wo = wr := ⟨_, rfl⟩
    obtain ⟨j, hj, rfl, rfl, hsz, hK⟩ := hrel
    have x0 := boxk hK 0
    simp at x0
    by_cases hlt : j < n
    · have hst := nSs_take ss (j := j) (by have := HL.out; omega)
      have hee := nS_eq (sAt ss j)
      have hle := nSs_take_le ss (j + 1)
      by_cases hl1 : left - (nSs (ss.take j) : Int) < 1
      · have V2 := Lib.hid (lft_no (s := nSs ss) (left := left) (by omega))
        clear hst hee hle
        go_wp2_with fail
        exact fin_ hQ ⟨ret_i V2.out.symm, K0.trans hK⟩
      obtain ⟨b, o, rfl, hd, a3, n3, c3, a4, n4, c4, d0, d1, d2, d3, d4, r3, r4⟩ := HA.out j hlt
      have hKw := K0.trans hK
      have d4' := Lib.hid d4
      have g4 := (hKw.cell (World.block_lt_of_cell? w _ d4) (fun h => h)).trans d4
      have q4 := r4.k hKw
      obtain ⟨e4, hnc4, hm4, hat4⟩ := blocks_at q4
      have HL4 := Lib.hid e4
      have HA4 := Lib.hid hat4
      have HS := Lib.hid hst
      have HE := Lib.hid hee
      have HLE := Lib.hid hle
      clear d0 d1 d2 d3 d4 r3 r4 hst hee hle e4 hat4 q4
      go_wp2_with fail
      go_loopw [1, 6] (fun lv iv wr => ∃ k : Nat, k ≤ n4 ∧ iv = .int .i64 k ∧ lv = .int .i64 (left - (nSs (ss.take j) : Int) - 1 - (nBs ((sAt ss j).kids.take k) : Int)) ∧ (nBs ((sAt ss j).kids.take k) : Int) ≤ left - (nSs (ss.take j) : Int) - 1 ∧ Keep wo wr) (fun _ i _ => n4 - (intOf i).toNat)
      case atStart => exact ⟨0, Nat.zero_le _, rfl, by simp [nBs], by simp only [List.take_zero, nBs]; omega, Ext.refl _ _⟩
      case round =>
        obtain ⟨k, hk, rfl, rfl, hsz2, hK2⟩ := hrel
        have x0' := (hK2.cell (World.block_lt_of_cell? _ _ x0) (fun h => h)).trans x0
        have g4' := (hK2.cell (World.block_lt_of_cell? _ _ g4) (fun h => h)).trans g4
        by_cases hltk : k < n4
        · have hstk := nBs_take (sAt ss j).kids (j := k) (by have := HL4.out; omega)
          have heek := nB_eq (bAt (sAt ss j).kids k)
          have hlek := nBs_take_le (sAt ss j).kids (k + 1)
          obtain ⟨b4, o4, rfl, hd4, a5, n5, c5, f0, f1, r5⟩ := HA4.out k hltk
          have t0 := (hK2.cell (World.block_lt_of_cell? _ _ f0) (fun h => h)).trans f0
          have t1 := (hK2.cell (World.block_lt_of_cell? _ _ f1) (fun h => h)).trans f1
          have q5 := r5.k hK2
          have u0 : 0 ≤ left - (nSs (ss.take j) : Int) - 1 - (nBs ((sAt ss j).kids.take k) : Int) := by omega
          have HSk := Lib.hid hstk
          have HEk := Lib.hid heek
          have HLk := Lib.hid hlek
          clear f0 f1 r5 hstk heek hlek
          by_cases hf : (nBs ((sAt ss j).kids.take (k + 1)) : Int) ≤ left - (nSs (ss.take j) : Int) - 1
          · have V : Hid (lft (nSs (bAt (sAt ss j).kids k).steps) (left - (nSs (ss.take j) : Int) - 1 - (nBs ((sAt ss j).kids.take k) : Int)) = left - (nSs (ss.take j) : Int) - 1 - (nBs ((sAt ss j).kids.take (k + 1)) : Int)) := by
              show _ = _
              have := HSk.out; have := HEk.out
              rw [lft_yes (by omega)]; omega
            have u1 : 0 ≤ left - (nSs (ss.take j) : Int) - 1 - (nBs ((sAt ss j).kids.take (k + 1)) : Int) := by omega
            go_wp2_with fail
            refine (IH.out j k (by have := HL.out; omega) (by have := HL4.out; omega) _ _ _ _ _ _ q5 (by omega) (by omega)).mono ?_
            rw [V.out]
            rintro e w1 ⟨rfl, p1⟩
            go_wp2_with fail
            go_roundw
            case rel => exact ⟨k + 1, by omega, by go_num, rfl, by omega, hK2.trans p1⟩
            case measure => simp [intOf]; omega
          · have V : Hid (lft (nSs (bAt (sAt ss j).kids k).steps) (left - (nSs (ss.take j) : Int) - 1 - (nBs ((sAt ss j).kids.take k) : Int)) = -1) := by
              have := HSk.out; have := HEk.out
              exact lft_no (by omega)
            have V2 : Hid (lft (nSs ss) left = -1) := lft_no (by have := HS.out; have := HE.out; have := HLE.out; have := HLk.out; omega)
            go_wp2_with fail
            refine (IH.out j k (by have := HL.out; omega) (by have := HL4.out; omega) _ _ _ _ _ _ q5 (by omega) (by omega)).mono ?_
            rw [V.out]
            rintro e w1 ⟨rfl, p1⟩
            go_wp2_with fail
            exact fin_ hQ ⟨ret_i V2.out.symm, (hKw.trans hK2).trans p1⟩
        · have HK : Hid (k = n4) := by show _ = _; omega
          have hz : (nSs (ss.take (j + 1)) : Int) = (nSs (ss.take j) : Int) + 1 + (nBs ((sAt ss j).kids.take k) : Int) := by
            have := HS.out; have := HE.out
            rw [List.take_of_length_le (l := (sAt ss j).kids) (i := k) (by have := HK.out; have := HL4.out; omega)]
            omega
          have HZ := Lib.hid hz
          clear hz
          go_wp2_with fail
          go_roundw
          case rel => exact ⟨j + 1, by omega, by go_num, by rw [HZ.out]; congr 1; omega, by rw [HZ.out]; omega, hK.trans hK2⟩
          case measure => simp [intOf]; omega
    · have HJ : Hid (j = n) := by show _ = _; omega
      go_wp2
      exact fin_ hQ ⟨ret_i (by
        have e := HJ.out
        subst e
        rw [List.take_of_length_le (Nat.le_of_eq HL.out)] at hsz ⊢
        rw [lft_yes (by omega)]), K0.trans hK⟩

theorem specStepsLeft (ss : List StepL) (res : Int) (a : Option Addr) (n c : Nat) (D : Nat → Prop) (left : Int) (w : World) (h : Rd w D (encSteps ss) (.slice a n c)) (h0 : 0 ≤ left) (h1 : left ≤ 1048576) :
    Calls Tryz.prog 128 #[.agg #[.slice a n c, .int .i64 res], .int .i64 left] w fun e w' => e = .returned (.int .i64 (lft (nSs ss) left)) ∧ Keep w w' :=
  specStepsLeft_n _ ss res (Nat.lt_succ_self _) a n c D left w h h0 h1

/-- The number of steps; -1 if there are too many. -/
def stepsL (ss : List StepL) : Int := if nSs ss ≤ 600 then (nSs ss : Int) else -1
theorem stepsL_yes {ss : List StepL} (h : nSs ss ≤ 600) : stepsL ss = (nSs ss : Int) := if_pos h
theorem stepsL_no {ss : List StepL} (h : ¬ nSs ss ≤ 600) : stepsL ss = -1 := if_neg h

theorem specStepsOf0 (ss : List StepL) (res : Int) (a : Option Addr) (n c : Nat) (D : Nat → Prop) (w : World) (h : Rd w D (encSteps ss) (.slice a n c)) :
    Calls Tryz.prog 77 #[.agg #[.slice a n c, .int .i64 res]] w fun e w' => e = .returned (.int .i64 (stepsL ss)) ∧ Keep w w' := by
  refine calls_k fun Q hQ => ?_
  have K0 := Keep.al w (.cells #[.slice a n c, .int .i64 res] 69)
  by_cases hl : nSs ss ≤ 600
  · have V := Lib.hid (stepsL_yes hl)
    have V2 := Lib.hid (lft_yes (s := nSs ss) (left := 600) (by omega))
    have b1 : 0 ≤ 600 - (nSs ss : Int) := by omega
    generalize hm : nSs ss = m at V V2 b1 hl
    have HM := Lib.hid hm
    clear hm
    go_enter Tryz.func77, Tryz.ntmps77
    go_wp2_with fail
    refine (specStepsLeft _ _ _ _ _ _ _ _ (h.k K0) (by omega) (by omega)).mono ?_
    rw [HM.out, V2.out]
    rintro e w1 ⟨rfl, p1⟩
    go_wp2_with fail
    exact fin_ hQ ⟨ret_i (by rw [V.out]; omega), K0.trans p1⟩
  · have V := Lib.hid (stepsL_no hl)
    have V2 := Lib.hid (lft_no (s := nSs ss) (left := 600) (by omega))
    clear hl
    go_enter Tryz.func77, Tryz.ntmps77
    go_wp2_with fail
    refine (specStepsLeft _ _ _ _ _ _ _ _ (h.k K0) (by omega) (by omega)).mono ?_
    rw [V2.out]
    rintro e w1 ⟨rfl, p1⟩
    go_wp2_with fail
    exact fin_ hQ ⟨ret_i V.out.symm, K0.trans p1⟩

set_option maxRecDepth 100000 in
set_option maxHeartbeats 2000000 in
theorem implCountSteps_n (N : Nat) : ∀ (ss : List StepL) (res : Int), nSs ss < N → ∀ (a : Option Addr) (n c p : Nat) (D : Nat → Prop) (m : Int) (w : World), Rd w D (encSteps ss) (.slice a n c) → ¬ D p → w.rowIs p 3 1 (fun _ => .int .i64 m) → 0 ≤ m → m ≤ 600 →
    Calls Tryz.prog 72 #[.agg #[.slice a n c, .int .i64 res], .pointer (some ⟨p, 0, none⟩)] w fun e w' => e = .returned (.bool (decide (m + (nSs ss : Int) ≤ 600))) ∧
      (m + (nSs ss : Int) ≤ 600 → w'.rowIs p 3 1 (fun _ => .int .i64 (m + (nSs ss : Int)))) ∧ Ext (· = p) w w' := by
  induction N with
  | zero => intro ss _ h; omega
  | succ N ihN =>
  intro ss res hN a n c p D m w h hDp hp h0 h1
  refine calls_k fun Q hQ => ?_
  obtain ⟨e1, hnc, hm, hat⟩ := steps_at h
  have HL := Lib.hid e1
  have HA := Lib.hid hat
  have IH := Lib.hid (fun (j k : Nat) (hj : j < ss.length) (hk : k < (sAt ss j).kids.length) => ihN (bAt (sAt ss j).kids k).steps (bAt (sAt ss j).kids k).result (by have := nkid_lt ss hj hk; omega))
  have hbox : ∀ k, D k → k ≠ p := fun k hk e => hDp (e ▸ hk)
  have HB := Lib.hid hbox
  clear e1 hat ihN hN hbox
  have hpl := hp.lt
  have HP := Lib.hid hp
  have Hh := Lib.hid h
  clear hp h
  have X0 : Ext (· = p) w (w.alloc (.cells #[.slice a n c, .int .i64 res] 69)) := Keep.to (Keep.al _ _)
  have HX0 := Lib.hid X0
  clear X0
  have x0 := boxk (Ext.refl (fun _ => False) (w.alloc (.cells #[.slice a n c, .int .i64 res] 69))) 0
  simp at x0
  go_enter Tryz.func72, Tryz.ntmps72
  go_wp2
  go_loopw [12] (fun iv wr => ∃ j : Nat, j ≤ n ∧ iv = .int .i64 j ∧ Hid (wr.rowIs p 3 1 (fun _ => .int .i64 (m + (nSs (ss.take j) : Int)))) ∧ m + (nSs (ss.take j) : Int) ≤ 600 ∧ Ext (· = p) w wr) (fun i _ => n - (intOf i).toNat)
  case atStart => exact ⟨0, Nat.zero_le _, rfl, by show World.rowIs _ _ _ _ _; simpa [nSs] using HP.out.alloc _, by simp only [List.take_zero, nSs]; omega, HX0.out⟩
  case round =>
    obtain ⟨wo, rfl⟩ : ∃ wo : World, wo = wr := ⟨_, rfl⟩
    obtain ⟨j, hj, rfl, hR, hsz, hX⟩ := hrel
    clear x0
    by_cases hlt : j < n
    · have hst := nSs_take ss (j := j) (by have := HL.out; omega)
      have hee := nS_eq (sAt ss j)
      have hle := nSs_take_le ss (j + 1)
      obtain ⟨b, o, rfl, hd, a3, n3, c3, a4, n4, c4, d0, d1, d2, d3, d4, r3, r4⟩ := HA.out j hlt
      have g0 := (hX.cell (World.block_lt_of_cell? w _ d0) (HB.out _ hd)).trans d0
      have g1 := (hX.cell (World.block_lt_of_cell? w _ d1) (HB.out _ hd)).trans d1
      have g2 := (hX.cell (World.block_lt_of_cell? w _ d2) (HB.out _ hd)).trans d2
      have g3 := (hX.cell (World.block_lt_of_cell? w _ d3) (HB.out _ hd)).trans d3
      have g4 := (hX.cell (World.block_lt_of_cell? w _ d4) (HB.out _ hd)).trans d4
      have q4 := r4.ext hX HB.out
      have hRl := hR.out.lt
      have v0 := hR.out.cell (i := 0) (by omega)
      have f0 := hR.out.frozen 0
      have X1 : Ext (· = p) wo ((wo.setCell ⟨p, 0, none⟩ (.int .i64 (m + (nSs (ss.take j) : Int) + 1))).alloc (.cells #[.int .i64 (sAt ss j).op, .int .i64 (sAt ss j).num, .int .i64 (sAt ss j).into, .slice a3 n3 c3, .slice a4 n4 c4] 136)) := ((Ext.refl (· = p) wo).setCell (p := ⟨p, 0, none⟩) (.inr rfl) _).alloc _
      have R1 : ((wo.setCell ⟨p, 0, none⟩ (.int .i64 (m + (nSs (ss.take j) : Int) + 1))).alloc (.cells #[.int .i64 (sAt ss j).op, .int .i64 (sAt ss j).num, .int .i64 (sAt ss j).into, .slice a3 n3 c3, .slice a4 n4 c4] 136)).rowIs p 3 1 (fun _ => .int .i64 (m + (nSs (ss.take j) : Int) + 1)) :=
        ((hR.out.set 0 (.int .i64 (m + (nSs (ss.take j) : Int) + 1))).alloc _).congr (fun i hi => by rw [if_pos (by omega)])
      have HX1 := Lib.hid X1
      have HR1 := Lib.hid R1
      have HS := Lib.hid hst
      have HE := Lib.hid hee
      have HLE := Lib.hid hle
      clear X1 R1 d0 d1 d2 d3 d4 r3 r4 hst hee hle
      by_cases hm6 : 600 < m + (nSs (ss.take j) : Int) + 1
      · have V : ¬ m + (nSs ss : Int) ≤ 600 := by have := HS.out; have := HE.out; have := HLE.out; omega
        have V3 := Lib.hid (decide_eq_false V)
        clear q4
        go_wp2_with fail
        exact fin_ hQ ⟨ret_b V3.out.symm, fun h => by omega, hX.trans HX1.out⟩
      obtain ⟨e4, hnc4, hm4, hat4⟩ := blocks_at (q4.ext HX1.out HB.out)
      have HL4 := Lib.hid e4
      have HA4 := Lib.hid hat4
      clear e4 hat4 q4
      go_wp2_with fail
      go_loopw [28] (fun iv wr => ∃ k : Nat, k ≤ n4 ∧ iv = .int .i64 k ∧ Hid (wr.rowIs p 3 1 (fun _ => .int .i64 (m + (nSs (ss.take j) : Int) + 1 + (nBs ((sAt ss j).kids.take k) : Int)))) ∧ m + (nSs (ss.take j) : Int) + 1 + (nBs ((sAt ss j).kids.take k) : Int) ≤ 600 ∧ Ext (· = p) ((wo.setCell ⟨p, 0, none⟩ (.int .i64 (m + (nSs (ss.take j) : Int) + 1))).alloc (.cells #[.int .i64 (sAt ss j).op, .int .i64 (sAt ss j).num, .int .i64 (sAt ss j).into, .slice a3 n3 c3, .slice a4 n4 c4] 136)) wr) (fun i _ => n4 - (intOf i).toNat)
      case atStart => exact ⟨0, Nat.zero_le _, rfl, by show World.rowIs _ _ _ _ _; simpa [nBs] using HR1.out, by simp only [List.take_zero, nBs]; omega, Ext.refl _ _⟩
      case round =>
        obtain ⟨k, hk, rfl, hR2, hsz2, hX2⟩ := hrel
        clear v0 f0 g0 g1 g2 g3 g4
        by_cases hltk : k < n4
        · have hstk := nBs_take (sAt ss j).kids (j := k) (by have := HL4.out; omega)
          have heek := nB_eq (bAt (sAt ss j).kids k)
          have hlek := nBs_take_le (sAt ss j).kids (k + 1)
          obtain ⟨b4, o4, rfl, hd4, a5, n5, c5, t0, t1, r5⟩ := HA4.out k hltk
          have y0 := (hX2.cell (World.block_lt_of_cell? _ _ t0) (HB.out _ hd4)).trans t0
          have y1 := (hX2.cell (World.block_lt_of_cell? _ _ t1) (HB.out _ hd4)).trans t1
          have q5 := (r5.ext hX2 HB.out).k (Keep.al wr (.cells #[.slice a5 n5 c5, .int .i64 (bAt (sAt ss j).kids k).result] 69))
          have hR3 := Lib.hid (hR2.out.alloc (.cells #[.slice a5 n5 c5, .int .i64 (bAt (sAt ss j).kids k).result] 69))
          have hX3 := Lib.hid (hX2.trans (Keep.to (Keep.al wr (.cells #[.slice a5 n5 c5, .int .i64 (bAt (sAt ss j).kids k).result] 69))))
          have HSk := Lib.hid hstk
          have HEk := Lib.hid heek
          have HLk := Lib.hid hlek
          clear t0 t1 r5 hstk heek hlek hR2 hX2
          by_cases hf : m + (nSs (ss.take j) : Int) + 1 + (nBs ((sAt ss j).kids.take (k + 1)) : Int) ≤ 600
          · have V : Hid (decide (m + (nSs (ss.take j) : Int) + 1 + (nBs ((sAt ss j).kids.take k) : Int) + (nSs (bAt (sAt ss j).kids k).steps : Int) ≤ 600) = true) := by
              have := HSk.out; have := HEk.out
              exact decide_eq_true (by omega)
            go_wp2_with fail
            refine (IH.out j k (by have := HL.out; omega) (by have := HL4.out; omega) _ _ _ p D _ _ q5 hDp hR3.out (by omega) hsz2).mono ?_
            rw [V.out]
            rintro e w1 ⟨rfl, hr1, p1⟩
            have HR4 : Hid (w1.rowIs p 3 1 (fun _ => .int .i64 (m + (nSs (ss.take j) : Int) + 1 + (nBs ((sAt ss j).kids.take (k + 1)) : Int)))) := by
              have := HSk.out; have := HEk.out
              show World.rowIs _ _ _ _ _
              rw [show m + (nSs (ss.take j) : Int) + 1 + (nBs ((sAt ss j).kids.take (k + 1)) : Int) = m + (nSs (ss.take j) : Int) + 1 + (nBs ((sAt ss j).kids.take k) : Int) + (nSs (bAt (sAt ss j).kids k).steps : Int) by omega]
              exact hr1 (by omega)
            clear hr1
            go_wp2_with fail
            go_roundw
            case rel => exact ⟨k + 1, by omega, by go_num, HR4, hf, hX3.out.trans p1⟩
            case measure => simp [intOf]; omega
          · have V : Hid (decide (m + (nSs (ss.take j) : Int) + 1 + (nBs ((sAt ss j).kids.take k) : Int) + (nSs (bAt (sAt ss j).kids k).steps : Int) ≤ 600) = false) := by
              have := HSk.out; have := HEk.out
              exact decide_eq_false (by omega)
            have V2 : ¬ m + (nSs ss : Int) ≤ 600 := by have := HS.out; have := HE.out; have := HLE.out; have := HLk.out; omega
            have V3 := Lib.hid (decide_eq_false V2)
            go_wp2_with fail
            refine (IH.out j k (by have := HL.out; omega) (by have := HL4.out; omega) _ _ _ p D _ _ q5 hDp hR3.out (by omega) hsz2).mono ?_
            rw [V.out]
            rintro e w1 ⟨rfl, _, p1⟩
            go_wp2_with fail
            exact fin_ hQ ⟨ret_b V3.out.symm, fun h => by omega, (hX.trans HX1.out).trans (hX3.out.trans p1)⟩
        · have HK : Hid (k = n4) := by show _ = _; omega
          have hz : (nSs (ss.take (j + 1)) : Int) = (nSs (ss.take j) : Int) + 1 + (nBs ((sAt ss j).kids.take k) : Int) := by
            have := HS.out; have := HE.out
            rw [List.take_of_length_le (l := (sAt ss j).kids) (i := k) (by have := HK.out; have := HL4.out; omega)]
            omega
          have HZ := Lib.hid hz
          clear hz
          go_wp2_with fail
          go_roundw
          case rel => exact ⟨j + 1, by omega, by go_num, by
            show World.rowIs _ _ _ _ _
            rw [show m + (nSs (ss.take (j + 1)) : Int) = m + (nSs (ss.take j) : Int) + 1 + (nBs ((sAt ss j).kids.take k) : Int) by have := HZ.out; omega]
            exact hR2.out, by have := HZ.out; omega, (hX.trans HX1.out).trans hX2⟩
          case measure => simp [intOf]; omega
    · have HJ : Hid (j = n) := by show _ = _; omega
      have hfin : m + (nSs ss : Int) = m + (nSs (ss.take j) : Int) := by
        have e := HJ.out
        subst e
        rw [List.take_of_length_le (Nat.le_of_eq HL.out)]
      have HF := Lib.hid hfin
      clear hfin
      go_wp2
      exact fin_ hQ ⟨ret_b (decide_eq_true (by rw [HF.out]; exact hsz)).symm, fun _ => by rw [HF.out]; exact hR.out, hX⟩

theorem implStepsOf (ss : List StepL) (res : Int) (a : Option Addr) (n c : Nat) (D : Nat → Prop) (w : World) (h : Rd w D (encSteps ss) (.slice a n c)) :
    Calls Tryz.prog 30 #[.agg #[.slice a n c, .int .i64 res]] w fun e w' => e = .returned (.int .i64 (stepsL ss)) ∧ Keep w w' := by
  refine calls_k fun Q hQ => ?_
  have K0 := Keep.al w (.cells #[.slice a n c, .int .i64 res] 69)
  have K1 := Keep.al (w.alloc (.cells #[.slice a n c, .int .i64 res] 69)) (.cells #[.int .i64 0] 3)
  have R := rowOf (w.alloc (.cells #[.slice a n c, .int .i64 res] 69)) #[.int .i64 0] 3
  simp only [World.size_alloc] at R
  replace R := R.congr (g := fun _ => .int .i64 0) (fun i hi => by
    obtain rfl : i = 0 := by simpa using hi
    rfl)
  have h' := ((h.lt.k K0).k K1)
  have HR := Lib.hid R
  clear R
  by_cases hl : nSs ss ≤ 600
  · have V := Lib.hid (stepsL_yes hl)
    have V2 : Hid (decide (0 + (nSs ss : Int) ≤ 600) = true) := decide_eq_true (by omega)
    have hl2 : 0 + (nSs ss : Int) ≤ 600 := by omega
    go_enter Tryz.func30, Tryz.ntmps30
    go_wp2_with fail
    refine (implCountSteps_n _ ss res (Nat.lt_succ_self _) _ _ _ (w.heap.size + 1) _ 0 _ h' (by omega) HR.out (by omega) (by omega)).mono ?_
    rw [V2.out]
    rintro e w1 ⟨rfl, hr, p1⟩
    have v0 := (hr hl2).cell (i := 0) (by omega)
    clear hr
    go_wp2_with fail
    exact fin_ hQ ⟨ret_i (by simp [V.out]), (K0.trans K1).then_ p1 (fun q hq e => by omega)⟩
  · have V := Lib.hid (stepsL_no hl)
    have V2 : Hid (decide (0 + (nSs ss : Int) ≤ 600) = false) := decide_eq_false (by omega)
    clear hl
    go_enter Tryz.func30, Tryz.ntmps30
    go_wp2_with fail
    refine (implCountSteps_n _ ss res (Nat.lt_succ_self _) _ _ _ (w.heap.size + 1) _ 0 _ h' (by omega) HR.out (by omega) (by omega)).mono ?_
    rw [V2.out]
    rintro e w1 ⟨rfl, _, p1⟩
    go_wp2_with fail
    exact fin_ hQ ⟨ret_i V.out.symm, (K0.trans K1).then_ p1 (fun q hq e => by omega)⟩
end Go.Proofs.YtkapldpmjkdmcaaGreat
/- The types of blocks, plain. -/
namespace Go.Proofs.YtkapldpmjkdmcaaGreat
open Go.RowKit

/-- All arguments are variables in scope. -/
def argsIn (sc args : List Int) : Bool := args.all (fun v => decide (0 ≤ v ∧ v < (sc.length : Int)))
/-- The types of arguments. -/
def tysOf (sc args : List Int) : List Int := args.map (fun v => iAt sc v.toNat)
def intoOk (sc : List Int) (op into : Int) : Bool := decide (into = 0 ∨ (op = 6 ∧ 1 ≤ into ∧ into ≤ (sc.length : Int) ∧ 0 < iAt sc (into.toNat - 1)))
def cntL (ds : List DeclL) (op num : Int) (tys : List Int) : Int := if num = 0 ∧ tys.length = 1 ∧ iAt tys 0 ≠ 0 ∧ (op = 14 ∨ op = 15 ∨ isArr ds (iAt tys 0) = false) then 0 else -1
/-- The type of a step without kids, for arguments of some types. -/
def leafL (ds : List DeclL) (sg : List SigL) (op num : Int) (tys : List Int) : Int :=
  if 14 ≤ op ∧ op ≤ 17 then cntL ds op num tys else if op = 10 ∧ 0 < (sgAt sg num.toNat).lent.length then -1 else simpleL ds sg op num tys

mutual
/-- The type of a step; 0 for a counting step; -1 if it is not valid. -/
def stpT (ds : List DeclL) (sg : List SigL) (sc : List Int) : StepL → Int
  | .mk op num into args ks =>
    if argsIn sc args = false ∨ intoOk sc op into = false then -1
    else if op = 7 then (if num = 0 ∧ tysOf sc args = [0] ∧ ks.length = 2 then oneT (armT ds sg sc ks [[], []]) else -1)
    else if op = 8 then (if 0 < (armsL ds num).length ∧ ks.length = (armsL ds num).length ∧ tysOf sc args = [num] then oneT (armT ds sg sc ks (armsL ds num)) else -1)
    else if 0 < ks.length then -1
    else leafL ds sg op num (tysOf sc args)
/-- The type of a block; -1 if it is not valid. -/
def blkT (ds : List DeclL) (sg : List SigL) (sc : List Int) : BlockL → Int
  | .mk ss r => runT ds sg r sc ss
def runT (ds : List DeclL) (sg : List SigL) (r : Int) (sc : List Int) : List StepL → Int
  | [] => if 0 ≤ r ∧ r < (sc.length : Int) then iAt sc r.toNat else -1
  | s :: ss => if stpT ds sg sc s < 0 then -1 else runT ds sg r (if 0 ≤ s.op ∧ s.op ≤ 11 then sc ++ [stpT ds sg sc s] else sc) ss
def armT (ds : List DeclL) (sg : List SigL) (sc : List Int) : List BlockL → List (List Int) → List Int
  | [], _ => []
  | k :: ks, fs => blkT ds sg (sc ++ fs.headD []) k :: armT ds sg sc ks fs.tail
end

/-- The scope behind a step. -/
def nextS (ds : List DeclL) (sg : List SigL) (sc : List Int) (s : StepL) : List Int := if 0 ≤ s.op ∧ s.op ≤ 11 then sc ++ [stpT ds sg sc s] else sc

theorem argsIn_iff {sc args : List Int} : argsIn sc args = true ↔ ∀ i, i < args.length → 0 ≤ iAt args i ∧ iAt args i < (sc.length : Int) := by
  rw [argsIn, List.all_eq_true]
  constructor
  · intro h i hi
    have := h args[i] (List.getElem_mem hi)
    rw [iAt_eq hi]
    exact of_decide_eq_true this
  · intro h x hx
    obtain ⟨i, hi, rfl⟩ := List.getElem_of_mem hx
    have := h i hi
    rw [iAt_eq hi] at this
    exact decide_eq_true this
theorem argsIn_neg {sc args : List Int} {i : Nat} (hi : i < args.length) (h : ¬ (0 ≤ iAt args i ∧ iAt args i < (sc.length : Int))) : argsIn sc args = false := by
  cases e : argsIn sc args
  · rfl
  · exact absurd (argsIn_iff.1 e i hi) h
theorem tysOf_len (sc args : List Int) : (tysOf sc args).length = args.length := by simp [tysOf]
theorem tysOf_at {sc args : List Int} {i : Nat} (h : i < args.length) : iAt (tysOf sc args) i = iAt sc (iAt args i).toNat := by
  rw [iAt_eq (by rw [tysOf_len]; exact h), iAt_eq h]; simp [tysOf]
theorem tysOf_all {n : Nat} {sc args : List Int} (h : allT n sc = true) (ha : argsIn sc args = true) : allT n (tysOf sc args) = true := by
  rw [allT_iff]
  intro i hi
  rw [tysOf_len] at hi
  rw [tysOf_at hi]
  have := argsIn_iff.1 ha i hi
  exact allT_iff.1 h _ (by omega)
theorem runT_nil (ds : List DeclL) (sg : List SigL) (r : Int) (sc : List Int) : runT ds sg r sc [] = if 0 ≤ r ∧ r < (sc.length : Int) then iAt sc r.toNat else -1 := by rw [runT]
theorem runT_cons (ds : List DeclL) (sg : List SigL) (r : Int) (sc : List Int) (s : StepL) (ss : List StepL) : runT ds sg r sc (s :: ss) = if stpT ds sg sc s < 0 then -1 else runT ds sg r (nextS ds sg sc s) ss := by rw [runT]; rfl
theorem sdrop {ss : List StepL} {j : Nat} (h : j < ss.length) : ss.drop j = sAt ss j :: ss.drop (j + 1) := by rw [List.drop_eq_getElem_cons h, sAt_get h]
theorem runT_at (ds : List DeclL) (sg : List SigL) (r : Int) (sc : List Int) {ss : List StepL} {j : Nat} (h : j < ss.length) : runT ds sg r sc (ss.drop j) = if stpT ds sg sc (sAt ss j) < 0 then -1 else runT ds sg r (nextS ds sg sc (sAt ss j)) (ss.drop (j + 1)) := by rw [sdrop h, runT_cons]
theorem nSs_drop (ss : List StepL) {j : Nat} (h : j < ss.length) : nSs (ss.drop j) = nS (sAt ss j) + nSs (ss.drop (j + 1)) := by rw [sdrop h]; rfl
theorem blkT_eq (ds : List DeclL) (sg : List SigL) (sc : List Int) (b : BlockL) : blkT ds sg sc b = runT ds sg b.result sc b.steps := by cases b; rw [blkT]; rfl
theorem armT_len (ds : List DeclL) (sg : List SigL) (sc : List Int) (ks : List BlockL) (fs : List (List Int)) : (armT ds sg sc ks fs).length = ks.length := by
  induction ks generalizing fs with
  | nil => rw [armT]; rfl
  | cons k ks ih => rw [armT]; simp [ih]
theorem armT_at (ds : List DeclL) (sg : List SigL) (sc : List Int) {ks : List BlockL} {fs : List (List Int)} {i : Nat} (h : i < ks.length) : iAt (armT ds sg sc ks fs) i = blkT ds sg (sc ++ cAt fs i) (bAt ks i) := by
  induction ks generalizing fs i with
  | nil => simp at h
  | cons k ks ih =>
    rw [armT]
    cases i with
    | zero => cases fs <;> simp [iAt, cAt, bAt, List.headD]
    | succ i =>
      have := ih (fs := fs.tail) (i := i) (by simpa using h)
      simp only [iAt, List.getD_cons_succ] at this ⊢
      rw [this]
      have e1 : cAt fs.tail i = cAt fs (i + 1) := by cases fs <;> simp [cAt]
      have e2 : bAt (k :: ks) (i + 1) = bAt ks i := by simp [bAt]
      rw [e1, e2]

section
variable (ds : List DeclL) (sg : List SigL) (sc : List Int) (op num into : Int) (args : List Int) (ks : List BlockL)
theorem stp_args (h : argsIn sc args = false) : stpT ds sg sc (.mk op num into args ks) = -1 := by rw [stpT, if_pos (.inl h)]
theorem stp_into (h : intoOk sc op into = false) : stpT ds sg sc (.mk op num into args ks) = -1 := by rw [stpT, if_pos (.inr h)]
theorem stp_go (h1 : argsIn sc args = true) (h2 : intoOk sc op into = true) : stpT ds sg sc (.mk op num into args ks) = if op = 7 then (if num = 0 ∧ tysOf sc args = [0] ∧ ks.length = 2 then oneT (armT ds sg sc ks [[], []]) else -1)
    else if op = 8 then (if 0 < (armsL ds num).length ∧ ks.length = (armsL ds num).length ∧ tysOf sc args = [num] then oneT (armT ds sg sc ks (armsL ds num)) else -1)
    else if 0 < ks.length then -1
    else leafL ds sg op num (tysOf sc args) := by rw [stpT, if_neg (by rw [h1, h2]; simp)]
theorem stp_if (h1 : argsIn sc args = true) (h2 : intoOk sc 7 into = true) : stpT ds sg sc (.mk 7 num into args ks) = if num = 0 ∧ tysOf sc args = [0] ∧ ks.length = 2 then oneT (armT ds sg sc ks [[], []]) else -1 := by rw [stp_go _ _ _ _ _ _ _ _ h1 h2, if_pos rfl]
theorem stp_match (h1 : argsIn sc args = true) (h2 : intoOk sc 8 into = true) : stpT ds sg sc (.mk 8 num into args ks) = if 0 < (armsL ds num).length ∧ ks.length = (armsL ds num).length ∧ tysOf sc args = [num] then oneT (armT ds sg sc ks (armsL ds num)) else -1 := by rw [stp_go _ _ _ _ _ _ _ _ h1 h2, if_neg (by omega), if_pos rfl]
theorem stp_kids (h7 : op ≠ 7) (h8 : op ≠ 8) (h : 0 < ks.length) : stpT ds sg sc (.mk op num into args ks) = -1 := by
  rw [stpT]
  split
  · rfl
  · first | rfl | rw [if_neg h7, if_neg h8, if_pos h]
theorem stp_leaf (h1 : argsIn sc args = true) (h2 : intoOk sc op into = true) (h7 : op ≠ 7) (h8 : op ≠ 8) (h : ks.length = 0) : stpT ds sg sc (.mk op num into args ks) = leafL ds sg op num (tysOf sc args) := by
  rw [stp_go _ _ _ _ _ _ _ _ h1 h2, if_neg h7, if_neg h8, if_neg (by omega)]
end

section
variable {ds : List DeclL} {sg : List SigL} (hok : sigsOk ds sg = true)
include hok
theorem leaf_range (op num : Int) (tys : List Int) : leafL ds sg op num tys = -1 ∨ isT ds.length (leafL ds sg op num tys) = true := by
  unfold leafL
  split
  · unfold cntL
    split
    · exact .inr (isT_iff.2 ⟨by omega, by omega⟩)
    · exact .inl rfl
  split
  · exact .inl rfl
  · exact simple_range hok _ _ _
theorem blk_range_n (N : Nat) : ∀ (r : Int) (ss : List StepL), nSs ss < N → ∀ sc, allT ds.length sc = true → (runT ds sg r sc ss = -1 ∨ isT ds.length (runT ds sg r sc ss) = true) ∧ ∀ j, j < ss.length → stpT ds sg sc (sAt ss j) = -1 ∨ isT ds.length (stpT ds sg sc (sAt ss j)) = true := by
  induction N with
  | zero => intro r ss h; omega
  | succ N ih =>
  have ht := (sigsOk_parts hok).1
  have arms : ∀ num i, i < (armsL ds num).length → (cAt (armsL ds num) i).length ≤ 3 ∧ allT ds.length (cAt (armsL ds num) i) = true := fun num i hi => by
    have hi' : i < (consL ds num).length := by simpa [armsL] using hi
    rw [cAt_get hi]
    simp only [armsL, List.getElem_map]
    exact conFieldsL_ok ht _
  have step : ∀ s : StepL, nS s ≤ N → ∀ sc, allT ds.length sc = true → stpT ds sg sc s = -1 ∨ isT ds.length (stpT ds sg sc s) = true := fun s hs sc hv => by
    obtain ⟨op, num, into, args, ks⟩ := s
    have hk : ∀ j, j < ks.length → nSs (bAt ks j).steps < N := fun j hj => by have := nB_le ks hj; rw [nS] at hs; have := nB_eq (bAt ks j); omega
    have bl : ∀ j, j < ks.length → ∀ sc, allT ds.length sc = true → blkT ds sg sc (bAt ks j) = -1 ∨ isT ds.length (blkT ds sg sc (bAt ks j)) = true := fun j hj sc hv => by rw [blkT_eq]; exact (ih _ _ (hk j hj) sc hv).1
    rw [stpT]
    split
    · exact .inl rfl
    split
    · split
      · next h =>
        refine oneT_range (fun i hi => ?_)
        rw [armT_len] at hi
        rw [armT_at ds sg sc hi]
        refine bl i hi _ (allT_append hv ?_)
        rcases (show i = 0 ∨ i = 1 by omega) with rfl | rfl <;> rfl
      · exact .inl rfl
    split
    · split
      · next h =>
        refine oneT_range (fun i hi => ?_)
        rw [armT_len] at hi
        rw [armT_at ds sg sc hi]
        exact bl i hi _ (allT_append hv (arms num i (by omega)).2)
      · exact .inl rfl
    split
    · exact .inl rfl
    · exact leaf_range hok _ _ _
  intro r ss hN sc hv
  have hs : ∀ j, j < ss.length → nS (sAt ss j) ≤ N := fun j hj => by have := nS_le ss hj; omega
  refine ⟨?_, fun j hj => step _ (hs j hj) sc hv⟩
  cases ss with
  | nil =>
    rw [runT_nil]
    split
    · next h => exact .inr (allT_iff.1 hv _ (by omega))
    · exact .inl rfl
  | cons s ss =>
    have h0 : nS s ≤ N := by have := hs 0 (by simp); simpa [sAt] using this
    have h1 := step s h0 sc hv
    rw [runT_cons]
    split
    · exact .inl rfl
    · next hn =>
      have h2 : isT ds.length (stpT ds sg sc s) = true := by
        rcases h1 with h1 | h1
        · omega
        · exact h1
      refine (ih r ss (by rw [nSs] at hN; have := nS_eq s; omega) _ ?_).1
      unfold nextS
      split
      · exact allT_append hv (allT_one h2)
      · exact hv
theorem stp_range (s : StepL) {sc : List Int} (hv : allT ds.length sc = true) : stpT ds sg sc s = -1 ∨ isT ds.length (stpT ds sg sc s) = true := by
  have := (blk_range_n hok _ 0 [s] (Nat.lt_succ_self _) sc hv).2 0 (by simp)
  simpa [sAt] using this
end
end Go.Proofs.YtkapldpmjkdmcaaGreat
/- conCount, firstCon, conType, conAt and arrowOf of the program and of the reference. -/
namespace Go.Proofs.YtkapldpmjkdmcaaGreat
open Go.RowKit

theorem box_at {w w2 : World} {cs : Array Value} {T : TypeId} (h : Keep (w.alloc (.cells cs T)) w2) (i : Nat) : w2.cell? ⟨w.heap.size, i, none⟩ = cs[i]? := by
  rw [h.cell (p := ⟨w.heap.size, i, none⟩) (by simp) (fun h => h), cell_of_row _ w.heap.size i cs T (0, 0) (heap_alloc_new w _)]

theorem implConCount0 (a : Option Addr) (n c : Nat) (ds : List DeclL) (D : Nat → Prop) (w : World) (h : DeclsR w D a n ds) (hf : Few ds) :
    Calls Tryz.prog 155 #[.slice a n c] w fun e w' => e = .returned (.int .i64 (conN ds)) ∧ Keep w w' := by
  refine calls_k fun Q hQ => ?_
  have hlen := h.1
  have HL := Lib.hid hlen
  have hn4 : n ≤ 4 := by have := hf.1; omega
  clear hlen
  go_enter Tryz.func155, Tryz.ntmps155
  go_wp2
  go_loopw [3, 8] (fun t i wr => ∃ k : Nat, k ≤ n ∧ i = .int .i64 k ∧ t = .int .i64 (firstN ds k) ∧ Keep w wr) (fun _ i _ => n - (intOf i).toNat)
  case atStart => exact ⟨0, Nat.zero_le _, rfl, rfl, Ext.refl _ _⟩
  case round =>
    obtain ⟨k, hk, rfl, rfl, hK⟩ := hrel
    by_cases hlt : k < n
    · have h1 := h.ext hK (fun _ _ h => h)
      obtain ⟨b, o, rfl, hd, hc⟩ := h1.2 (by omega)
      obtain ⟨c0, c1, a', m, c', c2, hmc, hcons⟩ := hc k hlt
      have HM := Lib.hid hcons.1
      have b1 := firstN_le hf (k := k) (by have := HL.out; omega)
      have b2 : m ≤ 3 := by have := hf.2 k (by have := HL.out; omega); have := HM.out; omega
      clear hc hcons h1 h
      go_wp2
      go_roundw
      case rel => exact ⟨k + 1, by omega, by go_num, by simp only [firstN, HM.out]; go_num, hK.trans ((Ext.refl _ _).alloc _)⟩
      case measure => simp [intOf]; omega
    · go_wp2
      exact fin_ hQ ⟨ret_i (by rw [conN, HL.out, show k = n by omega]), hK⟩


theorem specFirstCon (a : Option Addr) (n c : Nat) (ds : List DeclL) (D : Nat → Prop) (at_ : Nat) (w : World) (h : DeclsR w D a n ds) (hf : Few ds) (hat : at_ ≤ n) :
    Calls Tryz.prog 196 #[.slice a n c, .int .i64 at_] w fun e w' => e = .returned (.int .i64 (firstN ds at_)) ∧ w = w' := by
  refine calls_k fun Q hQ => ?_
  have hlen := h.1
  have HL := Lib.hid hlen
  have hn4 : n ≤ 4 := by have := hf.1; omega
  clear hlen
  go_enter Tryz.func196, Tryz.ntmps196
  go_wp2
  go_loop [5, 6] (fun t i => ∃ k : Nat, k ≤ at_ ∧ i = .int .i64 k ∧ t = .int .i64 (firstN ds k)) (fun _ i => at_ - (intOf i).toNat)
  case atStart => exact ⟨0, Nat.zero_le _, rfl, rfl⟩
  case round =>
    obtain ⟨k, hk, rfl, rfl⟩ := hrel
    by_cases hlt : k < at_
    · obtain ⟨b, o, rfl, hd, hc⟩ := h.2 (by omega)
      obtain ⟨c0, c1, a', m, c', c2, hmc, hcons⟩ := hc k (by omega)
      have HM := Lib.hid hcons.1
      have b1 := firstN_le hf (k := k) (by have := HL.out; omega)
      have b2 : m ≤ 3 := by have := hf.2 k (by have := HL.out; omega); have := HM.out; omega
      clear hc hcons h
      go_wp2
      go_round
      case rel => exact ⟨k + 1, by omega, by go_num, by simp only [firstN, HM.out]; go_num⟩
      case measure => simp [intOf]; omega
    · go_wp2
      exact fin_ hQ ⟨ret_i (by rw [show k = at_ by omega]), rfl⟩

set_option maxHeartbeats 1000000 in
theorem specConType0 (a : Option Addr) (n c : Nat) (ds : List DeclL) (D : Nat → Prop) (x : Int) (w : World) (h : DeclsR w D a n ds) (hf : Few ds) :
    Calls Tryz.prog 146 #[.slice a n c, .int .i64 x] w fun e w' => e = .returned (.int .i64 (conTypeL ds x)) ∧ w = w' := by
  refine calls_k fun Q hQ => ?_
  have hlen := h.1
  have HL := Lib.hid hlen
  have hn4 : n ≤ 4 := by have := hf.1; omega
  clear hlen
  go_enter Tryz.func146, Tryz.ntmps146
  go_wp2
  go_loop [5] (fun i => ∃ k : Nat, k ≤ n ∧ i = .int .i64 k ∧ Hid (∀ j, j < k → inDecl ds x j = false)) (fun i => n - (intOf i).toNat)
  case atStart => exact ⟨0, Nat.zero_le _, rfl, fun j hj => absurd hj (by omega)⟩
  case round =>
    obtain ⟨k, hk, rfl, H⟩ := hrel
    by_cases hlt : k < n
    · obtain ⟨b, o, rfl, hd, hc⟩ := h.2 (by omega)
      obtain ⟨c0, c1, a', m, c', c2, hmc, hcons⟩ := hc k (by omega)
      have HM := Lib.hid hcons.1
      have b1 := firstN_le hf (k := k) (by have := HL.out; omega)
      have b2 : m ≤ 3 := by have := hf.2 k (by have := HL.out; omega); have := HM.out; omega
      have HI : Hid (inDecl ds x k = decide ((firstN ds k : Int) ≤ x ∧ x ≤ (firstN ds k : Int) + (m : Int) - 1)) := by
        show _ = _
        simp only [inDecl, firstN, HM.out]
        congr 1
        simp only [eq_iff_iff]
        omega
      clear hc hcons
      cases hv : decide ((firstN ds k : Int) ≤ x ∧ x ≤ (firstN ds k : Int) + (m : Int) - 1)
      · go_wp2_with fail
        refine (specFirstCon _ _ _ _ _ _ _ h hf (by omega)).mono ?_
        rintro e w1 ⟨rfl, rfl⟩
        go_wp2_with (go_at_call 60; refine (specInRange _ _ _ _).mono ?_; rintro e w1 ⟨rfl, rfl⟩)
        go_round
        case rel => exact ⟨k + 1, by omega, by go_num, fun j hj => by
          rcases Nat.lt_succ_iff_lt_or_eq.1 hj with h | rfl
          · exact H.out j h
          · rw [HI.out]; exact hv⟩
        case measure => simp [intOf]; omega
      · go_wp2_with fail
        refine (specFirstCon _ _ _ _ _ _ _ h hf (by omega)).mono ?_
        rintro e w1 ⟨rfl, rfl⟩
        go_wp2_with (go_at_call 60; refine (specInRange _ _ _ _).mono ?_; rintro e w1 ⟨rfl, rfl⟩)
        exact fin_ hQ ⟨ret_i (by rw [conTypeL, conIx, firstIx_some (by have := HL.out; omega) (by rw [HI.out]; exact hv) H.out]; rfl), rfl⟩
    · go_wp2
      exact fin_ hQ ⟨ret_i (by rw [conTypeL, conIx, firstIx_none (fun j hj => H.out j (by have := HL.out; omega))]; rfl), rfl⟩
end Go.Proofs.YtkapldpmjkdmcaaGreat
/- conAt of the program: a constructor and its type. -/
namespace Go.Proofs.YtkapldpmjkdmcaaGreat
open Go.RowKit

theorem inDecl_iff {ds : List DeclL} {x : Int} {k : Nat} : inDecl ds x k = true ↔ 0 ≤ x - (firstN ds k : Int) ∧ x - (firstN ds k : Int) < ((dAt ds k).cons.length : Int) := by
  constructor
  · intro h
    have := of_decide_eq_true h
    simp only [firstN] at this
    omega
  · intro h
    refine decide_eq_true ?_
    simp only [firstN]
    omega

set_option maxHeartbeats 1000000 in
theorem implConAt_mid (a : Option Addr) (n c : Nat) (ds : List DeclL) (D : Nat → Prop) (x : Int) (w : World) (h : DeclsR w D a n ds) (hf : Few ds) (hx1 : -9223372036854775000 ≤ x) (hx2 : x ≤ 9223372036854775807) :
    Calls Tryz.prog 156 #[.slice a n c, .int .i64 x] w fun e w' => ∃ a' m c', e = .returned (.tuple #[.int .i64 (conTypeL ds x), .agg #[.slice a' m c']]) ∧ m ≤ c' ∧
      IntsL w D a' m (conFieldsL ds x) ∧ Keep w w' := by
  refine calls_k fun Q hQ => ?_
  have hlen := h.1
  have HL := Lib.hid hlen
  have hn4 : n ≤ 4 := by have := hf.1; omega
  clear hlen
  go_enter Tryz.func156, Tryz.ntmps156
  go_wp2
  go_loopw [1, 10] (fun cv i wr => ∃ k : Nat, k ≤ n ∧ i = .int .i64 k ∧ cv = .int .i64 (x - (firstN ds k : Int)) ∧ Keep (w.alloc (.cells #[.slice none 0 0] 155)) wr ∧ Hid (∀ j, j < k → inDecl ds x j = false)) (fun _ i _ => n - (intOf i).toNat)
  case atStart => exact ⟨0, Nat.zero_le _, rfl, by simp [firstN], Ext.refl _ _, fun j hj => absurd hj (by omega)⟩
  case round =>
    obtain ⟨k, hk, rfl, rfl, hK, H⟩ := hrel
    have hK0 : Keep w wr := ((Ext.refl _ w).alloc _).trans hK
    have hr0 : wr.cell? ⟨w.heap.size, 0, none⟩ = some (.slice none 0 0) := box_at hK 0
    have hr1 : wr.frozen? ⟨w.heap.size, 0, none⟩ = false := by rw [hK.frozen (p := ⟨w.heap.size, 0, none⟩) (by simp) (fun h => h)]; simp
    have hsz : w.heap.size < wr.heap.size := by have := hK.size; simp at this; omega
    have b1 := firstN_le hf (k := k) (by have := HL.out; omega)
    by_cases hlt : k < n
    · have h1 := h.ext hK0 (fun _ _ h => h)
      obtain ⟨b, o, rfl, hd, hc0⟩ := h.2 (by omega)
      obtain ⟨_, _, a', m, c', c2, hmc, hcons⟩ := hc0 k hlt
      obtain ⟨d0, d1, _, _, _, d2, _, _⟩ := hc0 k hlt
      have c0 := (hK0.cell (World.block_lt_of_cell? _ _ d0) (fun h => h)).trans d0
      have c1 := (hK0.cell (World.block_lt_of_cell? _ _ d1) (fun h => h)).trans d1
      have c3 := (hK0.cell (World.block_lt_of_cell? _ _ c2) (fun h => h)).trans c2
      have HM := Lib.hid hcons.1
      have HC := Lib.hid hcons
      have b2 : m ≤ 3 := by have := hf.2 k (by have := HL.out; omega); have := HM.out; omega
      clear hc0 h1 h d0 d1 d2 c2 hcons
      cases hv : inDecl ds x k
      · have V := Lib.hid hv
        clear hv
        by_cases g : 0 ≤ x - (firstN ds k : Int)
        · have g2 : ¬ x - (firstN ds k : Int) < (m : Int) := by
            intro g2
            have := V.out
            rw [inDecl_iff.2 ⟨g, by rw [HM.out]; exact g2⟩] at this
            cases this
          go_wp2
          go_roundw
          case rel => exact ⟨k + 1, by omega, by go_num, by simp only [firstN, HM.out]; congr 1; omega, hK.trans ((Ext.refl _ _).alloc _), fun j hj => by
            rcases Nat.lt_succ_iff_lt_or_eq.1 hj with h | rfl
            · exact H.out j h
            · exact V.out⟩
          case measure => simp [intOf]; omega
        · go_wp2
          go_roundw
          case rel => exact ⟨k + 1, by omega, by go_num, by simp only [firstN, HM.out]; congr 1; omega, hK.trans ((Ext.refl _ _).alloc _), fun j hj => by
            rcases Nat.lt_succ_iff_lt_or_eq.1 hj with h | rfl
            · exact H.out j h
            · exact V.out⟩
          case measure => simp [intOf]; omega
      · have V := Lib.hid hv
        clear hv
        have g := inDecl_iff.1 V.out
        rw [HM.out] at g
        obtain ⟨g1, g2⟩ := g
        obtain ⟨j, hj⟩ := Int.eq_ofNat_of_zero_le g1
        have hjm : j < m := by omega
        obtain ⟨b1', o1, rfl, hd1, hc1⟩ := HC.out.2 (by omega)
        obtain ⟨a2, m2, c2', x0, hmc2, hints⟩ := hc1 j hjm
        have x1 := (hK0.cell (World.block_lt_of_cell? _ _ x0) (fun h => h)).trans x0
        have HJ := Lib.hid hj
        rw [hj] at g1 g2 ⊢
        have hKa : Keep wr (wr.alloc (.cells #[.int .i64 (dAt ds k).from_, .int .i64 (dAt ds k).to_, .slice (some ⟨b1', o1, none⟩) m c'] 125)) := (Ext.refl _ _).alloc _
        have xa := (hKa.cell (World.block_lt_of_cell? _ _ x1) (fun h => h)).trans x1
        have ra := (hKa.cell (World.block_lt_of_cell? _ _ hr0) (fun h => h)).trans hr0
        have rb := (hKa.frozen (p := ⟨w.heap.size, 0, none⟩) hsz (fun h => h)).trans hr1
        clear hj hc1 x0 hKa
        go_wp2
        go_region
        all_goals go_wp2
        refine bodyPost_ret (v := .tuple #[.int .i64 ((k : Int) + 1), .agg #[.slice a2 m2 c2']]) (by simp [results, Tryz.results156, go_sem, hr0, hsz]) rfl (fin_ hQ ⟨a2, m2, c2', ?_, hmc2, ?_, ?_⟩)
        · rw [conTypeL, conIx, firstIx_some (by have := HL.out; omega) V.out H.out]; rfl
        · rw [conFieldsL, conIx, firstIx_some (by have := HL.out; omega) V.out H.out]
          show IntsL w D a2 m2 (cAt (dAt ds k).cons (x.toNat - firstN ds k))
          rw [show x.toNat - firstN ds k = j by have := HJ.out; omega]
          exact hints
        · exact ((hK0.setCell (p := ⟨w.heap.size, 0, none⟩) (.inl (Nat.le_refl _)) _).alloc _).drew
    · go_wp2
      refine bodyPost_ret (v := .tuple #[.int .i64 (-1), .agg #[.slice none 0 0]]) (by simp [results, Tryz.results156, go_sem, hr0]) rfl (fin_ hQ ⟨none, 0, 0, ?_, Nat.le_refl _, ?_, ?_⟩)
      · rw [conTypeL, conIx, firstIx_none (fun j hj => H.out j (by have := HL.out; omega))]; rfl
      · rw [conFieldsL, conIx, firstIx_none (fun j hj => H.out j (by have := HL.out; omega))]; exact ⟨rfl, fun h => absurd h (by omega)⟩
      · exact hK0.setCell (p := ⟨w.heap.size, 0, none⟩) (.inl (Nat.le_refl _)) _

theorem wrap_low {v : Int} {m k : Nat} (h1 : v < 0 ∨ 1000 - 3 * (k : Int) ≤ v) (h2 : -9223372036854775808 ≤ v) (h3 : v ≤ 9223372036854775807) (hm : m ≤ 3) (hk : k ≤ 4) :
    (wrap64 (v - (m : Int)) < 0 ∨ 1000 - 3 * ((k + 1 : Nat) : Int) ≤ wrap64 (v - (m : Int))) ∧ -9223372036854775808 ≤ wrap64 (v - (m : Int)) ∧ wrap64 (v - (m : Int)) ≤ 9223372036854775807 := by
  unfold wrap64
  omega

set_option maxHeartbeats 1000000 in
theorem implConAt_low (a : Option Addr) (n c : Nat) (ds : List DeclL) (D : Nat → Prop) (x : Int) (w : World) (h : DeclsR w D a n ds) (hf : Few ds) (hx1 : -9223372036854775808 ≤ x) (hx2 : x < -9223372036854775000) :
    Calls Tryz.prog 156 #[.slice a n c, .int .i64 x] w fun e w' => ∃ a' m c', e = .returned (.tuple #[.int .i64 (conTypeL ds x), .agg #[.slice a' m c']]) ∧ m ≤ c' ∧
      IntsL w D a' m (conFieldsL ds x) ∧ Keep w w' := by
  refine calls_k fun Q hQ => ?_
  have hlen := h.1
  have HL := Lib.hid hlen
  have hn4 : n ≤ 4 := by have := hf.1; omega
  have HX : Hid (conIx ds x = none) := firstIx_none (fun j _ => by
    cases hv : inDecl ds x j
    · rfl
    · have := inDecl_iff.1 hv; omega)
  clear hlen
  go_enter Tryz.func156, Tryz.ntmps156
  go_wp2
  go_loopw [1, 10] (fun cv i wr => ∃ (k : Nat) (v : Int), k ≤ n ∧ i = .int .i64 k ∧ cv = .int .i64 v ∧ (v < 0 ∨ 1000 - 3 * (k : Int) ≤ v) ∧ -9223372036854775808 ≤ v ∧ v ≤ 9223372036854775807 ∧ Keep (w.alloc (.cells #[.slice none 0 0] 155)) wr) (fun _ i _ => n - (intOf i).toNat)
  case atStart => exact ⟨0, x, Nat.zero_le _, rfl, rfl, by omega, by omega, by omega, Ext.refl _ _⟩
  case round =>
    obtain ⟨k, v, hk, rfl, rfl, q1, q2, q3, hK⟩ := hrel
    have hK0 : Keep w wr := ((Ext.refl _ w).alloc _).trans hK
    have hr0 : wr.cell? ⟨w.heap.size, 0, none⟩ = some (.slice none 0 0) := box_at hK 0
    have hr1 : wr.frozen? ⟨w.heap.size, 0, none⟩ = false := by rw [hK.frozen (p := ⟨w.heap.size, 0, none⟩) (by simp) (fun h => h)]; simp
    have hsz : w.heap.size < wr.heap.size := by have := hK.size; simp at this; omega
    by_cases hlt : k < n
    · obtain ⟨b, o, rfl, hd, hc0⟩ := h.2 (by omega)
      obtain ⟨d0, d1, a', m, c', d2, hmc, hcons⟩ := hc0 k hlt
      have c0 := (hK0.cell (World.block_lt_of_cell? _ _ d0) (fun h => h)).trans d0
      have c1 := (hK0.cell (World.block_lt_of_cell? _ _ d1) (fun h => h)).trans d1
      have c3 := (hK0.cell (World.block_lt_of_cell? _ _ d2) (fun h => h)).trans d2
      have HM := Lib.hid hcons.1
      have b2 : m ≤ 3 := by have := hf.2 k (by have := HL.out; omega); have := HM.out; omega
      have W1 := Lib.hid (wrap_low q1 q2 q3 b2 (by omega))
      clear hc0 h d0 d1 d2 hcons
      by_cases g : 0 ≤ v
      · have g2 : ¬ v < (m : Int) := by omega
        clear q1
        go_wp2
        go_roundw
        case rel => exact ⟨k + 1, _, by omega, by go_num, rfl, by first | exact W1.out.1 | (rw [← IntWalk.wrap64_in (v - (m : Int)) ⟨by omega, by omega⟩]; exact W1.out.1), by first | exact W1.out.2.1 | omega, by first | exact W1.out.2.2 | omega, hK.trans ((Ext.refl _ _).alloc _)⟩
        case measure => simp [intOf]; omega
      · clear q1
        go_wp2
        go_roundw
        case rel => exact ⟨k + 1, _, by omega, by go_num, rfl, W1.out.1, W1.out.2.1, W1.out.2.2, hK.trans ((Ext.refl _ _).alloc _)⟩
        case measure => simp [intOf]; omega
    · go_wp2
      refine bodyPost_ret (v := .tuple #[.int .i64 (-1), .agg #[.slice none 0 0]]) (by simp [results, Tryz.results156, go_sem, hr0]) rfl (fin_ hQ ⟨none, 0, 0, ?_, Nat.le_refl _, ?_, ?_⟩)
      · rw [conTypeL, HX.out]; rfl
      · rw [conFieldsL, HX.out]; exact ⟨rfl, fun h => absurd h (by omega)⟩
      · exact hK0.setCell (p := ⟨w.heap.size, 0, none⟩) (.inl (Nat.le_refl _)) _

theorem implConAt (a : Option Addr) (n c : Nat) (ds : List DeclL) (D : Nat → Prop) (x : Int) (w : World) (h : DeclsR w D a n ds) (hf : Few ds) (hx1 : -9223372036854775808 ≤ x) (hx2 : x ≤ 9223372036854775807) :
    Calls Tryz.prog 156 #[.slice a n c, .int .i64 x] w fun e w' => ∃ a' m c', e = .returned (.tuple #[.int .i64 (conTypeL ds x), .agg #[.slice a' m c']]) ∧ m ≤ c' ∧
      IntsL w D a' m (conFieldsL ds x) ∧ Keep w w' := by
  by_cases g : -9223372036854775000 ≤ x
  · exact implConAt_mid a n c ds D x w h hf g hx2
  · exact implConAt_low a n c ds D x w h hf hx1 (by omega)
end Go.Proofs.YtkapldpmjkdmcaaGreat
/- arrowOf of the program and of the reference; ConCount, ConType and ArrowOf of both. -/
namespace Go.Proofs.YtkapldpmjkdmcaaGreat
open Go.RowKit

theorem isArrow_off {ds : List DeclL} {f t : Int} {k : Nat} (h : (dAt ds k).cons.length ≠ 0 ∨ ((dAt ds k).from_ == f) = false ∨ ((dAt ds k).to_ == t) = false) : isArrow ds f t k = false := by
  unfold isArrow
  rcases h with h | h | h <;> simp_all
theorem isArrow_on {ds : List DeclL} {f t : Int} {k : Nat} (h : (dAt ds k).cons.length = 0) (h1 : ((dAt ds k).from_ == f) = true) (h2 : ((dAt ds k).to_ == t) = true) : isArrow ds f t k = true := by
  unfold isArrow
  simp_all

set_option maxHeartbeats 1000000 in
theorem implArrowOf0 (a : Option Addr) (n c : Nat) (ds : List DeclL) (D : Nat → Prop) (f t : Int) (w : World) (h : DeclsR w D a n ds) (hn4 : n ≤ 1048576) :
    Calls Tryz.prog 204 #[.slice a n c, .int .i64 f, .int .i64 t] w fun e w' => e = .returned (.int .i64 (arrowL ds f t)) ∧ Keep w w' := by
  refine calls_k fun Q hQ => ?_
  have hlen := h.1
  have HL := Lib.hid hlen
  clear hlen
  go_enter Tryz.func204, Tryz.ntmps204
  go_wp2
  go_loopw [11] (fun i wr => ∃ k : Nat, k ≤ n ∧ i = .int .i64 k ∧ Keep w wr ∧ Hid (∀ j, j < k → isArrow ds f t j = false)) (fun i _ => n - (intOf i).toNat)
  case atStart => exact ⟨0, Nat.zero_le _, rfl, Ext.refl _ _, fun j hj => absurd hj (by omega)⟩
  case round =>
    obtain ⟨k, hk, rfl, hK, H⟩ := hrel
    by_cases hlt : k < n
    · have h1 := h.ext hK (fun _ _ h => h)
      obtain ⟨b, o, rfl, hd, hc⟩ := h1.2 (by omega)
      obtain ⟨c0, c1, a', m, c', c2, hmc, hcons⟩ := hc k (by omega)
      have HM := Lib.hid hcons.1
      clear hc hcons h1 h
      by_cases g0 : m = 0
      · subst g0
        cases g1 : ((dAt ds k).from_ == f)
        · have V := Lib.hid (isArrow_off (ds := ds) (f := f) (t := t) (k := k) (.inr (.inl g1)))
          go_wp2
          go_roundw
          case rel => exact ⟨k + 1, by omega, by go_num, hK.trans ((Ext.refl _ _).alloc _), fun j hj => by
            rcases Nat.lt_succ_iff_lt_or_eq.1 hj with h | rfl
            · exact H.out j h
            · exact V.out⟩
          case measure => simp [intOf]; omega
        · cases g2 : ((dAt ds k).to_ == t)
          · have V := Lib.hid (isArrow_off (ds := ds) (f := f) (t := t) (k := k) (.inr (.inr g2)))
            go_wp2
            go_roundw
            case rel => exact ⟨k + 1, by omega, by go_num, hK.trans ((Ext.refl _ _).alloc _), fun j hj => by
              rcases Nat.lt_succ_iff_lt_or_eq.1 hj with h | rfl
              · exact H.out j h
              · exact V.out⟩
            case measure => simp [intOf]; omega
          · have V := Lib.hid (isArrow_on HM.out g1 g2)
            go_wp2
            exact fin_ hQ ⟨ret_i (by rw [arrowL, firstIx_some (by have := HL.out; omega) V.out H.out]; rfl), hK.trans ((Ext.refl _ _).alloc _)⟩
      · have g0' : ((m : Int) == 0) = false := by simp; omega
        have V := Lib.hid (isArrow_off (ds := ds) (f := f) (t := t) (k := k) (.inl (by rw [HM.out]; exact g0)))
        go_wp2
        go_roundw
        case rel => exact ⟨k + 1, by omega, by go_num, hK.trans ((Ext.refl _ _).alloc _), fun j hj => by
          rcases Nat.lt_succ_iff_lt_or_eq.1 hj with h | rfl
          · exact H.out j h
          · exact V.out⟩
        case measure => simp [intOf]; omega
    · go_wp2
      exact fin_ hQ ⟨ret_i (by rw [arrowL, firstIx_none (fun j hj => H.out j (by have := HL.out; omega))]; rfl), hK⟩

set_option maxHeartbeats 1000000 in
theorem specArrowOf0 (a : Option Addr) (n c : Nat) (ds : List DeclL) (D : Nat → Prop) (f t : Int) (w : World) (h : DeclsR w D a n ds) (hn4 : n ≤ 1048576) :
    Calls Tryz.prog 198 #[.slice a n c, .int .i64 f, .int .i64 t] w fun e w' => e = .returned (.int .i64 (arrowL ds f t)) ∧ w = w' := by
  refine calls_k fun Q hQ => ?_
  have hlen := h.1
  have HL := Lib.hid hlen
  clear hlen
  go_enter Tryz.func198, Tryz.ntmps198
  go_wp2
  go_loop [7] (fun i => ∃ k : Nat, k ≤ n ∧ i = .int .i64 k ∧ Hid (∀ j, j < k → isArrow ds f t j = false)) (fun i => n - (intOf i).toNat)
  case atStart => exact ⟨0, Nat.zero_le _, rfl, fun j hj => absurd hj (by omega)⟩
  case round =>
    obtain ⟨k, hk, rfl, H⟩ := hrel
    by_cases hlt : k < n
    · obtain ⟨b, o, rfl, hd, hc⟩ := h.2 (by omega)
      obtain ⟨c0, c1, a', m, c', c2, hmc, hcons⟩ := hc k (by omega)
      have HM := Lib.hid hcons.1
      clear hc hcons h
      by_cases g0 : m = 0
      · subst g0
        cases g1 : ((dAt ds k).from_ == f)
        · have V := Lib.hid (isArrow_off (ds := ds) (f := f) (t := t) (k := k) (.inr (.inl g1)))
          go_wp2
          go_round
          case rel => exact ⟨k + 1, by omega, by go_num, fun j hj => by
            rcases Nat.lt_succ_iff_lt_or_eq.1 hj with h | rfl
            · exact H.out j h
            · exact V.out⟩
          case measure => simp [intOf]; omega
        · cases g2 : ((dAt ds k).to_ == t)
          · have V := Lib.hid (isArrow_off (ds := ds) (f := f) (t := t) (k := k) (.inr (.inr g2)))
            go_wp2
            go_round
            case rel => exact ⟨k + 1, by omega, by go_num, fun j hj => by
              rcases Nat.lt_succ_iff_lt_or_eq.1 hj with h | rfl
              · exact H.out j h
              · exact V.out⟩
            case measure => simp [intOf]; omega
          · have V := Lib.hid (isArrow_on HM.out g1 g2)
            go_wp2
            exact fin_ hQ ⟨ret_i (by rw [arrowL, firstIx_some (by have := HL.out; omega) V.out H.out]; rfl), rfl⟩
      · have g0' : ((m : Int) == 0) = false := by simp; omega
        have V := Lib.hid (isArrow_off (ds := ds) (f := f) (t := t) (k := k) (.inl (by rw [HM.out]; exact g0)))
        go_wp2
        go_round
        case rel => exact ⟨k + 1, by omega, by go_num, fun j hj => by
          rcases Nat.lt_succ_iff_lt_or_eq.1 hj with h | rfl
          · exact H.out j h
          · exact V.out⟩
        case measure => simp [intOf]; omega
    · go_wp2
      exact fin_ hQ ⟨ret_i (by rw [arrowL, firstIx_none (fun j hj => H.out j (by have := HL.out; omega))]; rfl), rfl⟩

/-- What the six exported functions give. -/
def ifOk (ds : List DeclL) (v : Int) : Int := if typesOk ds = true then v else -1
end Go.Proofs.YtkapldpmjkdmcaaGreat
/- consOf of the program and of the reference: the numbers of the constructors of a type. -/
namespace Go.Proofs.YtkapldpmjkdmcaaGreat
open Go.RowKit

def upFrom (f k : Nat) : List Int := (List.range k).map fun i => ((f + i : Nat) : Int)
theorem upFrom_succ (f k : Nat) : upFrom f (k + 1) = upFrom f k ++ [((f + k : Nat) : Int)] := by simp [upFrom, List.range_succ]
theorem consL_in {ds : List DeclL} {k : Nat} (h : k < ds.length) : consL ds ((k : Int) + 1) = upFrom (firstN ds k) (dAt ds k).cons.length := by
  have e : ((k : Int) + 1).toNat - 1 = k := by omega
  simp only [consL]
  rw [if_pos (by omega), e]
  rfl
theorem consL_out {ds : List DeclL} {t : Int} (h : ¬ (1 ≤ t ∧ t ≤ (ds.length : Int))) : consL ds t = [] := if_neg h

set_option maxHeartbeats 1000000 in
theorem specConsOf0 (a : Option Addr) (n c : Nat) (ds : List DeclL) (D : Nat → Prop) (t : Int) (w : World) (h : DeclsR w D a n ds) (hf : Few ds) :
    Calls Tryz.prog 197 #[.slice a n c, .int .i64 t] w fun e w' => ∃ a' m c', e = .returned (.slice a' m c') ∧ m ≤ c' ∧ OwnInts w' (fun k => w.heap.size ≤ k) a' m (consL ds t) ∧ Keep w w' := by
  refine calls_k fun Q hQ => ?_
  have HL := Lib.hid h.1
  have hn4 : n ≤ 4 := by have := hf.1; have := h.1; omega
  have hK0 : Keep w (w.alloc (.cells #[] 3)) := (Ext.refl _ w).alloc _
  have hown0 : (w.alloc (.cells #[] 3)).ownsRow w.heap.size 3 1 (.slice (some ⟨w.heap.size, 0, none⟩) 0 0) 0 (([] : List Int).map (Value.int .i64)) := World.ownsRow_made w #[] 0 (Nat.le_refl _) (by simp [maxLen]) rfl
  by_cases ht : 1 ≤ t ∧ t ≤ (n : Int)
  · obtain ⟨k, rfl⟩ : ∃ k : Nat, t = (k : Int) + 1 := ⟨(t - 1).toNat, by omega⟩
    have hkn : k < n := by omega
    have hv : decide (1 ≤ (k : Int) + 1 ∧ (k : Int) + 1 ≤ (n : Int)) = true := decide_eq_true ht
    have h1 := h.ext hK0 (fun _ _ h => h)
    obtain ⟨b, o, rfl, hd, hc⟩ := h.2 (by omega)
    obtain ⟨_, _, a', m, c', c2, hmc, hcons⟩ := hc k hkn
    have HM := Lib.hid hcons.1
    have HC : Hid (consL ds ((k : Int) + 1) = upFrom (firstN ds k) m) := by show _ = _; rw [consL_in (by have := HL.out; omega), HM.out]
    have b2 : m ≤ 3 := by have := hf.2 k (by have := HL.out; omega); have := HM.out; omega
    have b1 := firstN_le hf (k := k) (by have := HL.out; omega)
    have HO := Lib.hid hown0
    have C2 := Lib.hid c2
    clear hc hcons ht hown0 c2
    go_enter Tryz.func197, Tryz.ntmps197
    go_wp2_with (go_at_call 60; refine (specInRange _ _ _ _).mono ?_; rintro e w1 ⟨rfl, rfl⟩)
    go_loopw [5, 6] (fun v i wr => ∃ j : Nat, j ≤ m ∧ i = .int .i64 j ∧ Hid (wr.ownsRow w.heap.size 3 1 v j ((upFrom (firstN ds k) j).map (Value.int .i64))) ∧ Keep w wr) (fun _ i _ => m - (intOf i).toNat)
    case atStart => exact ⟨0, Nat.zero_le _, rfl, HO, hK0⟩
    case round =>
      obtain ⟨j, hj, rfl, hown, hK⟩ := hrel
      have hx2 := (hK.cell (World.block_lt_of_cell? _ _ C2.out) (fun h => h)).trans C2.out
      by_cases hlt : j < m
      · have h2 := h.ext hK (fun _ _ h => h)
        have hbs : w.heap.size ≤ wr.heap.size := hK.size
        go_wp2_with (first
          | (go_at_call 196; refine (specFirstCon _ _ _ _ _ _ _ h2 hf (by omega)).mono ?_; rintro e w1 ⟨rfl, rfl⟩)
          | (at_builtin; refine wpList_appInt _ rfl (.tmp 25) (.tmp 32) rfl w.heap.size u5 j (upFrom (firstN ds k) j) rfl (hown.out.alloc _) wr.heap.size 1 ((firstN ds k : Int) + (j : Int)) rfl (by simp [go_sem]) (by omega) (by simp; omega) ?_; intro v' w' ho hg))
        go_roundw
        case rel => exact ⟨j + 1, by omega, by go_num, by
          show World.ownsRow _ _ _ _ _ _ _
          rw [upFrom_succ, Int.natCast_add]; exact ho, (hK.alloc _).grown hg (fun g hg' => .inl (hown.out.lt g hg').1)⟩
        case measure => simp [intOf]; omega
      · have HJ : Hid (j = m) := by show _ = _; omega
        go_wp2
        obtain ⟨a2, cc, rfl, hle, hoi⟩ := own_of_row hown.out
        have := HJ.out
        subst this
        exact fin_ hQ ⟨a2, j, cc, rfl, hle, by rw [HC.out]; exact hoi, hK⟩
  · have hv : decide (1 ≤ t ∧ t ≤ (n : Int)) = false := decide_eq_false ht
    have HC : Hid (consL ds t = []) := by show _ = _; exact consL_out (by rw [HL.out]; exact ht)
    clear ht
    go_enter Tryz.func197, Tryz.ntmps197
    go_wp2_with (go_at_call 60; refine (specInRange _ _ _ _).mono ?_; rintro e w1 ⟨rfl, rfl⟩)
    exact fin_ hQ ⟨_, 0, 0, rfl, Nat.le_refl _, by rw [HC.out]; exact ⟨rfl, fun h => absurd h (by omega)⟩, hK0⟩

set_option maxHeartbeats 1000000 in
theorem implConsOf0 (a : Option Addr) (n c : Nat) (ds : List DeclL) (D : Nat → Prop) (t : Int) (w : World) (h : DeclsR w D a n ds) (hnc : n ≤ c) (hf : Few ds) :
    Calls Tryz.prog 106 #[.slice a n c, .int .i64 t] w fun e w' => ∃ a' m c', e = .returned (.slice a' m c') ∧ m ≤ c' ∧ OwnInts w' (fun k => w.heap.size ≤ k) a' m (consL ds t) ∧ Keep w w' := by
  refine calls_k fun Q hQ => ?_
  have HL := Lib.hid h.1
  have hn4 : n ≤ 4 := by have := hf.1; have := h.1; omega
  by_cases ht1 : t < 1
  · have HC : Hid (consL ds t = []) := by show _ = _; exact consL_out (by omega)
    go_enter Tryz.func106, Tryz.ntmps106
    go_wp2_with fail
    exact fin_ hQ ⟨none, 0, 0, rfl, Nat.le_refl _, by rw [HC.out]; exact ⟨rfl, fun h => absurd h (by omega)⟩, Ext.refl _ _⟩
  by_cases ht2 : (n : Int) < t
  · have HC : Hid (consL ds t = []) := by show _ = _; exact consL_out (by have := HL.out; omega)
    go_enter Tryz.func106, Tryz.ntmps106
    go_wp2_with fail
    exact fin_ hQ ⟨none, 0, 0, rfl, Nat.le_refl _, by rw [HC.out]; exact ⟨rfl, fun h => absurd h (by omega)⟩, Ext.refl _ _⟩
  obtain ⟨k, rfl⟩ : ∃ k : Nat, t = (k : Int) + 1 := ⟨(t - 1).toNat, by omega⟩
  have hkn : k < n := by omega
  obtain ⟨b, o, rfl, hd, hc⟩ := h.2 (by omega)
  obtain ⟨_, _, a', m, c', c2, hmc, hcons⟩ := hc k hkn
  have HM := Lib.hid hcons.1
  have HC : Hid (consL ds ((k : Int) + 1) = upFrom (firstN ds k) m) := by show _ = _; rw [consL_in (by have := HL.out; omega), HM.out]
  have b2 : m ≤ 3 := by have := hf.2 k (by have := HL.out; omega); have := HM.out; omega
  have b1 := firstN_le hf (k := k) (by have := HL.out; omega)
  have htk : DeclsR w D (some ⟨b, o, none⟩) k (ds.take k) := ⟨by have := HL.out; simp; omega, fun _ => ⟨b, o, rfl, hd, fun i hi => by
    have := hc i (by omega)
    rwa [show dAt (ds.take k) i = dAt ds i from by simp [dAt, hi]]⟩⟩
  have hft : Few (ds.take k) := ⟨by have := hf.1; simp; omega, fun i hi => by
    have hi' : i < k := by simp at hi; omega
    rw [show dAt (ds.take k) i = dAt ds i from by simp [dAt, hi']]
    exact hf.2 i (by simp at hi; omega)⟩
  have hcn : Hid (conN (ds.take k) = firstN ds k) := by
    show _ = _
    have hlk : (ds.take k).length = k := by have := HL.out; simp; omega
    rw [conN, hlk]
    have : ∀ j, j ≤ k → firstN (ds.take k) j = firstN ds j := by
      intro j hj
      induction j with
      | zero => rfl
      | succ j ih => simp only [firstN]; rw [ih (by omega), show dAt (ds.take k) j = dAt ds j from by simp [dAt, show j < k by omega]]
    exact this k (Nat.le_refl _)
  have C2 := Lib.hid c2
  clear hc hcons c2
  go_enter Tryz.func106, Tryz.ntmps106
  go_wp2_with fail
  refine (implConCount0 _ _ _ _ _ _ htk hft).mono ?_
  rw [hcn.out]
  rintro e w1 ⟨rfl, hk1⟩
  have c3 := (hk1.cell (World.block_lt_of_cell? _ _ C2.out) (fun h => h)).trans C2.out
  go_wp2_with fail
  go_loopw [6, 28] (fun v i wr => ∃ j : Nat, j ≤ m ∧ i = .int .i64 j ∧ Hid (wr.ownsRow w.heap.size 3 1 v j ((upFrom (firstN ds k) j).map (Value.int .i64))) ∧ Keep w wr) (fun _ i _ => m - (intOf i).toNat)
  case atStart => exact ⟨0, Nat.zero_le _, rfl, World.ownsRow_nil _ _ _ _, hk1⟩
  case round =>
    obtain ⟨j, hj, rfl, hown, hK⟩ := hrel
    by_cases hlt : j < m
    · have hbs : w.heap.size ≤ wr.heap.size := hK.size
      go_wp2_with (at_builtin; refine wpList_appInt _ rfl (.tmp 31) (.tmp 35) rfl w.heap.size u6 j (upFrom (firstN ds k) j) rfl (hown.out.alloc _) wr.heap.size 1 ((firstN ds k : Int) + (j : Int)) rfl (by simp [go_sem]) (by omega) (by simp; omega) ?_; intro v' w' ho hg)
      go_roundw
      case rel => exact ⟨j + 1, by omega, by go_num, by
        show World.ownsRow _ _ _ _ _ _ _
        rw [upFrom_succ, Int.natCast_add]; exact ho, (hK.alloc _).grown hg (fun g hg' => .inl (hown.out.lt g hg').1)⟩
      case measure => simp [intOf]; omega
    · have HJ : Hid (j = m) := by show _ = _; omega
      go_wp2
      obtain ⟨a2, cc, rfl, hle, hoi⟩ := own_of_row hown.out
      have := HJ.out
      subst this
      exact fin_ hQ ⟨a2, j, cc, rfl, hle, by rw [HC.out]; exact hoi, hK⟩
end Go.Proofs.YtkapldpmjkdmcaaGreat
/- copyInts, slices.Clone of integers, conFields, ConFields and ConsOf. -/
namespace Go.Proofs.YtkapldpmjkdmcaaGreat
open Go.RowKit

theorem copyInts_any (A : Option Addr) (m c : Nat) (ys : List Int) (D : Nat → Prop) (w : World) (h : IntsL w D A m ys) (hm : m ≤ 1099511627776) :
    Calls Tryz.prog 102 #[.slice A m c] w fun e w' => ∃ a' c', e = .returned (.slice a' m c') ∧ m ≤ c' ∧ OwnInts w' (fun k => w.heap.size ≤ k) a' m ys ∧ Keep w w' := by
  refine calls_k fun Q hQ => ?_
  have HO := Lib.hid (ownEmpty w)
  have hK : Keep w (w.alloc (.cells #[] 3)) := (Ext.refl _ w).alloc _
  have h1 := h.ext hK (fun _ _ h => h)
  go_enter Tryz.func102, Tryz.ntmps102
  go_wp2_with (at_builtin; refine wpList_appInts _ rfl (.tmp 3) (.tmp 4) rfl w.heap.size (.slice (some ⟨w.heap.size, 0, none⟩) 0 0) 0 [] rfl HO.out A m c ys D rfl h1 (by omega) (by simp) ?_; intro v' w' ho hg)
  obtain ⟨a2, cc, rfl, hle, hoi⟩ := own_of_row ho
  simp only [Nat.zero_add, List.nil_append] at hoi hle
  have hk : Keep w w' := hK.grown hg (fun g hg' => .inl (HO.out.lt g hg').1)
  rw [Nat.zero_add]
  exact fin_ hQ ⟨a2, cc, rfl, hle, hoi, hk⟩

theorem conTypeL_some {ds : List DeclL} {x : Int} {i : Nat} (h : conIx ds x = some i) : conTypeL ds x = (i : Int) + 1 := by rw [conTypeL, h]; rfl
theorem conTypeL_none {ds : List DeclL} {x : Int} (h : conIx ds x = none) : conTypeL ds x = -1 := by rw [conTypeL, h]; rfl

set_option maxHeartbeats 1000000 in
theorem specConFields0 (a : Option Addr) (n c : Nat) (ds : List DeclL) (D : Nat → Prop) (x : Int) (w : World) (h : DeclsR w D a n ds) (hf : Few ds) :
    Calls Tryz.prog 148 #[.slice a n c, .int .i64 x] w fun e w' => ∃ a' m c', e = .returned (.slice a' m c') ∧ m ≤ c' ∧ IntsL w' (fun k => D k ∨ w.heap.size ≤ k) a' m (conFieldsL ds x) ∧ Keep w w' := by
  refine calls_k fun Q hQ => ?_
  have HL := Lib.hid h.1
  have hn4 : n ≤ 4 := by have := hf.1; have := h.1; omega
  cases hv : conIx ds x with
  | none =>
    have V := Lib.hid (conTypeL_none hv)
    have F : Hid (conFieldsL ds x = []) := by show _ = _; rw [conFieldsL, hv]
    clear hv
    go_enter Tryz.func148, Tryz.ntmps148
    go_wp2_with (go_at_call 146; refine (specConType0 _ _ _ _ _ _ _ h hf).mono ?_; rw [V.out]; rintro e w1 ⟨rfl, rfl⟩)
    exact fin_ hQ ⟨_, 0, 0, rfl, Nat.le_refl _, by rw [F.out]; exact ⟨rfl, fun h => absurd h (by omega)⟩, (Ext.refl _ _).alloc _⟩
  | some k =>
    obtain ⟨q1, q2, _⟩ := firstIx_spec hv
    have V := Lib.hid (conTypeL_some hv)
    have F : Hid (conFieldsL ds x = cAt (dAt ds k).cons (x.toNat - firstN ds k)) := by show _ = _; rw [conFieldsL, hv]
    obtain ⟨g1, g2⟩ := inDecl_iff.1 q2
    obtain ⟨j, hj⟩ := Int.eq_ofNat_of_zero_le g1
    obtain rfl : x = (firstN ds k : Int) + (j : Int) := by omega
    have hkn : k < n := by have := HL.out; omega
    obtain ⟨b, o, rfl, hd, hc⟩ := h.2 (by omega)
    obtain ⟨_, _, a', m, c', c2, hmc, hcons⟩ := hc k hkn
    have HM := hcons.1
    obtain ⟨b1', o1, rfl, hd1, hc1⟩ := hcons.2 (by omega)
    obtain ⟨a2, m2, c2', x0, hmc2, hints⟩ := hc1 j (by omega)
    have hjm : j < m := by omega
    have b1 := firstN_le hf (k := k) (by have := HL.out; omega)
    have hcl := hf.2 k (by have := HL.out; omega)
    have b3 : m ≤ 3 := by omega
    have HI := Lib.hid hints
    clear hc hcons hc1 hints hv q2 g1 g2 hj HM hcl
    go_enter Tryz.func148, Tryz.ntmps148
    go_wp2_with (go_at_call 146; refine (specConType0 _ _ _ _ _ _ _ h hf).mono ?_; rw [V.out]; rintro e w1 ⟨rfl, rfl⟩)
    have e1 : IntKind.i64.wrap ((k : Int) + 1 - 1) = (k : Int) := by rw [show (k : Int) + 1 - 1 = (k : Int) by omega]; exact IntWalk.i64_in _ (by omega)
    have e3 : IntKind.i64.wrap (k : Int) = (k : Int) := IntWalk.i64_in _ (by omega)
    have e4 : IntKind.i64.wrap (j : Int) = (j : Int) := IntWalk.i64_in _ (by omega)
    have e2 : IntKind.i64.wrap ((firstN ds k : Int) + (j : Int) - (firstN ds k : Int)) = (j : Int) := by rw [show (firstN ds k : Int) + (j : Int) - (firstN ds k : Int) = (j : Int) by omega]; exact IntWalk.i64_in _ (by omega)
    go_quiet ((go_at_call 196; exact Calls.quiet_of_same ((specFirstCon _ _ _ _ _ _ _ (h.drewN _) hf (by omega)).mono fun _ _ q => ⟨q.1, q.2.symm⟩)))
    clear e1 e2 e3 e4
    go_wp2
    refine fin_ hQ ⟨a2, m2, c2', rfl, hmc2, ?_, (Ext.refl _ _).drewN nq⟩
    rw [F.out, show ((firstN ds k : Int) + (j : Int)).toNat - firstN ds k = j by omega]
    exact (HI.out.drewN nq).mono (fun _ h => .inl h)
end Go.Proofs.YtkapldpmjkdmcaaGreat
/- The reference's types of expressions: its helpers over all kids. -/
namespace Go.Proofs.YtkapldpmjkdmcaaGreat
open Go.RowKit

theorem ints_ext {xs ys : List Int} (h : xs.length = ys.length) (h2 : ∀ i, i < xs.length → iAt xs i = iAt ys i) : xs = ys := by
  apply List.ext_getElem h
  intro i h3 h4
  have := h2 i h3
  rwa [iAt_eq h3, iAt_eq h4] at this
theorem ints_ne {xs ys : List Int} (i : Nat) (h : iAt xs i ≠ iAt ys i) : xs ≠ ys := fun e => h (by rw [e])
/-- A program that can be read. -/
def PR (w : World) (ds : List DeclL) (fs : List FuncL) (a0 : Option Addr) (n0 c0 : Nat) (a1 : Option Addr) (n1 c1 : Nat) : Prop :=
  Rd w (fun _ => True) (encDecls ds) (.slice a0 n0 c0) ∧ Rd w (fun _ => True) (encFuncs fs) (.slice a1 n1 c1)
theorem PR.k {w w' : World} {ds : List DeclL} {fs : List FuncL} {a0 : Option Addr} {n0 c0 : Nat} {a1 : Option Addr} {n1 c1 : Nat} (h : PR w ds fs a0 n0 c0 a1 n1 c1) (k : Keep w w') : PR w' ds fs a0 n0 c0 a1 n1 c1 := ⟨h.1.k k, h.2.k k⟩
theorem Rd.t {w : World} {D : Nat → Prop} {d : Dat} {v : Value} (h : Rd w D d v) : Rd w (fun _ => True) d v := h.mono (fun _ _ => trivial)

/-- What typeOf of the reference does for one expression. -/
def TyS (ds : List DeclL) (fs : List FuncL) (e : ExprL) : Prop := ∀ (a0 : Option Addr) (n0 c0 : Nat) (a1 : Option Addr) (n1 c1 : Nat) (av : Option Addr) (nv cv : Nat) (vars : List Int) (a : Option Addr) (n c : Nat) (w : World),
  PR w ds fs a0 n0 c0 a1 n1 c1 → Rd w (fun _ => True) (encInts vars) (.slice av nv cv) → Rd w (fun _ => True) (encExprs e.kids) (.slice a n c) → vars.length + 4 * nE e ≤ 1049576 → allT ds.length vars = true →
  Calls Tryz.prog 99 #[.agg #[.slice a0 n0 c0, .slice a1 n1 c1], .slice av nv cv, .agg #[.int .i64 e.op, .int .i64 e.num, .slice a n c]] w fun r w' => r = .returned (.int .i64 (tyE ds (fs.map sigF) vars e)) ∧ Keep w w'

section
variable (ds : List DeclL) (fs : List FuncL)

end
end Go.Proofs.YtkapldpmjkdmcaaGreat
