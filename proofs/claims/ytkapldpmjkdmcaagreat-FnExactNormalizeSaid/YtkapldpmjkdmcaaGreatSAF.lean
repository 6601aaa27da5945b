/- The reference's types of expressions. -/
import Derived.Test.YtkapldpmjkdmcaaGreatSAE
import Derived.Test.YtkapldpmjkdmcaaGreatSAD
import Derived.Test.YtkapldpmjkdmcaaGreatSAC
namespace Go.Proofs.YtkapldpmjkdmcaaGreat
open Go.RowKit

section
variable (ds : List DeclL) (sg : List SigL) (vars : List Int)
theorem tyE_12 (num : Int) (ks : List ExprL) : tyE ds sg vars (.mk 12 num ks) = if ks.length = 0 ∧ 0 ≤ num ∧ num < (vars.length : Int) then iAt vars num.toNat else -1 := by rw [tyE, if_pos rfl]
theorem tyE_13 (num : Int) (ks : List ExprL) : tyE ds sg vars (.mk 13 num ks) = if num = 0 ∧ ks.length = 2 then tyLet ds sg vars ks else -1 := by rw [tyE, if_neg (by omega), if_pos rfl]
theorem tyE_7 (num : Int) (ks : List ExprL) : tyE ds sg vars (.mk 7 num ks) = if num = 0 ∧ ks.length = 3 ∧ tyHd ds sg vars ks = 0 then oneT (tyTl ds sg vars ks [[], []]) else -1 := by rw [tyE, if_neg (by omega), if_neg (by omega), if_pos rfl]
theorem tyE_8 (num : Int) (ks : List ExprL) : tyE ds sg vars (.mk 8 num ks) = matchL ds sg vars num ks := by rw [tyE, if_neg (by omega), if_neg (by omega), if_neg (by omega), if_pos rfl]; rfl
theorem tyE_simple {op : Int} (num : Int) (ks : List ExprL) (h : op ≠ 12 ∧ op ≠ 13 ∧ op ≠ 7 ∧ op ≠ 8) : tyE ds sg vars (.mk op num ks) = simpleL ds sg op num (tyEs ds sg vars ks) := by rw [tyE, if_neg h.1, if_neg h.2.1, if_neg h.2.2.1, if_neg h.2.2.2]
theorem simple_0 (num : Int) (tys : List Int) : simpleL ds sg 0 num tys = if tys = [] ∧ -999 ≤ num ∧ num ≤ 999 then 0 else -1 := by rw [simpleL, if_pos rfl]
theorem simple_bin {op : Int} (num : Int) (tys : List Int) (h : op = 1 ∨ op = 2 ∨ op = 3 ∨ op = 4) : simpleL ds sg op num tys = if num = 0 ∧ tys = [0, 0] then 0 else -1 := by rw [simpleL, if_neg (by omega), if_pos h]
theorem simple_5 (num : Int) (tys : List Int) : simpleL ds sg 5 num tys = if num = 0 ∧ tys = [0] then 0 else -1 := by rw [simpleL, if_neg (by omega), if_neg (by omega), if_pos rfl]
theorem simple_11 (num : Int) (tys : List Int) : simpleL ds sg 11 num tys = if num = 0 ∧ tys.length = 2 ∧ isArr ds (iAt tys 0) = true ∧ iAt tys 1 = (dAt ds ((iAt tys 0).toNat - 1)).from_ then (dAt ds ((iAt tys 0).toNat - 1)).to_ else -1 := by rw [simpleL, if_neg (by omega), if_neg (by omega), if_neg (by omega), if_pos rfl]
theorem simple_6 (num : Int) (tys : List Int) : simpleL ds sg 6 num tys = if 0 < conTypeL ds num ∧ tys = conFieldsL ds num then conTypeL ds num else -1 := by rw [simpleL, if_neg (by omega), if_neg (by omega), if_neg (by omega), if_neg (by omega), if_pos rfl]
theorem simple_other {op : Int} (num : Int) (tys : List Int) (h : op < 0 ∨ 13 < op) : simpleL ds sg op num tys = -1 := by
  rw [simpleL, if_neg (by omega), if_neg (by omega), if_neg (by omega), if_neg (by omega), if_neg (by omega), if_neg (by omega), if_neg (by omega)]
end

set_option maxHeartbeats 1000000 in
theorem specIsArrow (a : Option Addr) (n c : Nat) (ds : List DeclL) (D : Nat → Prop) (t : Int) (w : World) (h : DeclsR w D a n ds) (hn : n ≤ 1049576) :
    Calls Tryz.prog 152 #[.slice a n c, .int .i64 t] w fun e w' => e = .returned (.bool (isArr ds t)) ∧ w = w' := by
  refine calls_k fun Q hQ => ?_
  have HL := Lib.hid h.1
  by_cases ht : 1 ≤ t ∧ t ≤ (n : Int)
  · obtain ⟨k, rfl⟩ : ∃ k : Nat, t = (k : Int) + 1 := ⟨(t - 1).toNat, by omega⟩
    have hd : decide (1 ≤ (k : Int) + 1 ∧ (k : Int) + 1 ≤ (n : Int)) = true := decide_eq_true ht
    have hk : k < n := by omega
    obtain ⟨b, o, rfl, _, hc⟩ := h.2 (by omega)
    obtain ⟨_, _, a', m, c', c2, _, hcons⟩ := hc k hk
    have V0 : Hid (isArr ds ((k : Int) + 1) = decide (m = 0)) := by
      show _ = _
      rw [isArr, decide_eq_true (by have := HL.out; omega), Bool.true_and, show ((k : Int) + 1).toNat - 1 = k by omega, hcons.1]
    clear hc hcons ht
    rcases Nat.eq_zero_or_pos m with h0 | h0
    · subst h0
      go_enter Tryz.func152, Tryz.ntmps152
      go_wp2_with fail
      refine (specInRange _ _ _ _).mono ?_
      rw [hd]
      rintro e w1 ⟨rfl, rfl⟩
      go_wp2_with fail
      exact fin_ hQ ⟨ret_b (by rw [V0.out]; rfl), rfl⟩
    · have hz : ((m : Int) == 0) = false := by simp; omega
      go_enter Tryz.func152, Tryz.ntmps152
      go_wp2_with fail
      refine (specInRange _ _ _ _).mono ?_
      rw [hd]
      rintro e w1 ⟨rfl, rfl⟩
      go_wp2_with fail
      exact fin_ hQ ⟨ret_b (by rw [V0.out]; exact (decide_eq_false (by omega)).symm), rfl⟩
  · have hd : decide (1 ≤ t ∧ t ≤ (n : Int)) = false := decide_eq_false ht
    have V0 : Hid (isArr ds t = false) := by show _ = _; rw [isArr, decide_eq_false (by rw [HL.out]; exact ht)]; rfl
    clear ht
    go_enter Tryz.func152, Tryz.ntmps152
    go_wp2_with fail
    refine (specInRange _ _ _ _).mono ?_
    rw [hd]
    rintro e w1 ⟨rfl, rfl⟩
    go_wp2_with fail
    exact fin_ hQ ⟨ret_b V0.out.symm, rfl⟩

section
variable (ds : List DeclL) (fs : List FuncL) (hok : sigsOk ds (fs.map sigF) = true)
include hok

set_option maxRecDepth 100000 in
set_option maxHeartbeats 4000000 in
theorem specTy_0 (num : Int) (es : List ExprL) (IH0 : ∀ j, j < es.length → TyS ds fs (eAt es j)) : TyS ds fs (.mk 0 num es) := by
  intro a0 n0 c0 a1 n1 c1 av nv cv vars a n c w hp hv h hlen hall
  refine calls_k fun Q hQ => ?_
  change Rd w (fun _ => True) (encExprs es) _ at h
  rw [nE] at hlen
  simp only [ExprL.op, ExprL.num]
  have ht := (sigsOk_parts hok).1
  have hf := Few.of_ok ht
  have hd4 := typesOk_len ht
  have hn0 : n0 ≤ 4 := by have := (decls_at hp.1).1; omega
  have hnv : nv ≤ 1049576 := by have := (ints_at hv).1; omega
  have K0 := (Keep.al w (.cells #[.slice a0 n0 c0, .slice a1 n1 c1] 44)).trans (Keep.al _ (.cells #[.int .i64 0, .int .i64 num, .slice a n c] 58))
  have R0 := (rowOf w #[.slice a0 n0 c0, .slice a1 n1 c1] 44).alloc (.cells #[.int .i64 0, .int .i64 num, .slice a n c] 58)
  have R1 := rowOf (w.alloc (.cells #[.slice a0 n0 c0, .slice a1 n1 c1] 44)) #[.int .i64 0, .int .i64 num, .slice a n c] 58
  simp only [World.size_alloc] at R1
  obtain ⟨e1, hnc, hnm, hat⟩ := exprs_at h
  have HL := Lib.hid e1
  have HA := Lib.hid hat
  have hn30 : n ≤ 262394 := by have := nEs_len es; omega
  have HOK := Lib.hid hok
  have HAll := Lib.hid hall
  have HLen := Lib.hid hlen
  have HT := Lib.hid ht
  have IH := Lib.hid IH0
  have TL := Lib.hid (tyEs_len ds (fs.map sigF) vars es)
  clear e1 hat hok hall ht IH0
  have V0 := Lib.hid (simple_0 ds (fs.map sigF) num (tyEs ds (fs.map sigF) vars es))
  rcases Nat.eq_zero_or_pos n with h0 | h0
  · subst h0
    have HN : Hid (tyEs ds (fs.map sigF) vars es = []) := List.eq_nil_of_length_eq_zero (by rw [TL.out]; exact HL.out)
    by_cases hr : -999 ≤ num ∧ num ≤ 999
    · have V : Hid (tyE ds (fs.map sigF) vars (.mk 0 num es) = 0) := by show _ = _; rw [tyE_simple ds _ vars num es (by omega), V0.out, if_pos ⟨HN.out, hr⟩]
      have hd : decide (-999 ≤ num ∧ num ≤ 999) = true := decide_eq_true hr
      clear hr
      go_enter Tryz.func99, Tryz.ntmps99
      go_wp2_with fail
      refine (specInRange _ _ _ _).mono ?_
      rw [hd]
      rintro e w1 ⟨rfl, rfl⟩
      go_wp2_with fail
      exact fin_ hQ ⟨ret_i V.out.symm, K0⟩
    · have V : Hid (tyE ds (fs.map sigF) vars (.mk 0 num es) = -1) := by show _ = _; rw [tyE_simple ds _ vars num es (by omega), V0.out, if_neg (fun h => hr h.2)]
      have hd : decide (-999 ≤ num ∧ num ≤ 999) = false := decide_eq_false hr
      clear hr
      go_enter Tryz.func99, Tryz.ntmps99
      go_wp2_with fail
      refine (specInRange _ _ _ _).mono ?_
      rw [hd]
      rintro e w1 ⟨rfl, rfl⟩
      go_wp2_with fail
      exact fin_ hQ ⟨ret_i V.out.symm, K0⟩
  · have V : Hid (tyE ds (fs.map sigF) vars (.mk 0 num es) = -1) := by show _ = _; rw [tyE_simple ds _ vars num es (by omega), V0.out, if_neg (fun h => by have h1 := congrArg List.length h.1; rw [TL.out, HL.out] at h1; simp at h1; omega)]
    have hz : ((n : Int) == 0) = false := by simp; omega
    go_enter Tryz.func99, Tryz.ntmps99
    go_wp2_with fail
    exact fin_ hQ ⟨ret_i V.out.symm, K0⟩

set_option maxRecDepth 100000 in
set_option maxHeartbeats 4000000 in
theorem specTy_12 (num : Int) (es : List ExprL) (IH0 : ∀ j, j < es.length → TyS ds fs (eAt es j)) : TyS ds fs (.mk 12 num es) := by
  intro a0 n0 c0 a1 n1 c1 av nv cv vars a n c w hp hv h hlen hall
  refine calls_k fun Q hQ => ?_
  change Rd w (fun _ => True) (encExprs es) _ at h
  rw [nE] at hlen
  simp only [ExprL.op, ExprL.num]
  have ht := (sigsOk_parts hok).1
  have hf := Few.of_ok ht
  have hd4 := typesOk_len ht
  have hn0 : n0 ≤ 4 := by have := (decls_at hp.1).1; omega
  have hnv : nv ≤ 1049576 := by have := (ints_at hv).1; omega
  have K0 := (Keep.al w (.cells #[.slice a0 n0 c0, .slice a1 n1 c1] 44)).trans (Keep.al _ (.cells #[.int .i64 12, .int .i64 num, .slice a n c] 58))
  have R0 := (rowOf w #[.slice a0 n0 c0, .slice a1 n1 c1] 44).alloc (.cells #[.int .i64 12, .int .i64 num, .slice a n c] 58)
  have R1 := rowOf (w.alloc (.cells #[.slice a0 n0 c0, .slice a1 n1 c1] 44)) #[.int .i64 12, .int .i64 num, .slice a n c] 58
  simp only [World.size_alloc] at R1
  obtain ⟨e1, hnc, hnm, hat⟩ := exprs_at h
  have HL := Lib.hid e1
  have HA := Lib.hid hat
  have hn30 : n ≤ 262394 := by have := nEs_len es; omega
  have HOK := Lib.hid hok
  have HAll := Lib.hid hall
  have HLen := Lib.hid hlen
  have HT := Lib.hid ht
  have IH := Lib.hid IH0
  have TL := Lib.hid (tyEs_len ds (fs.map sigF) vars es)
  clear e1 hat hok hall ht IH0
  have V0 := Lib.hid (tyE_12 ds (fs.map sigF) vars num es)
  have HV := Lib.hid (ints_at hv)
  rcases Nat.eq_zero_or_pos n with h0 | h0
  · subst h0
    by_cases hr : 0 ≤ num ∧ num < (nv : Int)
    · obtain ⟨k, rfl⟩ : ∃ k : Nat, num = (k : Int) := ⟨num.toNat, by omega⟩
      obtain ⟨b, o, rfl, _, d0⟩ := HV.out.2.2.2 k (by omega)
      have V : Hid (tyE ds (fs.map sigF) vars (.mk 12 (k : Int) es) = iAt vars k) := by show _ = _; rw [V0.out, if_pos ⟨HL.out, by omega, by have := HV.out.1; omega⟩]; rfl
      have g0 := (K0.cell (World.block_lt_of_cell? w _ d0) (fun h => h)).trans d0
      have hd : decide (0 ≤ (k : Int) ∧ (k : Int) ≤ (nv : Int) - 1) = true := decide_eq_true (by omega)
      have hk : k < nv := by omega
      clear hr d0
      go_enter Tryz.func99, Tryz.ntmps99
      go_wp2_with fail
      refine (specInRange _ _ _ _).mono ?_
      rw [hd]
      rintro e w1 ⟨rfl, rfl⟩
      go_wp2_with fail
      exact fin_ hQ ⟨ret_i V.out.symm, K0⟩
    · have V : Hid (tyE ds (fs.map sigF) vars (.mk 12 num es) = -1) := by show _ = _; rw [V0.out, if_neg (fun h => hr ⟨h.2.1, by have := h.2.2; have := HV.out.1; omega⟩)]
      have hd : decide (0 ≤ num ∧ num ≤ (nv : Int) - 1) = false := decide_eq_false (fun h => hr ⟨h.1, by omega⟩)
      clear hr
      go_enter Tryz.func99, Tryz.ntmps99
      go_wp2_with fail
      refine (specInRange _ _ _ _).mono ?_
      rw [hd]
      rintro e w1 ⟨rfl, rfl⟩
      go_wp2_with fail
      exact fin_ hQ ⟨ret_i V.out.symm, K0⟩
  · have V : Hid (tyE ds (fs.map sigF) vars (.mk 12 num es) = -1) := by show _ = _; rw [V0.out, if_neg (fun h => by have := HL.out; omega)]
    have hz : ((n : Int) == 0) = false := by simp; omega
    go_enter Tryz.func99, Tryz.ntmps99
    go_wp2_with fail
    exact fin_ hQ ⟨ret_i V.out.symm, K0⟩

set_option maxRecDepth 100000 in
set_option maxHeartbeats 4000000 in
theorem specTy_1 (num : Int) (es : List ExprL) (IH0 : ∀ j, j < es.length → TyS ds fs (eAt es j)) : TyS ds fs (.mk 1 num es) := by
  intro a0 n0 c0 a1 n1 c1 av nv cv vars a n c w hp hv h hlen hall
  refine calls_k fun Q hQ => ?_
  change Rd w (fun _ => True) (encExprs es) _ at h
  rw [nE] at hlen
  simp only [ExprL.op, ExprL.num]
  have ht := (sigsOk_parts hok).1
  have hf := Few.of_ok ht
  have hd4 := typesOk_len ht
  have hn0 : n0 ≤ 4 := by have := (decls_at hp.1).1; omega
  have hnv : nv ≤ 1049576 := by have := (ints_at hv).1; omega
  have K0 := (Keep.al w (.cells #[.slice a0 n0 c0, .slice a1 n1 c1] 44)).trans (Keep.al _ (.cells #[.int .i64 1, .int .i64 num, .slice a n c] 58))
  have R0 := (rowOf w #[.slice a0 n0 c0, .slice a1 n1 c1] 44).alloc (.cells #[.int .i64 1, .int .i64 num, .slice a n c] 58)
  have R1 := rowOf (w.alloc (.cells #[.slice a0 n0 c0, .slice a1 n1 c1] 44)) #[.int .i64 1, .int .i64 num, .slice a n c] 58
  simp only [World.size_alloc] at R1
  obtain ⟨e1, hnc, hnm, hat⟩ := exprs_at h
  have HL := Lib.hid e1
  have HA := Lib.hid hat
  have hn30 : n ≤ 262394 := by have := nEs_len es; omega
  have HOK := Lib.hid hok
  have HAll := Lib.hid hall
  have HLen := Lib.hid hlen
  have HT := Lib.hid ht
  have IH := Lib.hid IH0
  have TL := Lib.hid (tyEs_len ds (fs.map sigF) vars es)
  clear e1 hat hok hall ht IH0
  have V0 := Lib.hid (simple_bin ds (fs.map sigF) (op := 1) num (tyEs ds (fs.map sigF) vars es) (by omega))
  by_cases hz : num = 0
  case neg =>
    have V : Hid (tyE ds (fs.map sigF) vars (.mk 1 num es) = -1) := by show _ = _; rw [tyE_simple ds _ vars num es (by omega), V0.out, if_neg (fun h => hz h.1)]
    have hz' : (num == 0) = false := by simpa using hz
    clear hz
    go_enter Tryz.func99, Tryz.ntmps99
    go_wp2_with fail
    exact fin_ hQ ⟨ret_i V.out.symm, K0⟩
  subst hz
  cases hd : decide (tyEs ds (fs.map sigF) vars es = List.replicate 2 0)
  · have V : Hid (tyE ds (fs.map sigF) vars (.mk 1 0 es) = -1) := by show _ = _; rw [tyE_simple ds _ vars 0 es (by omega), V0.out, if_neg (fun h => of_decide_eq_false hd h.2)]
    have HD := Lib.hid hd
    clear hd
    go_enter Tryz.func99, Tryz.ntmps99
    go_wp2_with fail
    refine (specAllInts ds fs es IH.out _ _ _ _ _ _ _ _ _ vars _ _ _ _ _ (hp.k K0) (hv.k K0) (h.k K0) (by omega) HAll.out).mono ?_
    rw [HD.out]
    rintro e w1 ⟨rfl, p1⟩
    go_wp2_with fail
    exact fin_ hQ ⟨ret_i V.out.symm, K0.trans p1⟩
  · have V : Hid (tyE ds (fs.map sigF) vars (.mk 1 0 es) = 0) := by show _ = _; rw [tyE_simple ds _ vars 0 es (by omega), V0.out, if_pos ⟨rfl, of_decide_eq_true hd⟩]
    have HD := Lib.hid hd
    clear hd
    go_enter Tryz.func99, Tryz.ntmps99
    go_wp2_with fail
    refine (specAllInts ds fs es IH.out _ _ _ _ _ _ _ _ _ vars _ _ _ _ _ (hp.k K0) (hv.k K0) (h.k K0) (by omega) HAll.out).mono ?_
    rw [HD.out]
    rintro e w1 ⟨rfl, p1⟩
    go_wp2_with fail
    exact fin_ hQ ⟨ret_i V.out.symm, K0.trans p1⟩

set_option maxRecDepth 100000 in
set_option maxHeartbeats 4000000 in
theorem specTy_2 (num : Int) (es : List ExprL) (IH0 : ∀ j, j < es.length → TyS ds fs (eAt es j)) : TyS ds fs (.mk 2 num es) := by
  intro a0 n0 c0 a1 n1 c1 av nv cv vars a n c w hp hv h hlen hall
  refine calls_k fun Q hQ => ?_
  change Rd w (fun _ => True) (encExprs es) _ at h
  rw [nE] at hlen
  simp only [ExprL.op, ExprL.num]
  have ht := (sigsOk_parts hok).1
  have hf := Few.of_ok ht
  have hd4 := typesOk_len ht
  have hn0 : n0 ≤ 4 := by have := (decls_at hp.1).1; omega
  have hnv : nv ≤ 1049576 := by have := (ints_at hv).1; omega
  have K0 := (Keep.al w (.cells #[.slice a0 n0 c0, .slice a1 n1 c1] 44)).trans (Keep.al _ (.cells #[.int .i64 2, .int .i64 num, .slice a n c] 58))
  have R0 := (rowOf w #[.slice a0 n0 c0, .slice a1 n1 c1] 44).alloc (.cells #[.int .i64 2, .int .i64 num, .slice a n c] 58)
  have R1 := rowOf (w.alloc (.cells #[.slice a0 n0 c0, .slice a1 n1 c1] 44)) #[.int .i64 2, .int .i64 num, .slice a n c] 58
  simp only [World.size_alloc] at R1
  obtain ⟨e1, hnc, hnm, hat⟩ := exprs_at h
  have HL := Lib.hid e1
  have HA := Lib.hid hat
  have hn30 : n ≤ 262394 := by have := nEs_len es; omega
  have HOK := Lib.hid hok
  have HAll := Lib.hid hall
  have HLen := Lib.hid hlen
  have HT := Lib.hid ht
  have IH := Lib.hid IH0
  have TL := Lib.hid (tyEs_len ds (fs.map sigF) vars es)
  clear e1 hat hok hall ht IH0
  have V0 := Lib.hid (simple_bin ds (fs.map sigF) (op := 2) num (tyEs ds (fs.map sigF) vars es) (by omega))
  by_cases hz : num = 0
  case neg =>
    have V : Hid (tyE ds (fs.map sigF) vars (.mk 2 num es) = -1) := by show _ = _; rw [tyE_simple ds _ vars num es (by omega), V0.out, if_neg (fun h => hz h.1)]
    have hz' : (num == 0) = false := by simpa using hz
    clear hz
    go_enter Tryz.func99, Tryz.ntmps99
    go_wp2_with fail
    exact fin_ hQ ⟨ret_i V.out.symm, K0⟩
  subst hz
  cases hd : decide (tyEs ds (fs.map sigF) vars es = List.replicate 2 0)
  · have V : Hid (tyE ds (fs.map sigF) vars (.mk 2 0 es) = -1) := by show _ = _; rw [tyE_simple ds _ vars 0 es (by omega), V0.out, if_neg (fun h => of_decide_eq_false hd h.2)]
    have HD := Lib.hid hd
    clear hd
    go_enter Tryz.func99, Tryz.ntmps99
    go_wp2_with fail
    refine (specAllInts ds fs es IH.out _ _ _ _ _ _ _ _ _ vars _ _ _ _ _ (hp.k K0) (hv.k K0) (h.k K0) (by omega) HAll.out).mono ?_
    rw [HD.out]
    rintro e w1 ⟨rfl, p1⟩
    go_wp2_with fail
    exact fin_ hQ ⟨ret_i V.out.symm, K0.trans p1⟩
  · have V : Hid (tyE ds (fs.map sigF) vars (.mk 2 0 es) = 0) := by show _ = _; rw [tyE_simple ds _ vars 0 es (by omega), V0.out, if_pos ⟨rfl, of_decide_eq_true hd⟩]
    have HD := Lib.hid hd
    clear hd
    go_enter Tryz.func99, Tryz.ntmps99
    go_wp2_with fail
    refine (specAllInts ds fs es IH.out _ _ _ _ _ _ _ _ _ vars _ _ _ _ _ (hp.k K0) (hv.k K0) (h.k K0) (by omega) HAll.out).mono ?_
    rw [HD.out]
    rintro e w1 ⟨rfl, p1⟩
    go_wp2_with fail
    exact fin_ hQ ⟨ret_i V.out.symm, K0.trans p1⟩

set_option maxRecDepth 100000 in
set_option maxHeartbeats 4000000 in
theorem specTy_3 (num : Int) (es : List ExprL) (IH0 : ∀ j, j < es.length → TyS ds fs (eAt es j)) : TyS ds fs (.mk 3 num es) := by
  intro a0 n0 c0 a1 n1 c1 av nv cv vars a n c w hp hv h hlen hall
  refine calls_k fun Q hQ => ?_
  change Rd w (fun _ => True) (encExprs es) _ at h
  rw [nE] at hlen
  simp only [ExprL.op, ExprL.num]
  have ht := (sigsOk_parts hok).1
  have hf := Few.of_ok ht
  have hd4 := typesOk_len ht
  have hn0 : n0 ≤ 4 := by have := (decls_at hp.1).1; omega
  have hnv : nv ≤ 1049576 := by have := (ints_at hv).1; omega
  have K0 := (Keep.al w (.cells #[.slice a0 n0 c0, .slice a1 n1 c1] 44)).trans (Keep.al _ (.cells #[.int .i64 3, .int .i64 num, .slice a n c] 58))
  have R0 := (rowOf w #[.slice a0 n0 c0, .slice a1 n1 c1] 44).alloc (.cells #[.int .i64 3, .int .i64 num, .slice a n c] 58)
  have R1 := rowOf (w.alloc (.cells #[.slice a0 n0 c0, .slice a1 n1 c1] 44)) #[.int .i64 3, .int .i64 num, .slice a n c] 58
  simp only [World.size_alloc] at R1
  obtain ⟨e1, hnc, hnm, hat⟩ := exprs_at h
  have HL := Lib.hid e1
  have HA := Lib.hid hat
  have hn30 : n ≤ 262394 := by have := nEs_len es; omega
  have HOK := Lib.hid hok
  have HAll := Lib.hid hall
  have HLen := Lib.hid hlen
  have HT := Lib.hid ht
  have IH := Lib.hid IH0
  have TL := Lib.hid (tyEs_len ds (fs.map sigF) vars es)
  clear e1 hat hok hall ht IH0
  have V0 := Lib.hid (simple_bin ds (fs.map sigF) (op := 3) num (tyEs ds (fs.map sigF) vars es) (by omega))
  by_cases hz : num = 0
  case neg =>
    have V : Hid (tyE ds (fs.map sigF) vars (.mk 3 num es) = -1) := by show _ = _; rw [tyE_simple ds _ vars num es (by omega), V0.out, if_neg (fun h => hz h.1)]
    have hz' : (num == 0) = false := by simpa using hz
    clear hz
    go_enter Tryz.func99, Tryz.ntmps99
    go_wp2_with fail
    exact fin_ hQ ⟨ret_i V.out.symm, K0⟩
  subst hz
  cases hd : decide (tyEs ds (fs.map sigF) vars es = List.replicate 2 0)
  · have V : Hid (tyE ds (fs.map sigF) vars (.mk 3 0 es) = -1) := by show _ = _; rw [tyE_simple ds _ vars 0 es (by omega), V0.out, if_neg (fun h => of_decide_eq_false hd h.2)]
    have HD := Lib.hid hd
    clear hd
    go_enter Tryz.func99, Tryz.ntmps99
    go_wp2_with fail
    refine (specAllInts ds fs es IH.out _ _ _ _ _ _ _ _ _ vars _ _ _ _ _ (hp.k K0) (hv.k K0) (h.k K0) (by omega) HAll.out).mono ?_
    rw [HD.out]
    rintro e w1 ⟨rfl, p1⟩
    go_wp2_with fail
    exact fin_ hQ ⟨ret_i V.out.symm, K0.trans p1⟩
  · have V : Hid (tyE ds (fs.map sigF) vars (.mk 3 0 es) = 0) := by show _ = _; rw [tyE_simple ds _ vars 0 es (by omega), V0.out, if_pos ⟨rfl, of_decide_eq_true hd⟩]
    have HD := Lib.hid hd
    clear hd
    go_enter Tryz.func99, Tryz.ntmps99
    go_wp2_with fail
    refine (specAllInts ds fs es IH.out _ _ _ _ _ _ _ _ _ vars _ _ _ _ _ (hp.k K0) (hv.k K0) (h.k K0) (by omega) HAll.out).mono ?_
    rw [HD.out]
    rintro e w1 ⟨rfl, p1⟩
    go_wp2_with fail
    exact fin_ hQ ⟨ret_i V.out.symm, K0.trans p1⟩

set_option maxRecDepth 100000 in
set_option maxHeartbeats 4000000 in
theorem specTy_4 (num : Int) (es : List ExprL) (IH0 : ∀ j, j < es.length → TyS ds fs (eAt es j)) : TyS ds fs (.mk 4 num es) := by
  intro a0 n0 c0 a1 n1 c1 av nv cv vars a n c w hp hv h hlen hall
  refine calls_k fun Q hQ => ?_
  change Rd w (fun _ => True) (encExprs es) _ at h
  rw [nE] at hlen
  simp only [ExprL.op, ExprL.num]
  have ht := (sigsOk_parts hok).1
  have hf := Few.of_ok ht
  have hd4 := typesOk_len ht
  have hn0 : n0 ≤ 4 := by have := (decls_at hp.1).1; omega
  have hnv : nv ≤ 1049576 := by have := (ints_at hv).1; omega
  have K0 := (Keep.al w (.cells #[.slice a0 n0 c0, .slice a1 n1 c1] 44)).trans (Keep.al _ (.cells #[.int .i64 4, .int .i64 num, .slice a n c] 58))
  have R0 := (rowOf w #[.slice a0 n0 c0, .slice a1 n1 c1] 44).alloc (.cells #[.int .i64 4, .int .i64 num, .slice a n c] 58)
  have R1 := rowOf (w.alloc (.cells #[.slice a0 n0 c0, .slice a1 n1 c1] 44)) #[.int .i64 4, .int .i64 num, .slice a n c] 58
  simp only [World.size_alloc] at R1
  obtain ⟨e1, hnc, hnm, hat⟩ := exprs_at h
  have HL := Lib.hid e1
  have HA := Lib.hid hat
  have hn30 : n ≤ 262394 := by have := nEs_len es; omega
  have HOK := Lib.hid hok
  have HAll := Lib.hid hall
  have HLen := Lib.hid hlen
  have HT := Lib.hid ht
  have IH := Lib.hid IH0
  have TL := Lib.hid (tyEs_len ds (fs.map sigF) vars es)
  clear e1 hat hok hall ht IH0
  have V0 := Lib.hid (simple_bin ds (fs.map sigF) (op := 4) num (tyEs ds (fs.map sigF) vars es) (by omega))
  by_cases hz : num = 0
  case neg =>
    have V : Hid (tyE ds (fs.map sigF) vars (.mk 4 num es) = -1) := by show _ = _; rw [tyE_simple ds _ vars num es (by omega), V0.out, if_neg (fun h => hz h.1)]
    have hz' : (num == 0) = false := by simpa using hz
    clear hz
    go_enter Tryz.func99, Tryz.ntmps99
    go_wp2_with fail
    exact fin_ hQ ⟨ret_i V.out.symm, K0⟩
  subst hz
  cases hd : decide (tyEs ds (fs.map sigF) vars es = List.replicate 2 0)
  · have V : Hid (tyE ds (fs.map sigF) vars (.mk 4 0 es) = -1) := by show _ = _; rw [tyE_simple ds _ vars 0 es (by omega), V0.out, if_neg (fun h => of_decide_eq_false hd h.2)]
    have HD := Lib.hid hd
    clear hd
    go_enter Tryz.func99, Tryz.ntmps99
    go_wp2_with fail
    refine (specAllInts ds fs es IH.out _ _ _ _ _ _ _ _ _ vars _ _ _ _ _ (hp.k K0) (hv.k K0) (h.k K0) (by omega) HAll.out).mono ?_
    rw [HD.out]
    rintro e w1 ⟨rfl, p1⟩
    go_wp2_with fail
    exact fin_ hQ ⟨ret_i V.out.symm, K0.trans p1⟩
  · have V : Hid (tyE ds (fs.map sigF) vars (.mk 4 0 es) = 0) := by show _ = _; rw [tyE_simple ds _ vars 0 es (by omega), V0.out, if_pos ⟨rfl, of_decide_eq_true hd⟩]
    have HD := Lib.hid hd
    clear hd
    go_enter Tryz.func99, Tryz.ntmps99
    go_wp2_with fail
    refine (specAllInts ds fs es IH.out _ _ _ _ _ _ _ _ _ vars _ _ _ _ _ (hp.k K0) (hv.k K0) (h.k K0) (by omega) HAll.out).mono ?_
    rw [HD.out]
    rintro e w1 ⟨rfl, p1⟩
    go_wp2_with fail
    exact fin_ hQ ⟨ret_i V.out.symm, K0.trans p1⟩

set_option maxRecDepth 100000 in
set_option maxHeartbeats 4000000 in
theorem specTy_5 (num : Int) (es : List ExprL) (IH0 : ∀ j, j < es.length → TyS ds fs (eAt es j)) : TyS ds fs (.mk 5 num es) := by
  intro a0 n0 c0 a1 n1 c1 av nv cv vars a n c w hp hv h hlen hall
  refine calls_k fun Q hQ => ?_
  change Rd w (fun _ => True) (encExprs es) _ at h
  rw [nE] at hlen
  simp only [ExprL.op, ExprL.num]
  have ht := (sigsOk_parts hok).1
  have hf := Few.of_ok ht
  have hd4 := typesOk_len ht
  have hn0 : n0 ≤ 4 := by have := (decls_at hp.1).1; omega
  have hnv : nv ≤ 1049576 := by have := (ints_at hv).1; omega
  have K0 := (Keep.al w (.cells #[.slice a0 n0 c0, .slice a1 n1 c1] 44)).trans (Keep.al _ (.cells #[.int .i64 5, .int .i64 num, .slice a n c] 58))
  have R0 := (rowOf w #[.slice a0 n0 c0, .slice a1 n1 c1] 44).alloc (.cells #[.int .i64 5, .int .i64 num, .slice a n c] 58)
  have R1 := rowOf (w.alloc (.cells #[.slice a0 n0 c0, .slice a1 n1 c1] 44)) #[.int .i64 5, .int .i64 num, .slice a n c] 58
  simp only [World.size_alloc] at R1
  obtain ⟨e1, hnc, hnm, hat⟩ := exprs_at h
  have HL := Lib.hid e1
  have HA := Lib.hid hat
  have hn30 : n ≤ 262394 := by have := nEs_len es; omega
  have HOK := Lib.hid hok
  have HAll := Lib.hid hall
  have HLen := Lib.hid hlen
  have HT := Lib.hid ht
  have IH := Lib.hid IH0
  have TL := Lib.hid (tyEs_len ds (fs.map sigF) vars es)
  clear e1 hat hok hall ht IH0
  have V0 := Lib.hid (simple_5 ds (fs.map sigF) num (tyEs ds (fs.map sigF) vars es))
  by_cases hz : num = 0
  case neg =>
    have V : Hid (tyE ds (fs.map sigF) vars (.mk 5 num es) = -1) := by show _ = _; rw [tyE_simple ds _ vars num es (by omega), V0.out, if_neg (fun h => hz h.1)]
    have hz' : (num == 0) = false := by simpa using hz
    clear hz
    go_enter Tryz.func99, Tryz.ntmps99
    go_wp2_with fail
    exact fin_ hQ ⟨ret_i V.out.symm, K0⟩
  subst hz
  cases hd : decide (tyEs ds (fs.map sigF) vars es = List.replicate 1 0)
  · have V : Hid (tyE ds (fs.map sigF) vars (.mk 5 0 es) = -1) := by show _ = _; rw [tyE_simple ds _ vars 0 es (by omega), V0.out, if_neg (fun h => of_decide_eq_false hd h.2)]
    have HD := Lib.hid hd
    clear hd
    go_enter Tryz.func99, Tryz.ntmps99
    go_wp2_with fail
    refine (specAllInts ds fs es IH.out _ _ _ _ _ _ _ _ _ vars _ _ _ _ _ (hp.k K0) (hv.k K0) (h.k K0) (by omega) HAll.out).mono ?_
    rw [HD.out]
    rintro e w1 ⟨rfl, p1⟩
    go_wp2_with fail
    exact fin_ hQ ⟨ret_i V.out.symm, K0.trans p1⟩
  · have V : Hid (tyE ds (fs.map sigF) vars (.mk 5 0 es) = 0) := by show _ = _; rw [tyE_simple ds _ vars 0 es (by omega), V0.out, if_pos ⟨rfl, of_decide_eq_true hd⟩]
    have HD := Lib.hid hd
    clear hd
    go_enter Tryz.func99, Tryz.ntmps99
    go_wp2_with fail
    refine (specAllInts ds fs es IH.out _ _ _ _ _ _ _ _ _ vars _ _ _ _ _ (hp.k K0) (hv.k K0) (h.k K0) (by omega) HAll.out).mono ?_
    rw [HD.out]
    rintro e w1 ⟨rfl, p1⟩
    go_wp2_with fail
    exact fin_ hQ ⟨ret_i V.out.symm, K0.trans p1⟩

set_option maxRecDepth 100000 in
set_option maxHeartbeats 4000000 in
theorem specTy_6 (num : Int) (es : List ExprL) (IH0 : ∀ j, j < es.length → TyS ds fs (eAt es j)) : TyS ds fs (.mk 6 num es) := by
  intro a0 n0 c0 a1 n1 c1 av nv cv vars a n c w hp hv h hlen hall
  refine calls_k fun Q hQ => ?_
  change Rd w (fun _ => True) (encExprs es) _ at h
  rw [nE] at hlen
  simp only [ExprL.op, ExprL.num]
  have ht := (sigsOk_parts hok).1
  have hf := Few.of_ok ht
  have hd4 := typesOk_len ht
  have hn0 : n0 ≤ 4 := by have := (decls_at hp.1).1; omega
  have hnv : nv ≤ 1049576 := by have := (ints_at hv).1; omega
  have K0 := (Keep.al w (.cells #[.slice a0 n0 c0, .slice a1 n1 c1] 44)).trans (Keep.al _ (.cells #[.int .i64 6, .int .i64 num, .slice a n c] 58))
  have R0 := (rowOf w #[.slice a0 n0 c0, .slice a1 n1 c1] 44).alloc (.cells #[.int .i64 6, .int .i64 num, .slice a n c] 58)
  have R1 := rowOf (w.alloc (.cells #[.slice a0 n0 c0, .slice a1 n1 c1] 44)) #[.int .i64 6, .int .i64 num, .slice a n c] 58
  simp only [World.size_alloc] at R1
  obtain ⟨e1, hnc, hnm, hat⟩ := exprs_at h
  have HL := Lib.hid e1
  have HA := Lib.hid hat
  have hn30 : n ≤ 262394 := by have := nEs_len es; omega
  have HOK := Lib.hid hok
  have HAll := Lib.hid hall
  have HLen := Lib.hid hlen
  have HT := Lib.hid ht
  have IH := Lib.hid IH0
  have TL := Lib.hid (tyEs_len ds (fs.map sigF) vars es)
  clear e1 hat hok hall ht IH0
  have V0 := Lib.hid (simple_6 ds (fs.map sigF) num (tyEs ds (fs.map sigF) vars es))
  have HFO := Lib.hid (conFieldsL_ok HT.out num)
  have hfo := HFO.out.1
  generalize hct : conTypeL ds num = ct at V0
  have HC := Lib.hid hct
  clear hct
  have qp := hp.k K0
  have qv := hv.k K0
  have qe := h.k K0
  by_cases hc0 : 0 < ct
  case neg =>
    have V : Hid (tyE ds (fs.map sigF) vars (.mk 6 num es) = -1) := by show _ = _; rw [tyE_simple ds _ vars num es (by omega), V0.out, if_neg (fun h => hc0 h.1)]
    have hc0' : decide (0 < ct) = false := decide_eq_false hc0
    clear hc0
    go_enter Tryz.func99, Tryz.ntmps99
    go_wp2_with fail
    generalize ((w.alloc (.cells #[.slice a0 n0 c0, .slice a1 n1 c1] 44)).alloc (.cells #[.int .i64 6, .int .i64 num, .slice a n c] 58)) = W at *
    have x0 := R0.cell (i := 0) (by simp)
    have x1 := R0.cell (i := 1) (by simp)
    have y0 := R1.cell (i := 0) (by simp)
    have y1 := R1.cell (i := 1) (by simp)
    have y2 := R1.cell (i := 2) (by simp)
    simp at x0 x1 y0 y1 y2
    have qpd := qp.kd
    have qvd := qv.kd
    go_quiet ((go_at_call 146; exact Calls.quiet_of_same ((specConType0 _ _ _ ds _ _ _ ((Rd.toDecls qp.1).drewN _) hf).mono fun _ _ q => ⟨q.1.trans (by rw [HC.out]), q.2.symm⟩)))
    go_wp2_with fail
    exact fin_ hQ ⟨ret_i V.out.symm, by first | exact K0.drew | exact K0.drewN _⟩
  have hc0' : decide (0 < ct) = true := decide_eq_true hc0
  cases hd : decide (tyEs ds (fs.map sigF) vars es = conFieldsL ds num)
  · have V : Hid (tyE ds (fs.map sigF) vars (.mk 6 num es) = -1) := by show _ = _; rw [tyE_simple ds _ vars num es (by omega), V0.out, if_neg (fun h => of_decide_eq_false hd h.2)]
    have HD := Lib.hid hd
    clear hd hc0
    go_enter Tryz.func99, Tryz.ntmps99
    go_wp2_with fail
    generalize ((w.alloc (.cells #[.slice a0 n0 c0, .slice a1 n1 c1] 44)).alloc (.cells #[.int .i64 6, .int .i64 num, .slice a n c] 58)) = W at *
    have x0 := R0.cell (i := 0) (by simp)
    have x1 := R0.cell (i := 1) (by simp)
    have y0 := R1.cell (i := 0) (by simp)
    have y1 := R1.cell (i := 1) (by simp)
    have y2 := R1.cell (i := 2) (by simp)
    simp at x0 x1 y0 y1 y2
    have qpd := qp.kd
    have qvd := qv.kd
    have qed := qe.kd
    have pc := Ext.refl0 W
    go_region_held3 (fun w' => w'.cell? ⟨w.heap.size, 0, none⟩ = some (.slice a0 n0 c0) ∧ w'.cell? ⟨w.heap.size, 1, none⟩ = some (.slice a1 n1 c1) ∧ w'.cell? ⟨w.heap.size + 1, 1, none⟩ = some (.int .i64 num) ∧ w'.cell? ⟨w.heap.size + 1, 2, none⟩ = some (.slice a n c))
      (first | exact ⟨Keep.at pc x0, Keep.at pc x1, Keep.at pc y1, Keep.at pc y2⟩ | exact ⟨Keep.at (Ext.trans pc (Keep.al _ _)) x0, Keep.at (Ext.trans pc (Keep.al _ _)) x1, Keep.at (Ext.trans pc (Keep.al _ _)) y1, Keep.at (Ext.trans pc (Keep.al _ _)) y2⟩ | go_keep)
      (first
        | (go_at_call 146; refine (specConType0 _ _ _ ds _ _ _ (Rd.toDecls (qpd.k pc).1) hf).mono ?_; rw [HC.out]; rintro e wz ⟨rfl, rfl⟩)
        | (go_at_call 148; refine (specConFields0 _ _ _ ds _ _ _ (Rd.toDecls (qpd.k pc).1) hf).mono ?_; rintro e wa ⟨fa, fm, fc, rfl, hfc, fi, pa⟩; replace pc := Ext.trans pc pa)
        | (go_at_call 147; refine (specAllOf ds fs es IH.out _ _ _ _ _ _ _ _ _ vars _ _ _ _ _ _ _ _ (qpd.k pc) (qvd.k pc) (qed.k pc) ((fi.toRd hfc (by have := fi.1; omega)).t) (by omega) HAll.out).mono ?_; rw [HD.out]; rintro e wb ⟨rfl, pb⟩; replace pc := Ext.trans pc pb))
    have KE := Lib.hid (K0.trans (Keep.dt pc))
    have u0 := Keep.at pc x0
    have u1 := Keep.at pc y1
    have qz := Lib.hid (qp.k (Keep.dt pc))
    clear x0 x1 y0 y1 y2 pc qpd qvd qed qp qv qe
    go_wp2_with fail
    exact fin_ hQ ⟨ret_i V.out.symm, KE.out⟩
  · have V : Hid (tyE ds (fs.map sigF) vars (.mk 6 num es) = ct) := by show _ = _; rw [tyE_simple ds _ vars num es (by omega), V0.out, if_pos ⟨hc0, of_decide_eq_true hd⟩]
    have HD := Lib.hid hd
    clear hd hc0
    go_enter Tryz.func99, Tryz.ntmps99
    go_wp2_with fail
    generalize ((w.alloc (.cells #[.slice a0 n0 c0, .slice a1 n1 c1] 44)).alloc (.cells #[.int .i64 6, .int .i64 num, .slice a n c] 58)) = W at *
    have x0 := R0.cell (i := 0) (by simp)
    have x1 := R0.cell (i := 1) (by simp)
    have y0 := R1.cell (i := 0) (by simp)
    have y1 := R1.cell (i := 1) (by simp)
    have y2 := R1.cell (i := 2) (by simp)
    simp at x0 x1 y0 y1 y2
    have qpd := qp.kd
    have qvd := qv.kd
    have qed := qe.kd
    have pc := Ext.refl0 W
    go_region_held3 (fun w' => w'.cell? ⟨w.heap.size, 0, none⟩ = some (.slice a0 n0 c0) ∧ w'.cell? ⟨w.heap.size, 1, none⟩ = some (.slice a1 n1 c1) ∧ w'.cell? ⟨w.heap.size + 1, 1, none⟩ = some (.int .i64 num) ∧ w'.cell? ⟨w.heap.size + 1, 2, none⟩ = some (.slice a n c))
      (first | exact ⟨Keep.at pc x0, Keep.at pc x1, Keep.at pc y1, Keep.at pc y2⟩ | exact ⟨Keep.at (Ext.trans pc (Keep.al _ _)) x0, Keep.at (Ext.trans pc (Keep.al _ _)) x1, Keep.at (Ext.trans pc (Keep.al _ _)) y1, Keep.at (Ext.trans pc (Keep.al _ _)) y2⟩ | go_keep)
      (first
        | (go_at_call 146; refine (specConType0 _ _ _ ds _ _ _ (Rd.toDecls (qpd.k pc).1) hf).mono ?_; rw [HC.out]; rintro e wz ⟨rfl, rfl⟩)
        | (go_at_call 148; refine (specConFields0 _ _ _ ds _ _ _ (Rd.toDecls (qpd.k pc).1) hf).mono ?_; rintro e wa ⟨fa, fm, fc, rfl, hfc, fi, pa⟩; replace pc := Ext.trans pc pa)
        | (go_at_call 147; refine (specAllOf ds fs es IH.out _ _ _ _ _ _ _ _ _ vars _ _ _ _ _ _ _ _ (qpd.k pc) (qvd.k pc) (qed.k pc) ((fi.toRd hfc (by have := fi.1; omega)).t) (by omega) HAll.out).mono ?_; rw [HD.out]; rintro e wb ⟨rfl, pb⟩; replace pc := Ext.trans pc pb))
    have KE := Lib.hid (K0.trans (Keep.dt pc))
    have u0 := Keep.at pc x0
    have u1 := Keep.at pc y1
    have qz := Lib.hid (qp.k (Keep.dt pc))
    clear x0 x1 y0 y1 y2 pc qpd qvd qed qp qv qe
    go_wp2_with fail
    refine (specConType0 _ _ _ ds _ _ _ (Rd.toDecls qz.out.1) hf).mono ?_
    rw [HC.out]
    rintro e wz ⟨rfl, rfl⟩
    go_wp2_with fail
    exact fin_ hQ ⟨ret_i V.out.symm, KE.out⟩

set_option maxRecDepth 100000 in
set_option maxHeartbeats 4000000 in
theorem specTy_8 (num : Int) (es : List ExprL) (IH0 : ∀ j, j < es.length → TyS ds fs (eAt es j)) : TyS ds fs (.mk 8 num es) := by
  intro a0 n0 c0 a1 n1 c1 av nv cv vars a n c w hp hv h hlen hall
  refine calls_k fun Q hQ => ?_
  change Rd w (fun _ => True) (encExprs es) _ at h
  rw [nE] at hlen
  simp only [ExprL.op, ExprL.num]
  have ht := (sigsOk_parts hok).1
  have hf := Few.of_ok ht
  have hd4 := typesOk_len ht
  have hn0 : n0 ≤ 4 := by have := (decls_at hp.1).1; omega
  have hnv : nv ≤ 1049576 := by have := (ints_at hv).1; omega
  have K0 := (Keep.al w (.cells #[.slice a0 n0 c0, .slice a1 n1 c1] 44)).trans (Keep.al _ (.cells #[.int .i64 8, .int .i64 num, .slice a n c] 58))
  have R0 := (rowOf w #[.slice a0 n0 c0, .slice a1 n1 c1] 44).alloc (.cells #[.int .i64 8, .int .i64 num, .slice a n c] 58)
  have R1 := rowOf (w.alloc (.cells #[.slice a0 n0 c0, .slice a1 n1 c1] 44)) #[.int .i64 8, .int .i64 num, .slice a n c] 58
  simp only [World.size_alloc] at R1
  obtain ⟨e1, hnc, hnm, hat⟩ := exprs_at h
  have HL := Lib.hid e1
  have HA := Lib.hid hat
  have hn30 : n ≤ 262394 := by have := nEs_len es; omega
  have HOK := Lib.hid hok
  have HAll := Lib.hid hall
  have HLen := Lib.hid hlen
  have HT := Lib.hid ht
  have IH := Lib.hid IH0
  have TL := Lib.hid (tyEs_len ds (fs.map sigF) vars es)
  clear e1 hat hok hall ht IH0
  have V := Lib.hid (tyE_8 ds (fs.map sigF) vars num es)
  go_enter Tryz.func99, Tryz.ntmps99
  go_wp2_with fail
  refine (specMatchType ds fs num es IH.out _ _ _ _ _ _ _ _ _ vars _ _ _ _ (hp.k K0) (hv.k K0) (h.k K0) (by omega) HAll.out HOK.out).mono ?_
  rintro e w1 ⟨rfl, p1⟩
  go_wp2_with fail
  exact fin_ hQ ⟨ret_i V.out.symm, K0.trans p1⟩

set_option maxRecDepth 100000 in
set_option maxHeartbeats 4000000 in
theorem specTy_9 (num : Int) (es : List ExprL) (IH0 : ∀ j, j < es.length → TyS ds fs (eAt es j)) : TyS ds fs (.mk 9 num es) := by
  intro a0 n0 c0 a1 n1 c1 av nv cv vars a n c w hp hv h hlen hall
  refine calls_k fun Q hQ => ?_
  change Rd w (fun _ => True) (encExprs es) _ at h
  rw [nE] at hlen
  simp only [ExprL.op, ExprL.num]
  have ht := (sigsOk_parts hok).1
  have hf := Few.of_ok ht
  have hd4 := typesOk_len ht
  have hn0 : n0 ≤ 4 := by have := (decls_at hp.1).1; omega
  have hnv : nv ≤ 1049576 := by have := (ints_at hv).1; omega
  have K0 := (Keep.al w (.cells #[.slice a0 n0 c0, .slice a1 n1 c1] 44)).trans (Keep.al _ (.cells #[.int .i64 9, .int .i64 num, .slice a n c] 58))
  have R0 := (rowOf w #[.slice a0 n0 c0, .slice a1 n1 c1] 44).alloc (.cells #[.int .i64 9, .int .i64 num, .slice a n c] 58)
  have R1 := rowOf (w.alloc (.cells #[.slice a0 n0 c0, .slice a1 n1 c1] 44)) #[.int .i64 9, .int .i64 num, .slice a n c] 58
  simp only [World.size_alloc] at R1
  obtain ⟨e1, hnc, hnm, hat⟩ := exprs_at h
  have HL := Lib.hid e1
  have HA := Lib.hid hat
  have hn30 : n ≤ 262394 := by have := nEs_len es; omega
  have HOK := Lib.hid hok
  have HAll := Lib.hid hall
  have HLen := Lib.hid hlen
  have HT := Lib.hid ht
  have IH := Lib.hid IH0
  have TL := Lib.hid (tyEs_len ds (fs.map sigF) vars es)
  clear e1 hat hok hall ht IH0
  have V : Hid (tyE ds (fs.map sigF) vars (.mk 9 num es) = simpleL ds (fs.map sigF) 9 num (tyEs ds (fs.map sigF) vars es)) := tyE_simple ds _ vars num es (by omega)
  have hfs : fs.length ≤ 4 := by have := (sigsOk_parts HOK.out).2.2.1; simpa using this
  go_enter Tryz.func99, Tryz.ntmps99
  go_wp2_with fail
  refine (specCallType ds fs 9 num es (by omega) IH.out _ _ _ _ _ _ _ _ _ vars _ _ _ _ (hp.k K0) (hv.k K0) (h.k K0) (by omega) HAll.out hd4 hfs).mono ?_
  rintro e w1 ⟨rfl, p1⟩
  go_wp2_with fail
  exact fin_ hQ ⟨ret_i V.out.symm, K0.trans p1⟩

set_option maxRecDepth 100000 in
set_option maxHeartbeats 4000000 in
theorem specTy_10 (num : Int) (es : List ExprL) (IH0 : ∀ j, j < es.length → TyS ds fs (eAt es j)) : TyS ds fs (.mk 10 num es) := by
  intro a0 n0 c0 a1 n1 c1 av nv cv vars a n c w hp hv h hlen hall
  refine calls_k fun Q hQ => ?_
  change Rd w (fun _ => True) (encExprs es) _ at h
  rw [nE] at hlen
  simp only [ExprL.op, ExprL.num]
  have ht := (sigsOk_parts hok).1
  have hf := Few.of_ok ht
  have hd4 := typesOk_len ht
  have hn0 : n0 ≤ 4 := by have := (decls_at hp.1).1; omega
  have hnv : nv ≤ 1049576 := by have := (ints_at hv).1; omega
  have K0 := (Keep.al w (.cells #[.slice a0 n0 c0, .slice a1 n1 c1] 44)).trans (Keep.al _ (.cells #[.int .i64 10, .int .i64 num, .slice a n c] 58))
  have R0 := (rowOf w #[.slice a0 n0 c0, .slice a1 n1 c1] 44).alloc (.cells #[.int .i64 10, .int .i64 num, .slice a n c] 58)
  have R1 := rowOf (w.alloc (.cells #[.slice a0 n0 c0, .slice a1 n1 c1] 44)) #[.int .i64 10, .int .i64 num, .slice a n c] 58
  simp only [World.size_alloc] at R1
  obtain ⟨e1, hnc, hnm, hat⟩ := exprs_at h
  have HL := Lib.hid e1
  have HA := Lib.hid hat
  have hn30 : n ≤ 262394 := by have := nEs_len es; omega
  have HOK := Lib.hid hok
  have HAll := Lib.hid hall
  have HLen := Lib.hid hlen
  have HT := Lib.hid ht
  have IH := Lib.hid IH0
  have TL := Lib.hid (tyEs_len ds (fs.map sigF) vars es)
  clear e1 hat hok hall ht IH0
  have V : Hid (tyE ds (fs.map sigF) vars (.mk 10 num es) = simpleL ds (fs.map sigF) 10 num (tyEs ds (fs.map sigF) vars es)) := tyE_simple ds _ vars num es (by omega)
  have hfs : fs.length ≤ 4 := by have := (sigsOk_parts HOK.out).2.2.1; simpa using this
  go_enter Tryz.func99, Tryz.ntmps99
  go_wp2_with fail
  refine (specCallType ds fs 10 num es (by omega) IH.out _ _ _ _ _ _ _ _ _ vars _ _ _ _ (hp.k K0) (hv.k K0) (h.k K0) (by omega) HAll.out hd4 hfs).mono ?_
  rintro e w1 ⟨rfl, p1⟩
  go_wp2_with fail
  exact fin_ hQ ⟨ret_i V.out.symm, K0.trans p1⟩

set_option maxRecDepth 100000 in
set_option maxHeartbeats 4000000 in
theorem specTy_other (op : Int) (hop : op < 0 ∨ 13 < op) (num : Int) (es : List ExprL) (IH0 : ∀ j, j < es.length → TyS ds fs (eAt es j)) : TyS ds fs (.mk op num es) := by
  intro a0 n0 c0 a1 n1 c1 av nv cv vars a n c w hp hv h hlen hall
  refine calls_k fun Q hQ => ?_
  change Rd w (fun _ => True) (encExprs es) _ at h
  rw [nE] at hlen
  simp only [ExprL.op, ExprL.num]
  have ht := (sigsOk_parts hok).1
  have hf := Few.of_ok ht
  have hd4 := typesOk_len ht
  have hn0 : n0 ≤ 4 := by have := (decls_at hp.1).1; omega
  have hnv : nv ≤ 1049576 := by have := (ints_at hv).1; omega
  have K0 := (Keep.al w (.cells #[.slice a0 n0 c0, .slice a1 n1 c1] 44)).trans (Keep.al _ (.cells #[.int .i64 op, .int .i64 num, .slice a n c] 58))
  have R0 := (rowOf w #[.slice a0 n0 c0, .slice a1 n1 c1] 44).alloc (.cells #[.int .i64 op, .int .i64 num, .slice a n c] 58)
  have R1 := rowOf (w.alloc (.cells #[.slice a0 n0 c0, .slice a1 n1 c1] 44)) #[.int .i64 op, .int .i64 num, .slice a n c] 58
  simp only [World.size_alloc] at R1
  obtain ⟨e1, hnc, hnm, hat⟩ := exprs_at h
  have HL := Lib.hid e1
  have HA := Lib.hid hat
  have hn30 : n ≤ 262394 := by have := nEs_len es; omega
  have HOK := Lib.hid hok
  have HAll := Lib.hid hall
  have HLen := Lib.hid hlen
  have HT := Lib.hid ht
  have IH := Lib.hid IH0
  have TL := Lib.hid (tyEs_len ds (fs.map sigF) vars es)
  clear e1 hat hok hall ht IH0
  have V : Hid (tyE ds (fs.map sigF) vars (.mk op num es) = -1) := by show _ = _; rw [tyE_simple ds _ vars num es (by omega), simple_other ds _ num _ hop]
  have o0 : (op == 0) = false := by simp; omega
  have o1 : (op == 1) = false := by simp; omega
  have o2 : (op == 2) = false := by simp; omega
  have o3 : (op == 3) = false := by simp; omega
  have o4 : (op == 4) = false := by simp; omega
  have o5 : (op == 5) = false := by simp; omega
  have o6 : (op == 6) = false := by simp; omega
  have o7 : (op == 7) = false := by simp; omega
  have o8 : (op == 8) = false := by simp; omega
  have o9 : (op == 9) = false := by simp; omega
  have o10 : (op == 10) = false := by simp; omega
  have o11 : (op == 11) = false := by simp; omega
  have o12 : (op == 12) = false := by simp; omega
  have o13 : (op == 13) = false := by simp; omega
  clear hop
  go_enter Tryz.func99, Tryz.ntmps99
  go_wp2_with fail
  exact fin_ hQ ⟨ret_i V.out.symm, K0⟩
end
end Go.Proofs.YtkapldpmjkdmcaaGreat
