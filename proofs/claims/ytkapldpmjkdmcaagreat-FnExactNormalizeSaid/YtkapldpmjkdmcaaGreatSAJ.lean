/- The program's types of expressions: all kids with more variables. -/
import Derived.Test.YtkapldpmjkdmcaaGreatSAI
import Derived.Test.YtkapldpmjkdmcaaGreatSAE
import Derived.Test.YtkapldpmjkdmcaaGreatSAG
import Derived.Test.YtkapldpmjkdmcaaGreatSAF
namespace Go.Proofs.YtkapldpmjkdmcaaGreat
open Go.RowKit

def fitN (_ num : Int) : Prop := -9223372036854775808 ≤ num ∧ num ≤ 9223372036854775807
/-- What typeOf of the program does for one expression. -/
def TyI (ds : List DeclL) (sg : List SigL) (e : ExprL) : Prop := ∀ (a0 : Option Addr) (n0 c0 : Nat) (a1 : Option Addr) (n1 c1 : Nat) (v : Value) (vars : List Int) (a : Option Addr) (n c : Nat) (w : World) (base : Nat) (D : Nat → Prop),
  SR w D ds sg a0 n0 c0 a1 n1 c1 → VR w base v vars → Rd w D (encExprs e.kids) (.slice a n c) → (∀ q, D q → q < base) → base ≤ w.heap.size → vars.length + 4 * nE e ≤ 1049576 → allT ds.length vars = true →
  Calls Tryz.prog 117 #[.agg #[.slice a0 n0 c0, .slice a1 n1 c1], v, .agg #[.int .i64 e.op, .int .i64 e.num, .slice a n c]] w fun r w' => r = .returned (.int .i64 (tyE ds sg vars e)) ∧ VR w' base v vars ∧ Ext (fun r => v.ownBlock = some r) w w'
theorem VR.mono {w : World} {base base' : Nat} {v : Value} {xs : List Int} (h : VR w base v xs) (hb : base' ≤ base) : VR w base' v xs := by
  obtain ⟨h1, h2⟩ := h
  refine ⟨h1, ?_⟩
  rcases h2 with h2 | ⟨g, cap, cur, e, hb', rest⟩
  · exact .inl h2
  · exact .inr ⟨g, cap, cur, e, Nat.le_trans hb hb', rest⟩
theorem VR.ints {w : World} {base : Nat} {a : Option Addr} {n c : Nat} {xs : List Int} (h : VR w base (.slice a n c) xs) : n = xs.length ∧ IntsL w (fun _ => True) a n xs := by
  obtain ⟨a', c', e, _, ho⟩ := h.slice
  injection e with e1 e2 e3
  subst e1 e2 e3
  exact ⟨rfl, ho.read.mono (fun _ _ => trivial)⟩

section
variable (ds : List DeclL) (sg : List SigL)

set_option maxRecDepth 100000 in
set_option maxHeartbeats 4000000 in
theorem implOneType (es : List ExprL) (IH0 : ∀ j, j < es.length → TyI ds sg (eAt es j)) (a0 : Option Addr) (n0 c0 : Nat) (a1 : Option Addr) (n1 c1 : Nat) (av : Option Addr) (nv cv : Nat) (vars : List Int) (a : Option Addr) (n c : Nat) (am : Option Addr) (nm cm : Nat) (fs : List (List Int)) (w : World) (base : Nat) (D : Nat → Prop)
    (hp : SR w D ds sg a0 n0 c0 a1 n1 c1) (hv : VR w base (.slice av nv cv) vars) (h : Rd w D (encExprs es) (.slice a n c)) (hD : ∀ q, D q → q < base) (hb : base ≤ w.heap.size) (hm : Rd w (fun _ => True) (encCons fs) (.slice am nm cm)) (hfl : fs.length = es.length)
    (hlen : vars.length + 4 + 4 * nEs es ≤ 1049576) (hall : allT ds.length vars = true) (hfs : ∀ i, i < fs.length → (cAt fs i).length ≤ 3 ∧ allT ds.length (cAt fs i) = true) :
    Calls Tryz.prog 161 #[.agg #[.slice a0 n0 c0, .slice a1 n1 c1], .slice av nv cv, .slice a n c, .slice am nm cm] w fun r w' => r = .returned (.int .i64 (oneT (tyArms ds sg vars es fs))) ∧ Keep w w' := by
  refine calls_k fun Q hQ => ?_
  have K0 := Keep.al w (.cells #[.slice a0 n0 c0, .slice a1 n1 c1] 130)
  have R0 := rowOf w #[.slice a0 n0 c0, .slice a1 n1 c1] 130
  obtain ⟨e1, hnc, hnm, hat⟩ := exprs_at h
  obtain ⟨e2, hmc, hmm, hmat⟩ := cons_at hm
  have HL := Lib.hid e1
  have HM := Lib.hid e2
  have HA := Lib.hid hat
  have HMA := Lib.hid hmat
  have IH := Lib.hid IH0
  have hn30 : n ≤ 262394 := by have := nEs_len es; omega
  have hnm2 : nm = n := by omega
  have HLen := Lib.hid hlen
  have HAll := Lib.hid hall
  have HFS := Lib.hid hfs
  have HFL := Lib.hid hfl
  have HD := Lib.hid hD
  have TL := Lib.hid (tyArms_len ds sg vars es fs)
  have TA := Lib.hid (fun i (hi : i < es.length) => tyArms_at ds sg vars (fs := fs) hi)
  have hvn : nv = vars.length := hv.ints.1
  have HVN := Lib.hid hvn
  have hnv : nv ≤ 1049576 := by omega
  subst hnm2
  clear e1 e2 hat hmat IH0 hlen hall hfs hD hvn hfl h hm
  go_enter Tryz.func161, Tryz.ntmps161
  go_wp2_with fail
  go_loopw [9, 15] (fun rv iv wr => ∃ (j : Nat) (r : Int), j ≤ nm ∧ iv = .int .i64 j ∧ rv = .int .i64 r ∧ Hid (j = 0 → r = -1) ∧ Hid (0 < j → 0 ≤ r ∧ ∀ l, l < j → iAt (tyArms ds sg vars es fs) l = r) ∧ Hid (Keep (w.alloc (.cells #[.slice a0 n0 c0, .slice a1 n1 c1] 130)) wr)) (fun _ iv _ => nm - (intOf iv).toNat)
  case atStart => exact ⟨0, -1, Nat.zero_le _, rfl, rfl, fun _ => rfl, fun h => absurd h (by omega), Ext.refl _ _⟩
  case round =>
    obtain ⟨j, r, hj, rfl, rfl, hI0, hI, hK⟩ := hrel
    by_cases hlt : j < nm
    · have HJ : Hid (j < es.length) := by have := HL.out; show _ < _; omega
      have KW := Lib.hid (K0.trans hK.out)
      obtain ⟨b, o, rfl, hd, a2, n2, c2, d0, d1, d2, r2⟩ := HA.out j hlt
      obtain ⟨bm, om, rfl, hdm, fa, fm, fc, dm, rm⟩ := HMA.out j hlt
      have KB := Lib.hid (Keep.al wr (.cells #[.int .i64 (eAt es j).op, .int .i64 (eAt es j).num, .slice a2 n2 c2] 58))
      have g0 := (KW.out.cell (World.block_lt_of_cell? w _ d0) (fun h => h)).trans d0
      have g1 := (KW.out.cell (World.block_lt_of_cell? w _ d1) (fun h => h)).trans d1
      have g2 := (KW.out.cell (World.block_lt_of_cell? w _ d2) (fun h => h)).trans d2
      have KX := Lib.hid (KW.out.trans KB.out)
      have gm := (KX.out.cell (World.block_lt_of_cell? w _ dm) (fun h => h)).trans dm
      have RS := row_ext R0 (hK.out.trans KB.out) (fun h => h)
      have RB := rowOf wr #[.int .i64 (eAt es j).op, .int .i64 (eAt es j).num, .slice a2 n2 c2] 58
      have hbw : base ≤ wr.heap.size := Nat.le_trans hb KW.out.size
      have HFO := Lib.hid (HFS.out j (by have := HFL.out; have := HJ.out; omega))
      have hfm : fm = (cAt fs j).length := (ints_at rm).1.symm
      have HFM := Lib.hid hfm
      have hfm3 : fm ≤ 3 := by have := HFO.out.1; omega
      have hbb : (vars ++ cAt fs j).length + 4 * nE (eAt es j) ≤ 1049576 := by have := nE_le es HJ.out; have := HLen.out; have := HFO.out.1; rw [List.length_append]; omega
      have HZ := Lib.hid (TA.out j HJ.out)
      obtain ⟨z, hz⟩ : ∃ z, tyE ds sg (vars ++ cAt fs j) (eAt es j) = z := ⟨_, rfl⟩
      have HZ2 := Lib.hid hz
      have qp := Lib.hid (hp.k KX.out)
      have qv := Lib.hid (hv.k KX.out)
      have qe := Lib.hid (r2.k KX.out)
      have qm := Lib.hid ((Rd.toInts rm).ext KX.out (fun _ _ h => h))
      clear d0 d1 d2 dm r2 rm hz hfm
      go_wp2_with fail
      generalize hW : wr.alloc (.cells #[.int .i64 (eAt es j).op, .int .i64 (eAt es j).num, .slice a2 n2 c2] 58) = W at *
      have x0 := RS.cell (i := 0) (by simp)
      have x1 := RS.cell (i := 1) (by simp)
      have b0 := RB.cell (i := 0) (by simp)
      have b1 := RB.cell (i := 1) (by simp)
      have b2 := RB.cell (i := 2) (by simp)
      simp at x0 x1 b0 b1 b2
      have hWs : wr.heap.size + 1 = W.heap.size := by rw [← hW]; simp
      have HWS := Lib.hid hWs
      have pc := Ext.refl0 W
      clear hW g0 g1 g2 hWs
      go_region_held3 (fun w' => w'.cell? ⟨w.heap.size, 0, none⟩ = some (.slice a0 n0 c0) ∧ w'.cell? ⟨w.heap.size, 1, none⟩ = some (.slice a1 n1 c1) ∧ w'.cell? ⟨bm, om + j, none⟩ = some (.slice fa fm fc) ∧ w'.cell? ⟨wr.heap.size, 0, none⟩ = some (.int .i64 (eAt es j).op) ∧ w'.cell? ⟨wr.heap.size, 1, none⟩ = some (.int .i64 (eAt es j).num) ∧ w'.cell? ⟨wr.heap.size, 2, none⟩ = some (.slice a2 n2 c2))
        (first | exact ⟨Keep.at pc x0, Keep.at pc x1, Keep.at pc gm, Keep.at pc b0, Keep.at pc b1, Keep.at pc b2⟩ | exact ⟨Keep.at (Ext.trans pc (Keep.al _ _)) x0, Keep.at (Ext.trans pc (Keep.al _ _)) x1, Keep.at (Ext.trans pc (Keep.al _ _)) gm, Keep.at (Ext.trans pc (Keep.al _ _)) b0, Keep.at (Ext.trans pc (Keep.al _ _)) b1, Keep.at (Ext.trans pc (Keep.al _ _)) b2⟩ | go_keep)
        (first
          | (go_at_call 202; have pl := Keep.al W.drew (.cells #[.slice av nv cv, .slice fa fm fc] 52); replace pc := Ext.trans pc pl; refine (concatTwo _ _ _ _ _ vars _ _ _ _ (cAt fs j) _ _ (boxk (Ext.refl _ _) 0) (boxk (Ext.refl _ _) 1) ((VR.k qv.out (Keep.dt pc)).ints.2) (qm.out.ext (Keep.dt pc) (fun _ _ h => h)) (by omega) (by omega)).mono ?_; rintro e wb ⟨v2, rfl, hv2, pb⟩; have hz2 := pc.size; have hz3 := pl.size; replace pc := Ext.trans pc pb)
          | (go_at_call 117; refine (IH.out j HJ.out _ _ _ _ _ _ v2 (vars ++ cAt fs j) _ _ _ _ base D (qp.out.k (Keep.dt pc)) (hv2.mono (by simp; have := HWS.out; omega)) (qe.out.k (Keep.dt pc)) HD.out (by have h1 := pc.size; change W.heap.size ≤ _ at h1; have := HWS.out; omega) hbb (allT_append HAll.out HFO.out.2)).mono ?_; rw [HZ2.out]; rintro e wc ⟨rfl, _, xc⟩; have hv3 := Lib.hid hv2.lt; replace pc := Ext.then_ pc xc (fun i hi e => by have h1 := (hv3.out i e).1; simp at h1; change i < W.heap.size at hi; omega)))
      have KN := Lib.hid ((hK.out.trans KB.out).trans (Keep.dt pc))
      have KE := Lib.hid (KX.out.trans (Keep.dt pc))
      have hTj : Hid (iAt (tyArms ds sg vars es fs) j = z) := by show _ = _; rw [HZ.out, HZ2.out]
      clear pc x0 x1 b0 b1 b2 gm RB RS
      by_cases hz0 : 0 ≤ z
      case neg =>
        have V : Hid (oneT (tyArms ds sg vars es fs) = -1) := oneT_neg (i := j) (by rw [TL.out]; exact HJ.out) (.inr (by rw [hTj.out]; omega))
        go_wp2_with fail
        exact fin_ hQ ⟨ret_i V.out.symm, KE.out⟩
      rcases Nat.eq_zero_or_pos j with hj0 | hj0
      · subst hj0
        go_wp2_with fail
        go_roundw
        case rel => exact ⟨1, z, by omega, by go_num, rfl, fun h => absurd h (by omega), fun _ => ⟨hz0, fun l hl => by
          have hl0 : l = 0 := by omega
          rw [hl0]; exact hTj.out⟩, KN⟩
        case measure => simp [intOf]; omega
      · by_cases hzr : z = r
        · have hzr' : (z != r) = false := by simpa using hzr
          have HZR := Lib.hid hzr
          clear hzr
          go_wp2_with fail
          go_roundw
          case rel => exact ⟨j + 1, z, by omega, by go_num, rfl, fun h => absurd h (by omega), fun _ => ⟨hz0, fun l hl => by
            rcases Nat.lt_succ_iff_lt_or_eq.1 hl with h | h
            · rw [HZR.out]; exact (hI.out hj0).2 l h
            · rw [h]; exact hTj.out⟩, KN⟩
          case measure => simp [intOf]; omega
        · have hzr' : (z != r) = true := by simpa using hzr
          have V : Hid (oneT (tyArms ds sg vars es fs) = -1) := oneT_neg (i := j) (by rw [TL.out]; exact HJ.out) (.inl (by rw [hTj.out, (hI.out hj0).2 0 hj0]; exact hzr))
          clear hzr
          go_wp2_with fail
          exact fin_ hQ ⟨ret_i V.out.symm, KE.out⟩
    · have V : Hid (oneT (tyArms ds sg vars es fs) = r) := by
        show _ = _
        rcases Nat.eq_zero_or_pos j with hj0 | hj0
        · have h0 : tyArms ds sg vars es fs = [] := List.eq_nil_of_length_eq_zero (by rw [TL.out]; have := HL.out; omega)
          rw [h0, hI0.out hj0]; rfl
        · exact oneT_same (by rw [TL.out]; have := HL.out; omega) (by have := (hI.out hj0).1; omega) (fun i hi => (hI.out hj0).2 i (by rw [TL.out] at hi; have := HL.out; omega))
      go_wp2_with fail
      exact fin_ hQ ⟨ret_i V.out.symm, K0.trans hK.out⟩
end
end Go.Proofs.YtkapldpmjkdmcaaGreat
/- The program's types of expressions: variables, let. -/
namespace Go.Proofs.YtkapldpmjkdmcaaGreat
open Go.RowKit

theorem Ext.atd {S : Nat → Prop} {w w' : World} (k : Ext S w.drew w') {p : Addr} (hs : ¬ S p.block) {v : Value} (h : w.cell? p = some v) : w'.cell? p = some v :=
  (k.cell (World.block_lt_of_cell? w.drew _ h) hs).trans h
theorem AppV.grow {w w' w'' : World} {base : Nat} {v v' : Value} {xs : List Int} {y : Int} (h : AppV w base v xs y v' w') (hx : Ext (fun r => v'.ownBlock = some r) w' w'') : Ext (fun r => v.ownBlock = some r) w w'' :=
  h.ext.then_ hx (fun i hi e => by
    rcases h.blk i e with h1 | h1
    · exact h1
    · omega)
theorem Ext.dt {S : Nat → Prop} {w w' : World} (h : Ext S w.drew w') : Ext S w w' := (Ext.refl _ w).drew.trans h

section
variable (ds : List DeclL) (sg : List SigL) (hok : sigsOk ds sg = true)
include hok

set_option maxRecDepth 100000 in
set_option maxHeartbeats 4000000 in
theorem implTy_12 (num : Int) (hnum : fitN 12 num) (es : List ExprL) (IH0 : ∀ j, j < es.length → TyI ds sg (eAt es j)) : TyI ds sg (.mk 12 num es) := by
  intro a0 n0 c0 a1 n1 c1 v vars a n c w base D hp hv h hD hb hlen hall
  refine calls_k fun Q hQ => ?_
  change Rd w D (encExprs es) _ at h
  rw [nE] at hlen
  simp only [ExprL.op, ExprL.num]
  obtain ⟨av, cv, rfl, hvc, hvo⟩ := hv.slice
  have VBL := Lib.hid hv.lt
  have ht := (sigsOk_parts hok).1
  have hf := Few.of_ok ht
  have hn0 : n0 ≤ 4 := by have := (decls_at hp.1).1; have := typesOk_len ht; omega
  have hvl : vars.length ≤ 1049576 := by omega
  have K0 := (Keep.al w (.cells #[.slice a0 n0 c0, .slice a1 n1 c1] 130)).trans (Keep.al _ (.cells #[.int .i64 12, .int .i64 num, .slice a n c] 58))
  have R0 := (rowOf w #[.slice a0 n0 c0, .slice a1 n1 c1] 130).alloc (.cells #[.int .i64 12, .int .i64 num, .slice a n c] 58)
  have R1 := rowOf (w.alloc (.cells #[.slice a0 n0 c0, .slice a1 n1 c1] 130)) #[.int .i64 12, .int .i64 num, .slice a n c] 58
  simp only [World.size_alloc] at R1
  have hv0 := hv.k K0
  have KT := Lib.hid (Keep.to (S := fun r => (Value.slice av vars.length cv).ownBlock = some r) K0)
  obtain ⟨e1, hnc, hnm, hat⟩ := exprs_at h
  have HL := Lib.hid e1
  have HA := Lib.hid hat
  have hn30 : n ≤ 262394 := by have := nEs_len es; omega
  have HOK := Lib.hid hok
  have HAll := Lib.hid hall
  have HLen := Lib.hid hlen
  have HT := Lib.hid ht
  have HD := Lib.hid hD
  have IH := Lib.hid IH0
  have HV := Lib.hid hv
  have HVO := Lib.hid hvo
  have HNUM := Lib.hid hnum
  clear e1 hat hok hall ht IH0 hD hv hvo hnum
  have V0 := Lib.hid (tyE_12 ds sg vars num es)
  rcases Nat.eq_zero_or_pos n with h0 | h0
  · subst h0
    by_cases hr : 0 ≤ num ∧ num < (vars.length : Int)
    · obtain ⟨k, rfl⟩ : ∃ k : Nat, num = (k : Int) := ⟨num.toNat, by omega⟩
      have hk : k < vars.length := by omega
      obtain ⟨b, o, rfl, _, d0⟩ := HV.out.ints.2.2 (by omega)
      have d1 := d0 k hk
      have V : Hid (tyE ds sg vars (.mk 12 (k : Int) es) = iAt vars k) := by show _ = _; rw [V0.out, if_pos ⟨HL.out, by omega, by omega⟩]; rfl
      have g0 := (K0.cell (World.block_lt_of_cell? w _ d1) (fun h => h)).trans d1
      have h00 : decide ((0 : Int) > 0) = false := rfl
      clear hr d0 d1
      go_enter Tryz.func117, Tryz.ntmps117
      go_wp2_with fail
      exact fin_ hQ ⟨ret_i V.out.symm, hv0, KT.out⟩
    · have V : Hid (tyE ds sg vars (.mk 12 num es) = -1) := by show _ = _; rw [V0.out, if_neg (fun h => hr h.2)]
      by_cases h1 : num < 0
      · clear hr
        go_enter Tryz.func117, Tryz.ntmps117
        go_wp2_with fail
        exact fin_ hQ ⟨ret_i V.out.symm, hv0, KT.out⟩
      · have h2 : (vars.length : Int) ≤ num := by omega
        clear hr
        go_enter Tryz.func117, Tryz.ntmps117
        go_wp2_with fail
        exact fin_ hQ ⟨ret_i V.out.symm, hv0, KT.out⟩
  · have V : Hid (tyE ds sg vars (.mk 12 num es) = -1) := by show _ = _; rw [V0.out, if_neg (fun h => by have := HL.out; omega)]
    go_enter Tryz.func117, Tryz.ntmps117
    go_wp2_with fail
    exact fin_ hQ ⟨ret_i V.out.symm, hv0, KT.out⟩

set_option maxRecDepth 100000 in
set_option maxHeartbeats 4000000 in
theorem implTy_13 (num : Int) (hnum : fitN 13 num) (es : List ExprL) (IH0 : ∀ j, j < es.length → TyI ds sg (eAt es j)) : TyI ds sg (.mk 13 num es) := by
  intro a0 n0 c0 a1 n1 c1 v vars a n c w base D hp hv h hD hb hlen hall
  refine calls_k fun Q hQ => ?_
  change Rd w D (encExprs es) _ at h
  rw [nE] at hlen
  simp only [ExprL.op, ExprL.num]
  obtain ⟨av, cv, rfl, hvc, hvo⟩ := hv.slice
  have VBL := Lib.hid hv.lt
  have ht := (sigsOk_parts hok).1
  have hf := Few.of_ok ht
  have hn0 : n0 ≤ 4 := by have := (decls_at hp.1).1; have := typesOk_len ht; omega
  have hvl : vars.length ≤ 1049576 := by omega
  have K0 := (Keep.al w (.cells #[.slice a0 n0 c0, .slice a1 n1 c1] 130)).trans (Keep.al _ (.cells #[.int .i64 13, .int .i64 num, .slice a n c] 58))
  have R0 := (rowOf w #[.slice a0 n0 c0, .slice a1 n1 c1] 130).alloc (.cells #[.int .i64 13, .int .i64 num, .slice a n c] 58)
  have R1 := rowOf (w.alloc (.cells #[.slice a0 n0 c0, .slice a1 n1 c1] 130)) #[.int .i64 13, .int .i64 num, .slice a n c] 58
  simp only [World.size_alloc] at R1
  have hv0 := hv.k K0
  have KT := Lib.hid (Keep.to (S := fun r => (Value.slice av vars.length cv).ownBlock = some r) K0)
  obtain ⟨e1, hnc, hnm, hat⟩ := exprs_at h
  have HL := Lib.hid e1
  have HA := Lib.hid hat
  have hn30 : n ≤ 262394 := by have := nEs_len es; omega
  have HOK := Lib.hid hok
  have HAll := Lib.hid hall
  have HLen := Lib.hid hlen
  have HT := Lib.hid ht
  have HD := Lib.hid hD
  have IH := Lib.hid IH0
  have HV := Lib.hid hv
  have HVO := Lib.hid hvo
  have HNUM := Lib.hid hnum
  clear e1 hat hok hall ht IH0 hD hv hvo hnum
  have V0 := Lib.hid (tyE_13 ds sg vars num es)
  by_cases hn : n = 2
  case neg =>
    have V : Hid (tyE ds sg vars (.mk 13 num es) = -1) := by show _ = _; rw [V0.out, if_neg (fun h => hn (by rw [← HL.out]; exact h.2))]
    have hz' : ((n : Int) != 2) = true := by simp; omega
    clear hn
    go_enter Tryz.func117, Tryz.ntmps117
    go_wp2_with fail
    exact fin_ hQ ⟨ret_i V.out.symm, hv0, KT.out⟩
  subst hn
  by_cases hz : num = 0
  case neg =>
    have V : Hid (tyE ds sg vars (.mk 13 num es) = -1) := by show _ = _; rw [V0.out, if_neg (fun h => hz h.1)]
    have hz' : (num != 0) = true := by simpa using hz
    clear hz
    go_enter Tryz.func117, Tryz.ntmps117
    go_wp2_with fail
    exact fin_ hQ ⟨ret_i V.out.symm, hv0, KT.out⟩
  subst hz
  obtain ⟨b, o, rfl, hDb, _⟩ := HA.out 0 (by omega)
  have HDB := Lib.hid hDb
  clear hDb
  have ns0 : ¬ (Value.slice av vars.length cv).ownBlock = some w.heap.size := fun e => by have := (VBL.out _ e).2; omega
  have ns1 : ¬ (Value.slice av vars.length cv).ownBlock = some (w.heap.size + 1) := fun e => by have := (VBL.out _ e).2; omega
  have nsb : ¬ (Value.slice av vars.length cv).ownBlock = some b := fun e => by have := (VBL.out _ e).1; have := HD.out _ HDB.out; omega
  have nsD : Hid (∀ q, D q → ¬ (Value.slice av vars.length cv).ownBlock = some q) := fun q hq e => by have := (VBL.out _ e).1; have := HD.out _ hq; omega
  have HE0 : Hid (0 < es.length) := by have := HL.out; show _ < _; omega
  have HB0 : Hid (vars.length + 4 * nE (eAt es 0) ≤ 1049576) := by have := nE_le es HE0.out; have := HLen.out; show _ ≤ _; omega
  have HE1 : Hid (1 < es.length) := by have := HL.out; show _ < _; omega
  have HB1 : Hid (vars.length + 4 * nE (eAt es 1) ≤ 1049576) := by have := nE_le es HE1.out; have := HLen.out; show _ ≤ _; omega
  obtain ⟨t, hz0⟩ : ∃ t, tyE ds sg vars (eAt es 0) = t := ⟨_, rfl⟩
  have HZ0 := Lib.hid hz0
  clear hz0
  have V1 : Hid (tyE ds sg vars (.mk 13 0 es) = if 0 ≤ t then tyE ds sg (vars ++ [t]) (eAt es 1) else -1) := by show _ = _; rw [V0.out, if_pos ⟨rfl, HL.out⟩, tyLet_at _ _ _ HL.out, HZ0.out]
  have TR := Lib.hid (ty_range HOK.out (eAt es 0) HAll.out)
  by_cases ht : 0 ≤ t
  case neg =>
    have V : Hid (tyE ds sg vars (.mk 13 0 es) = -1) := by show _ = _; rw [V1.out, if_neg ht]
    go_enter Tryz.func117, Tryz.ntmps117
    go_wp2_with fail
    generalize hW : ((w.alloc (.cells #[.slice a0 n0 c0, .slice a1 n1 c1] 130)).alloc (.cells #[.int .i64 13, .int .i64 0, .slice (some ⟨b, o, none⟩) 2 c] 58)) = W at *
    have x0 := R0.cell (i := 0) (by simp)
    have x1 := R0.cell (i := 1) (by simp)
    have y0 := R1.cell (i := 0) (by simp)
    have y1 := R1.cell (i := 1) (by simp)
    have y2 := R1.cell (i := 2) (by simp)
    simp at x0 x1 y0 y1 y2
    have hWs : w.heap.size + 2 = W.heap.size := by rw [← hW]; simp
    clear hW
    have qp := hp.ext KT.out nsD.out
    have qpd := qp.k (w' := W.drew) (Ext.refl (fun _ => False) W).drew
    have hvd := hv0.k (w' := W.drew) (Ext.refl (fun _ => False) W).drew
    have hbd : base ≤ W.drew.heap.size := by show base ≤ W.heap.size; omega
    obtain ⟨b', o', e', _, ak, nk, ck, dk0, dk1, dk2, rk⟩ := HA.out 0 (by omega)
    injection e' with e'
    injection e' with e' e''
    subst e' e''
    have k0 := (KT.out.cell (World.block_lt_of_cell? _ _ dk0) nsb).trans dk0
    have k1 := (KT.out.cell (World.block_lt_of_cell? _ _ dk1) nsb).trans dk1
    have k2 := (KT.out.cell (World.block_lt_of_cell? _ _ dk2) nsb).trans dk2
    simp only [Nat.zero_mul, Nat.add_zero] at k0 k1 k2
    have qk := rk.ext KT.out nsD.out
    clear dk0 dk1 dk2 rk
    have qkd := qk.k (w' := W.drew) (Ext.refl (fun _ => False) W).drew
    have pc : Ext (fun r => (Value.slice av vars.length cv).ownBlock = some r) W.drew W.drew := Ext.refl _ _
    go_region_held3 (fun w' => w'.cell? ⟨w.heap.size, 0, none⟩ = some (.slice a0 n0 c0) ∧ w'.cell? ⟨w.heap.size, 1, none⟩ = some (.slice a1 n1 c1) ∧ w'.cell? ⟨w.heap.size + 1, 2, none⟩ = some (.slice (some ⟨b, o, none⟩) 2 c) ∧ w'.cell? ⟨b, o, none⟩ = some (.int .i64 (eAt es 0).op) ∧ w'.cell? ⟨b, o + 1, none⟩ = some (.int .i64 (eAt es 0).num) ∧ w'.cell? ⟨b, o + 2, none⟩ = some (.slice ak nk ck))
      (first | exact ⟨Ext.atd pc ns0 x0, Ext.atd pc ns0 x1, Ext.atd pc ns1 y2, Ext.atd pc nsb k0, Ext.atd pc nsb k1, Ext.atd pc nsb k2⟩ | exact ⟨Ext.atd (Ext.trans pc (Keep.to (Keep.al _ _))) ns0 x0, Ext.atd (Ext.trans pc (Keep.to (Keep.al _ _))) ns0 x1, Ext.atd (Ext.trans pc (Keep.to (Keep.al _ _))) ns1 y2, Ext.atd (Ext.trans pc (Keep.to (Keep.al _ _))) nsb k0, Ext.atd (Ext.trans pc (Keep.to (Keep.al _ _))) nsb k1, Ext.atd (Ext.trans pc (Keep.to (Keep.al _ _))) nsb k2⟩ | go_keep)
      (first
        | (go_at_call 117; refine (IH.out 0 HE0.out _ _ _ _ _ _ _ vars _ _ _ _ base D qpd hvd qkd HD.out hbd HB0.out HAll.out).mono ?_; rw [HZ0.out]; rintro e w2 ⟨rfl, hv2, x2⟩; replace pc := Ext.trans pc x2))
    have PW := Lib.hid (Ext.dt pc)
    have KE := Lib.hid (KT.out.trans PW.out)
    have HV2 := Lib.hid hv2
    clear pc x2 hv2 qk qkd qpd hvd k0 k1 k2
    go_wp2_with fail
    exact fin_ hQ ⟨ret_i V.out.symm, HV2.out, KE.out⟩
  obtain ⟨u, hz1⟩ : ∃ u, tyE ds sg (vars ++ [t]) (eAt es 1) = u := ⟨_, rfl⟩
  have HZ1 := Lib.hid hz1
  clear hz1
  have V : Hid (tyE ds sg vars (.mk 13 0 es) = u) := by show _ = _; rw [V1.out, if_pos ht, HZ1.out]
  have HT1 : Hid (isT ds.length t = true) := by
    rcases TR.out with h | h
    · rw [HZ0.out] at h; omega
    · rw [HZ0.out] at h; exact h
  have HB1' : Hid ((vars ++ [t]).length + 4 * nE (eAt es 1) ≤ 1049576) := by
    have h1 := nE_two HL.out
    have h2 := nE_pos (eAt es 0)
    have := HLen.out
    show _ ≤ _
    rw [List.length_append, List.length_singleton]
    omega
  go_enter Tryz.func117, Tryz.ntmps117
  go_wp2_with fail
  generalize hW : ((w.alloc (.cells #[.slice a0 n0 c0, .slice a1 n1 c1] 130)).alloc (.cells #[.int .i64 13, .int .i64 0, .slice (some ⟨b, o, none⟩) 2 c] 58)) = W at *
  have x0 := R0.cell (i := 0) (by simp)
  have x1 := R0.cell (i := 1) (by simp)
  have y0 := R1.cell (i := 0) (by simp)
  have y1 := R1.cell (i := 1) (by simp)
  have y2 := R1.cell (i := 2) (by simp)
  simp at x0 x1 y0 y1 y2
  have hWs : w.heap.size + 2 = W.heap.size := by rw [← hW]; simp
  clear hW
  have qp := hp.ext KT.out nsD.out
  have qpd := qp.k (w' := W.drew) (Ext.refl (fun _ => False) W).drew
  have hvd := hv0.k (w' := W.drew) (Ext.refl (fun _ => False) W).drew
  have hbd : base ≤ W.drew.heap.size := by show base ≤ W.heap.size; omega
  obtain ⟨b', o', e', _, ak, nk, ck, dk0, dk1, dk2, rk⟩ := HA.out 0 (by omega)
  injection e' with e'
  injection e' with e' e''
  subst e' e''
  have k0 := (KT.out.cell (World.block_lt_of_cell? _ _ dk0) nsb).trans dk0
  have k1 := (KT.out.cell (World.block_lt_of_cell? _ _ dk1) nsb).trans dk1
  have k2 := (KT.out.cell (World.block_lt_of_cell? _ _ dk2) nsb).trans dk2
  simp only [Nat.zero_mul, Nat.add_zero] at k0 k1 k2
  have qk := rk.ext KT.out nsD.out
  clear dk0 dk1 dk2 rk
  have qkd := qk.k (w' := W.drew) (Ext.refl (fun _ => False) W).drew
  have pc : Ext (fun r => (Value.slice av vars.length cv).ownBlock = some r) W.drew W.drew := Ext.refl _ _
  go_region_held3 (fun w' => w'.cell? ⟨w.heap.size, 0, none⟩ = some (.slice a0 n0 c0) ∧ w'.cell? ⟨w.heap.size, 1, none⟩ = some (.slice a1 n1 c1) ∧ w'.cell? ⟨w.heap.size + 1, 2, none⟩ = some (.slice (some ⟨b, o, none⟩) 2 c) ∧ w'.cell? ⟨b, o, none⟩ = some (.int .i64 (eAt es 0).op) ∧ w'.cell? ⟨b, o + 1, none⟩ = some (.int .i64 (eAt es 0).num) ∧ w'.cell? ⟨b, o + 2, none⟩ = some (.slice ak nk ck))
    (first | exact ⟨Ext.atd pc ns0 x0, Ext.atd pc ns0 x1, Ext.atd pc ns1 y2, Ext.atd pc nsb k0, Ext.atd pc nsb k1, Ext.atd pc nsb k2⟩ | exact ⟨Ext.atd (Ext.trans pc (Keep.to (Keep.al _ _))) ns0 x0, Ext.atd (Ext.trans pc (Keep.to (Keep.al _ _))) ns0 x1, Ext.atd (Ext.trans pc (Keep.to (Keep.al _ _))) ns1 y2, Ext.atd (Ext.trans pc (Keep.to (Keep.al _ _))) nsb k0, Ext.atd (Ext.trans pc (Keep.to (Keep.al _ _))) nsb k1, Ext.atd (Ext.trans pc (Keep.to (Keep.al _ _))) nsb k2⟩ | go_keep)
    (first
      | (go_at_call 117; refine (IH.out 0 HE0.out _ _ _ _ _ _ _ vars _ _ _ _ base D qpd hvd qkd HD.out hbd HB0.out HAll.out).mono ?_; rw [HZ0.out]; rintro e w2 ⟨rfl, hv2, x2⟩; replace pc := Ext.trans pc x2))
  have PW := Lib.hid (Ext.dt pc)
  have KE := Lib.hid (KT.out.trans PW.out)
  have HV2 := Lib.hid hv2
  clear pc x2 hv2 qk qkd qpd hvd k0 k1 k2
  have x0' := (PW.out.cell (World.block_lt_of_cell? _ _ x0) ns0).trans x0
  have x1' := (PW.out.cell (World.block_lt_of_cell? _ _ x1) ns0).trans x1
  have y2' := (PW.out.cell (World.block_lt_of_cell? _ _ y2) ns1).trans y2
  clear x0 x1 y0 y1 y2
  have qpd2 := (qp.ext PW.out nsD.out).k (w' := w2.drew) (Ext.refl (fun _ => False) w2).drew
  have hvd2 := HV2.out.k (w' := w2.drew) (Ext.refl (fun _ => False) w2).drew
  have hbd2 : base ≤ w2.drew.heap.size := by have := PW.out.size; show base ≤ w2.heap.size; omega
  have hb2 : base ≤ w2.heap.size := hbd2
  obtain ⟨b', o', e', _, ak, nk, ck, dk0, dk1, dk2, rk⟩ := HA.out 1 (by omega)
  injection e' with e'
  injection e' with e' e''
  subst e' e''
  have k0 := (KE.out.cell (World.block_lt_of_cell? _ _ dk0) nsb).trans dk0
  have k1 := (KE.out.cell (World.block_lt_of_cell? _ _ dk1) nsb).trans dk1
  have k2 := (KE.out.cell (World.block_lt_of_cell? _ _ dk2) nsb).trans dk2
  simp only [Nat.one_mul] at k0 k1 k2
  have qk2 := rk.ext KE.out nsD.out
  clear dk0 dk1 dk2 rk
  have qkd2 := qk2.k (w' := w2.drew) (Ext.refl (fun _ => False) w2).drew
  go_wp2_with fail
  have pc : Ext (fun r => (Value.slice av vars.length cv).ownBlock = some r) w2.drew w2.drew := Ext.refl _ _
  go_region_held3 (fun w' => w'.cell? ⟨w.heap.size, 0, none⟩ = some (.slice a0 n0 c0) ∧ w'.cell? ⟨w.heap.size, 1, none⟩ = some (.slice a1 n1 c1) ∧ w'.cell? ⟨w.heap.size + 1, 2, none⟩ = some (.slice (some ⟨b, o, none⟩) 2 c) ∧ w'.cell? ⟨b, o + 3, none⟩ = some (.int .i64 (eAt es 1).op) ∧ w'.cell? ⟨b, o + 3 + 1, none⟩ = some (.int .i64 (eAt es 1).num) ∧ w'.cell? ⟨b, o + 3 + 2, none⟩ = some (.slice ak nk ck))
    (first | exact ⟨Ext.atd pc ns0 x0', Ext.atd pc ns0 x1', Ext.atd pc ns1 y2', Ext.atd pc nsb k0, Ext.atd pc nsb k1, Ext.atd pc nsb k2⟩ | exact ⟨Ext.atd (Ext.trans pc (Keep.to (Keep.al _ _))) ns0 x0', Ext.atd (Ext.trans pc (Keep.to (Keep.al _ _))) ns0 x1', Ext.atd (Ext.trans pc (Keep.to (Keep.al _ _))) ns1 y2', Ext.atd (Ext.trans pc (Keep.to (Keep.al _ _))) nsb k0, Ext.atd (Ext.trans pc (Keep.to (Keep.al _ _))) nsb k1, Ext.atd (Ext.trans pc (Keep.to (Keep.al _ _))) nsb k2⟩ | go_keep)
    (first
      | (refine step_appV (by rfl) (.tmp 63) (.tmp 65) (by rfl) base (.slice av vars.length cv) vars (by rfl) (hvd2.k (Keep.al _ _)) w2.heap.size 1 t (by rfl) (boxk (w := w2.drew) (Ext.refl _ _) 0) (by omega) (by simp; omega) ?_; intro v3 w3 hA; have HAA := Lib.hid hA; have pl := Keep.to (S := fun r => (Value.slice av vars.length cv).ownBlock = some r) (Keep.al w2.drew (.cells #[.int .i64 t] 3)); have PL := Lib.hid (Ext.trans pc pl); replace pc := Ext.trans (Ext.trans pc pl) hA.ext; have hr3 := hA.row; clear hA pl)
      | (go_at_call 117; refine (IH.out 1 HE1.out _ _ _ _ _ _ v3 (vars ++ [t]) _ _ _ _ base D (qpd2.ext pc nsD.out) hr3 (qkd2.ext pc nsD.out) HD.out (Nat.le_trans hbd2 pc.size) HB1'.out (allT_append HAll.out (allT_one HT1.out))).mono ?_; rw [HZ1.out]; rintro e w4 ⟨rfl, hv4, x4⟩; have HBK := Lib.hid (HAA.out.back w4 x4 hv4); replace pc := Ext.trans PL.out (HAA.out.grow x4); clear x4 hv4 hr3))
  have KF := Lib.hid (KE.out.trans (Ext.dt pc))
  go_wp2_with fail
  exact fin_ hQ ⟨ret_i V.out.symm, HBK.out, KF.out⟩
end
end Go.Proofs.YtkapldpmjkdmcaaGreat
/- The program's types of expressions: if. -/
namespace Go.Proofs.YtkapldpmjkdmcaaGreat
open Go.RowKit

theorem Rd.tailE {w : World} {D : Nat → Prop} {es : List ExprL} {b o n c : Nat} (h : Rd w D (encExprs es) (.slice (some ⟨b, o, none⟩) (n + 2) c)) : Rd w D (encExprs es.tail) (.slice (some ⟨b, o + 3, none⟩) (n + 1) (c - 1)) := by
  obtain ⟨e1, _⟩ := exprs_at h
  match es, e1 with
  | e :: es', e1 =>
    have hl : (rowsE es').length = n + 1 := by rw [exprs_len]; simpa using e1
    have hl2 : n + 2 = (rowsE (e :: es')).length := by rw [rowsE, List.length_cons, hl]
    rw [hl2] at h
    cases h with
    | arr s rows b o c vs hD h0 hs0 hc hm hs hcell hr =>
      have q := Rd.arr (w := w) (D := D) 3 (rowsE es') b (o + 3) (c - 1) (fun i j => vs (i + 1) j) hD (by omega) (by omega) (by omega) (by omega)
        (fun i hi => by have := hs (i + 1) (by simp [rowsE]; omega); simpa [rGet, rowsE] using this)
        (fun i j hi hj => by have := hcell (i + 1) j (by simp [rowsE]; omega) hj; rw [show o + 3 + i * 3 + j = o + (i + 1) * 3 + j by omega]; exact this)
        (fun i j hi hj => by have := hr (i + 1) j (by simp [rowsE]; omega) hj; simpa [rAt, rGet, rowsE] using this)
      rw [hl] at q
      exact q
theorem eAt_tail {es : List ExprL} {j : Nat} : eAt es.tail j = eAt es (j + 1) := by cases es <;> simp [eAt]
theorem nEs_tail (es : List ExprL) : nEs es.tail ≤ nEs es := by cases es <;> simp [nEs]
theorem tyTl_tail (ds : List DeclL) (sg : List SigL) (vars : List Int) (es : List ExprL) (fs : List (List Int)) : tyTl ds sg vars es fs = tyArms ds sg vars es.tail fs := by cases es <;> simp [tyTl, tyArms]

section
variable (ds : List DeclL) (sg : List SigL) (hok : sigsOk ds sg = true)
include hok

set_option maxRecDepth 100000 in
set_option maxHeartbeats 4000000 in
theorem implTy_7 (num : Int) (hnum : fitN 7 num) (es : List ExprL) (IH0 : ∀ j, j < es.length → TyI ds sg (eAt es j)) : TyI ds sg (.mk 7 num es) := by
  intro a0 n0 c0 a1 n1 c1 v vars a n c w base D hp hv h hD hb hlen hall
  refine calls_k fun Q hQ => ?_
  change Rd w D (encExprs es) _ at h
  rw [nE] at hlen
  simp only [ExprL.op, ExprL.num]
  obtain ⟨av, cv, rfl, hvc, hvo⟩ := hv.slice
  have VBL := Lib.hid hv.lt
  have ht := (sigsOk_parts hok).1
  have hf := Few.of_ok ht
  have hn0 : n0 ≤ 4 := by have := (decls_at hp.1).1; have := typesOk_len ht; omega
  have hvl : vars.length ≤ 1049576 := by omega
  have K0 := (Keep.al w (.cells #[.slice a0 n0 c0, .slice a1 n1 c1] 130)).trans (Keep.al _ (.cells #[.int .i64 7, .int .i64 num, .slice a n c] 58))
  have R0 := (rowOf w #[.slice a0 n0 c0, .slice a1 n1 c1] 130).alloc (.cells #[.int .i64 7, .int .i64 num, .slice a n c] 58)
  have R1 := rowOf (w.alloc (.cells #[.slice a0 n0 c0, .slice a1 n1 c1] 130)) #[.int .i64 7, .int .i64 num, .slice a n c] 58
  simp only [World.size_alloc] at R1
  have hv0 := hv.k K0
  have KT := Lib.hid (Keep.to (S := fun r => (Value.slice av vars.length cv).ownBlock = some r) K0)
  obtain ⟨e1, hnc, hnm, hat⟩ := exprs_at h
  have HL := Lib.hid e1
  have HA := Lib.hid hat
  have hn30 : n ≤ 262394 := by have := nEs_len es; omega
  have HOK := Lib.hid hok
  have HAll := Lib.hid hall
  have HLen := Lib.hid hlen
  have HT := Lib.hid ht
  have HD := Lib.hid hD
  have IH := Lib.hid IH0
  have HV := Lib.hid hv
  have HVO := Lib.hid hvo
  have HNUM := Lib.hid hnum
  clear e1 hat hok hall ht IH0 hD hv hvo hnum
  have V0 := Lib.hid (tyE_7 ds sg vars num es)
  by_cases hn : n = 3
  case neg =>
    have V : Hid (tyE ds sg vars (.mk 7 num es) = -1) := by show _ = _; rw [V0.out, if_neg (fun h => hn (by rw [← HL.out]; exact h.2.1))]
    have hz' : ((n : Int) != 3) = true := by simp; omega
    clear hn
    go_enter Tryz.func117, Tryz.ntmps117
    go_wp2_with fail
    go_quiet (fail)
    go_wp2_with fail
    exact fin_ hQ ⟨ret_i V.out.symm, hv0.k (by first | exact (Ext.refl _ _).drewN _ | exact (Ext.refl _ _).drew), by first | exact KT.out.drewN _ | exact KT.out.drew⟩
  subst hn
  by_cases hz : num = 0
  case neg =>
    have V : Hid (tyE ds sg vars (.mk 7 num es) = -1) := by show _ = _; rw [V0.out, if_neg (fun h => hz h.1)]
    have hz' : (num != 0) = true := by simpa using hz
    clear hz
    go_enter Tryz.func117, Tryz.ntmps117
    go_wp2_with fail
    go_quiet (fail)
    go_wp2_with fail
    exact fin_ hQ ⟨ret_i V.out.symm, hv0.k (by first | exact (Ext.refl _ _).drewN _ | exact (Ext.refl _ _).drew), by first | exact KT.out.drewN _ | exact KT.out.drew⟩
  subst hz
  obtain ⟨b, o, rfl, hDb, _⟩ := HA.out 0 (by omega)
  have HDB := Lib.hid hDb
  clear hDb
  have ns0 : ¬ (Value.slice av vars.length cv).ownBlock = some w.heap.size := fun e => by have := (VBL.out _ e).2; omega
  have ns1 : ¬ (Value.slice av vars.length cv).ownBlock = some (w.heap.size + 1) := fun e => by have := (VBL.out _ e).2; omega
  have nsb : ¬ (Value.slice av vars.length cv).ownBlock = some b := fun e => by have := (VBL.out _ e).1; have := HD.out _ HDB.out; omega
  have nsD : Hid (∀ q, D q → ¬ (Value.slice av vars.length cv).ownBlock = some q) := fun q hq e => by have := (VBL.out _ e).1; have := HD.out _ hq; omega
  have HE0 : Hid (0 < es.length) := by have := HL.out; show _ < _; omega
  have HB0 : Hid (vars.length + 4 * nE (eAt es 0) ≤ 1049576) := by have := nE_le es HE0.out; have := HLen.out; show _ ≤ _; omega
  have HE1 : Hid (1 < es.length) := by have := HL.out; show _ < _; omega
  have HB1 : Hid (vars.length + 4 * nE (eAt es 1) ≤ 1049576) := by have := nE_le es HE1.out; have := HLen.out; show _ ≤ _; omega
  have HE2 : Hid (2 < es.length) := by have := HL.out; show _ < _; omega
  have HB2 : Hid (vars.length + 4 * nE (eAt es 2) ≤ 1049576) := by have := nE_le es HE2.out; have := HLen.out; show _ ≤ _; omega
  obtain ⟨t, hz0⟩ : ∃ t, tyE ds sg vars (eAt es 0) = t := ⟨_, rfl⟩
  have HZ0 := Lib.hid hz0
  clear hz0
  have V1 : Hid (tyE ds sg vars (.mk 7 0 es) = if t = 0 then oneT (tyArms ds sg vars es.tail [[], []]) else -1) := by
    show _ = _
    rw [V0.out, tyHd_at _ _ _ HE0.out, HZ0.out, tyTl_tail]
    by_cases h : t = 0
    · rw [if_pos ⟨rfl, HL.out, h⟩, if_pos h]
    · rw [if_neg (fun h' => h h'.2.2), if_neg h]
  by_cases ht : t = 0
  case neg =>
    have V : Hid (tyE ds sg vars (.mk 7 0 es) = -1) := by show _ = _; rw [V1.out, if_neg ht]
    have ht' : (t != 0) = true := by simpa using ht
    clear ht
    go_enter Tryz.func117, Tryz.ntmps117
    go_wp2_with fail
    generalize hW : ((w.alloc (.cells #[.slice a0 n0 c0, .slice a1 n1 c1] 130)).alloc (.cells #[.int .i64 7, .int .i64 0, .slice (some ⟨b, o, none⟩) 3 c] 58)) = W at *
    have x0 := R0.cell (i := 0) (by simp)
    have x1 := R0.cell (i := 1) (by simp)
    have y0 := R1.cell (i := 0) (by simp)
    have y1 := R1.cell (i := 1) (by simp)
    have y2 := R1.cell (i := 2) (by simp)
    simp at x0 x1 y0 y1 y2
    have hWs : w.heap.size + 2 = W.heap.size := by rw [← hW]; simp
    clear hW
    have qp := hp.ext KT.out nsD.out
    have qpd := qp.k (w' := W.drew) (Ext.refl (fun _ => False) W).drew
    have hvd := hv0.k (w' := W.drew) (Ext.refl (fun _ => False) W).drew
    have hbd : base ≤ W.drew.heap.size := by show base ≤ W.heap.size; omega
    obtain ⟨b', o', e', _, ak, nk, ck, dk0, dk1, dk2, rk⟩ := HA.out 0 (by omega)
    injection e' with e'
    injection e' with e' e''
    subst e' e''
    have k0 := (KT.out.cell (World.block_lt_of_cell? _ _ dk0) nsb).trans dk0
    have k1 := (KT.out.cell (World.block_lt_of_cell? _ _ dk1) nsb).trans dk1
    have k2 := (KT.out.cell (World.block_lt_of_cell? _ _ dk2) nsb).trans dk2
    simp only [Nat.zero_mul, Nat.add_zero] at k0 k1 k2
    have qk := rk.ext KT.out nsD.out
    clear dk0 dk1 dk2 rk
    have qkd := qk.k (w' := W.drew) (Ext.refl (fun _ => False) W).drew
    have pc : Ext (fun r => (Value.slice av vars.length cv).ownBlock = some r) W.drew W.drew := Ext.refl _ _
    go_region_held3 (fun w' => w'.cell? ⟨w.heap.size, 0, none⟩ = some (.slice a0 n0 c0) ∧ w'.cell? ⟨w.heap.size, 1, none⟩ = some (.slice a1 n1 c1) ∧ w'.cell? ⟨w.heap.size + 1, 1, none⟩ = some (.int .i64 0) ∧ w'.cell? ⟨w.heap.size + 1, 2, none⟩ = some (.slice (some ⟨b, o, none⟩) 3 c) ∧ w'.cell? ⟨b, o, none⟩ = some (.int .i64 (eAt es 0).op) ∧ w'.cell? ⟨b, o + 1, none⟩ = some (.int .i64 (eAt es 0).num) ∧ w'.cell? ⟨b, o + 2, none⟩ = some (.slice ak nk ck))
      (first | exact ⟨Ext.atd pc ns0 x0, Ext.atd pc ns0 x1, Ext.atd pc ns1 y1, Ext.atd pc ns1 y2, Ext.atd pc nsb k0, Ext.atd pc nsb k1, Ext.atd pc nsb k2⟩ | exact ⟨Ext.atd (Ext.trans pc (Keep.to (Keep.al _ _))) ns0 x0, Ext.atd (Ext.trans pc (Keep.to (Keep.al _ _))) ns0 x1, Ext.atd (Ext.trans pc (Keep.to (Keep.al _ _))) ns1 y1, Ext.atd (Ext.trans pc (Keep.to (Keep.al _ _))) ns1 y2, Ext.atd (Ext.trans pc (Keep.to (Keep.al _ _))) nsb k0, Ext.atd (Ext.trans pc (Keep.to (Keep.al _ _))) nsb k1, Ext.atd (Ext.trans pc (Keep.to (Keep.al _ _))) nsb k2⟩ | go_keep)
      (first
        | (go_at_call 117; refine (IH.out 0 HE0.out _ _ _ _ _ _ _ vars _ _ _ _ base D qpd hvd qkd HD.out hbd HB0.out HAll.out).mono ?_; rw [HZ0.out]; rintro e w2 ⟨rfl, hv2, x2⟩; replace pc := Ext.trans pc x2))
    have PW := Lib.hid (Ext.dt pc)
    have KE := Lib.hid (KT.out.trans PW.out)
    have HV2 := Lib.hid hv2
    clear pc x2 hv2 qk qkd qpd hvd k0 k1 k2
    go_wp2_with fail
    exact fin_ hQ ⟨ret_i V.out.symm, HV2.out, KE.out⟩
  subst ht
  obtain ⟨u, hu⟩ : ∃ u, oneT (tyArms ds sg vars es.tail [[], []]) = u := ⟨_, rfl⟩
  have HU := Lib.hid hu
  have V : Hid (tyE ds sg vars (.mk 7 0 es) = u) := by show _ = _; rw [V1.out, if_pos rfl, hu]
  clear hu
  have hc1 : ¬ c = 1 := by omega
  have hc1' : ¬ 1 = c := by omega
  go_enter Tryz.func117, Tryz.ntmps117
  go_wp2_with fail
  generalize hW : ((w.alloc (.cells #[.slice a0 n0 c0, .slice a1 n1 c1] 130)).alloc (.cells #[.int .i64 7, .int .i64 0, .slice (some ⟨b, o, none⟩) 3 c] 58)) = W at *
  have x0 := R0.cell (i := 0) (by simp)
  have x1 := R0.cell (i := 1) (by simp)
  have y0 := R1.cell (i := 0) (by simp)
  have y1 := R1.cell (i := 1) (by simp)
  have y2 := R1.cell (i := 2) (by simp)
  simp at x0 x1 y0 y1 y2
  have hWs : w.heap.size + 2 = W.heap.size := by rw [← hW]; simp
  clear hW
  have qp := hp.ext KT.out nsD.out
  have qpd := qp.k (w' := W.drew) (Ext.refl (fun _ => False) W).drew
  have hvd := hv0.k (w' := W.drew) (Ext.refl (fun _ => False) W).drew
  have hbd : base ≤ W.drew.heap.size := by show base ≤ W.heap.size; omega
  obtain ⟨b', o', e', _, ak, nk, ck, dk0, dk1, dk2, rk⟩ := HA.out 0 (by omega)
  injection e' with e'
  injection e' with e' e''
  subst e' e''
  have k0 := (KT.out.cell (World.block_lt_of_cell? _ _ dk0) nsb).trans dk0
  have k1 := (KT.out.cell (World.block_lt_of_cell? _ _ dk1) nsb).trans dk1
  have k2 := (KT.out.cell (World.block_lt_of_cell? _ _ dk2) nsb).trans dk2
  simp only [Nat.zero_mul, Nat.add_zero] at k0 k1 k2
  have qk := rk.ext KT.out nsD.out
  clear dk0 dk1 dk2 rk
  have qkd := qk.k (w' := W.drew) (Ext.refl (fun _ => False) W).drew
  have pc : Ext (fun r => (Value.slice av vars.length cv).ownBlock = some r) W.drew W.drew := Ext.refl _ _
  go_region_held3 (fun w' => w'.cell? ⟨w.heap.size, 0, none⟩ = some (.slice a0 n0 c0) ∧ w'.cell? ⟨w.heap.size, 1, none⟩ = some (.slice a1 n1 c1) ∧ w'.cell? ⟨w.heap.size + 1, 1, none⟩ = some (.int .i64 0) ∧ w'.cell? ⟨w.heap.size + 1, 2, none⟩ = some (.slice (some ⟨b, o, none⟩) 3 c) ∧ w'.cell? ⟨b, o, none⟩ = some (.int .i64 (eAt es 0).op) ∧ w'.cell? ⟨b, o + 1, none⟩ = some (.int .i64 (eAt es 0).num) ∧ w'.cell? ⟨b, o + 2, none⟩ = some (.slice ak nk ck))
    (first | exact ⟨Ext.atd pc ns0 x0, Ext.atd pc ns0 x1, Ext.atd pc ns1 y1, Ext.atd pc ns1 y2, Ext.atd pc nsb k0, Ext.atd pc nsb k1, Ext.atd pc nsb k2⟩ | exact ⟨Ext.atd (Ext.trans pc (Keep.to (Keep.al _ _))) ns0 x0, Ext.atd (Ext.trans pc (Keep.to (Keep.al _ _))) ns0 x1, Ext.atd (Ext.trans pc (Keep.to (Keep.al _ _))) ns1 y1, Ext.atd (Ext.trans pc (Keep.to (Keep.al _ _))) ns1 y2, Ext.atd (Ext.trans pc (Keep.to (Keep.al _ _))) nsb k0, Ext.atd (Ext.trans pc (Keep.to (Keep.al _ _))) nsb k1, Ext.atd (Ext.trans pc (Keep.to (Keep.al _ _))) nsb k2⟩ | go_keep)
    (first
      | (go_at_call 117; refine (IH.out 0 HE0.out _ _ _ _ _ _ _ vars _ _ _ _ base D qpd hvd qkd HD.out hbd HB0.out HAll.out).mono ?_; rw [HZ0.out]; rintro e w2 ⟨rfl, hv2, x2⟩; replace pc := Ext.trans pc x2))
  have PW := Lib.hid (Ext.dt pc)
  have KE := Lib.hid (KT.out.trans PW.out)
  have HV2 := Lib.hid hv2
  clear pc x2 hv2 qk qkd qpd hvd k0 k1 k2
  have x0' := (PW.out.cell (World.block_lt_of_cell? _ _ x0) ns0).trans x0
  have x1' := (PW.out.cell (World.block_lt_of_cell? _ _ x1) ns0).trans x1
  have y2' := (PW.out.cell (World.block_lt_of_cell? _ _ y2) ns1).trans y2
  clear x0 x1 y0 y1 y2
  have qpd2 := (qp.ext PW.out nsD.out).k (w' := w2.drew) (Ext.refl (fun _ => False) w2).drew
  have hvd2 := HV2.out.k (w' := w2.drew) (Ext.refl (fun _ => False) w2).drew
  have hbd2 : base ≤ w2.drew.heap.size := by have := PW.out.size; show base ≤ w2.heap.size; omega
  have qtl := ((Rd.tailE (n := 1) h).ext KE.out nsD.out).k (w' := w2.drew) (Ext.refl (fun _ => False) w2).drew
  have qml := (lit_cons w2.drew 0 52 [[], []] [.slice none 0 0, .slice none 0 0] 2 (Nat.zero_le _) ⟨_, _, rfl, .nil 1 none 0, _, _, rfl, .nil 1 none 0, rfl⟩ rfl (by omega)).t
  have HTL : ∀ j, j < es.tail.length → TyI ds sg (eAt es.tail j) := fun j hj => by rw [eAt_tail]; exact IH.out (j + 1) (by simp at hj; omega)
  have hlt : vars.length + 4 + 4 * nEs es.tail ≤ 1049576 := by have := nEs_tail es; have := HLen.out; omega
  have hfl2 : ([[], []] : List (List Int)).length = es.tail.length := by have := HL.out; simp; omega
  have pcx : Keep w2.drew w2.drew := Ext.refl _ _
  have hmk : ∀ w : World, (Instr.makeSlice 205 (.int .i64 2) (.int .i64 2)).run Tryz.prog w = .ok (.slice (some ⟨w.heap.size, 0, none⟩) 2 2) (w.alloc (.cells #[.slice none 0 0, .slice none 0 0] 52)) := fun _ => by kernel_rfl
  go_wp2_with fail
  go_region_held3 (fun w' => w'.cell? ⟨w.heap.size, 0, none⟩ = some (.slice a0 n0 c0) ∧ w'.cell? ⟨w.heap.size, 1, none⟩ = some (.slice a1 n1 c1) ∧ w'.cell? ⟨w.heap.size + 1, 2, none⟩ = some (.slice (some ⟨b, o, none⟩) 3 c))
    (first | exact ⟨Keep.at pcx x0', Keep.at pcx x1', Keep.at pcx y2'⟩ | exact ⟨Keep.at (Ext.trans pcx (Keep.al _ _)) x0', Keep.at (Ext.trans pcx (Keep.al _ _)) x1', Keep.at (Ext.trans pcx (Keep.al _ _)) y2'⟩ | go_keep)
    ((go_at_call 161; have pl := Keep.al w2.drew (.cells #[.slice none 0 0, .slice none 0 0] 52); replace pcx := Ext.trans pcx pl; refine (implOneType ds sg es.tail HTL _ _ _ _ _ _ _ _ _ vars _ _ _ _ _ _ [[], []] _ base D (qpd2.k pcx) (hvd2.k pcx) (qtl.k pcx) HD.out (Nat.le_trans hbd2 pcx.size) qml hfl2 hlt HAll.out (fun i hi => by
        have hi2 : i < 2 := by simpa using hi
        rcases (show i = 0 ∨ i = 1 by omega) with h | h <;> (rw [h]; exact ⟨by simp [cAt], rfl⟩))).mono ?_; rw [HU.out]; rintro e w3 ⟨rfl, p3⟩; replace pcx := Ext.trans pcx p3))
  have KF := Lib.hid (KE.out.trans (Keep.to (S := fun r => (Value.slice av vars.length cv).ownBlock = some r) (Keep.dt pcx)))
  have HV3 := Lib.hid (HV2.out.k (Keep.dt pcx))
  go_wp2_with fail
  exact fin_ hQ ⟨ret_i V.out.symm, HV3.out, KF.out⟩
end
end Go.Proofs.YtkapldpmjkdmcaaGreat
/- The program's types of expressions: match. -/
namespace Go.Proofs.YtkapldpmjkdmcaaGreat
open Go.RowKit

theorem consL_rg {ds : List DeclL} (hf : Few ds) (t : Int) {i : Nat} (h : i < (consL ds t).length) : 0 ≤ iAt (consL ds t) i ∧ iAt (consL ds t) i ≤ 1049576 := by
  rw [iAt_eq h]
  have hm := List.getElem_mem h
  generalize (consL ds t)[i] = z at hm
  unfold consL at hm
  split at hm
  · next hr =>
    obtain ⟨k, hk, rfl⟩ := List.mem_map.1 hm
    have h1 := List.mem_range.1 hk
    have h2 := hf.2 (t.toNat - 1) (by omega)
    have h3 := firstN_le hf (k := t.toNat - 1) (by omega)
    have h4 := hf.1
    omega
  · simp at hm
theorem Rd.tailN {w : World} {D : Nat → Prop} {es : List ExprL} {b o n c : Nat} (hn : 2 ≤ n) (h : Rd w D (encExprs es) (.slice (some ⟨b, o, none⟩) n c)) : Rd w D (encExprs es.tail) (.slice (some ⟨b, o + 3, none⟩) (n - 1) (c - 1)) := by
  obtain ⟨k, rfl⟩ : ∃ k, n = k + 2 := ⟨n - 2, by omega⟩
  exact Rd.tailE h
theorem Rd.consI {w : World} {b m : Nat} {xs : List (List Int)} (f : Nat → Value) (hcell : ∀ i, i < m → w.cell? ⟨b, i, none⟩ = some (f i)) (hr : ∀ i, i < m → Rd w (fun _ => True) (encInts (cAt xs i)) (f i)) (h0 : 0 < m) (hlen : xs.length = m) (hm : m ≤ 1049576) :
    Rd w (fun _ => True) (encCons xs) (.slice (some ⟨b, 0, none⟩) m m) := by
  subst hlen
  have q := Rd.arr (w := w) (D := fun _ => True) 1 (xs.map rowC) b 0 xs.length (fun i _ => f i) trivial (by simpa using h0) (by omega) (by simp) (by simp; omega)
    (fun i hi => by rw [cons_row xs i (by simpa using hi)]; rfl)
    (fun i j hi hj => by
      obtain rfl : j = 0 := by omega
      rw [Nat.mul_one, Nat.add_zero, Nat.zero_add]; exact hcell i (by simpa using hi))
    (fun i j hi hj => by
      obtain rfl : j = 0 := by omega
      rw [rAt, cons_row xs i (by simpa using hi)]; exact hr i (by simpa using hi))
  rw [cons_len] at q
  exact q

section
variable (ds : List DeclL) (sg : List SigL) (hok : sigsOk ds sg = true)
include hok

set_option maxRecDepth 100000 in
set_option maxHeartbeats 4000000 in
theorem implTy_8 (num : Int) (hnum : fitN 8 num) (es : List ExprL) (IH0 : ∀ j, j < es.length → TyI ds sg (eAt es j)) : TyI ds sg (.mk 8 num es) := by
  intro a0 n0 c0 a1 n1 c1 v vars a n c w base D hp hv h hD hb hlen hall
  refine calls_k fun Q hQ => ?_
  change Rd w D (encExprs es) _ at h
  rw [nE] at hlen
  simp only [ExprL.op, ExprL.num]
  obtain ⟨av, cv, rfl, hvc, hvo⟩ := hv.slice
  have VBL := Lib.hid hv.lt
  have ht := (sigsOk_parts hok).1
  have hf := Few.of_ok ht
  have hn0 : n0 ≤ 4 := by have := (decls_at hp.1).1; have := typesOk_len ht; omega
  have hvl : vars.length ≤ 1049576 := by omega
  have K0 := (Keep.al w (.cells #[.slice a0 n0 c0, .slice a1 n1 c1] 130)).trans (Keep.al _ (.cells #[.int .i64 8, .int .i64 num, .slice a n c] 58))
  have R0 := (rowOf w #[.slice a0 n0 c0, .slice a1 n1 c1] 130).alloc (.cells #[.int .i64 8, .int .i64 num, .slice a n c] 58)
  have R1 := rowOf (w.alloc (.cells #[.slice a0 n0 c0, .slice a1 n1 c1] 130)) #[.int .i64 8, .int .i64 num, .slice a n c] 58
  simp only [World.size_alloc] at R1
  have hv0 := hv.k K0
  have KT := Lib.hid (Keep.to (S := fun r => (Value.slice av vars.length cv).ownBlock = some r) K0)
  obtain ⟨e1, hnc, hnm, hat⟩ := exprs_at h
  have HL := Lib.hid e1
  have HA := Lib.hid hat
  have hn30 : n ≤ 262394 := by have := nEs_len es; omega
  have HOK := Lib.hid hok
  have HAll := Lib.hid hall
  have HLen := Lib.hid hlen
  have HT := Lib.hid ht
  have HD := Lib.hid hD
  have IH := Lib.hid IH0
  have HV := Lib.hid hv
  have HVO := Lib.hid hvo
  have HNUM := Lib.hid hnum
  clear e1 hat hok hall ht IH0 hD hv hvo hnum
  have HP := Lib.hid hp
  have hnc0 : n0 ≤ c0 := (decls_at hp.1).2.1
  have HB := Lib.hid hb
  have HF := Lib.hid hf
  have hcl := consL_len hf num
  have HAL := Lib.hid (armsL_len ds num)
  have V0 := Lib.hid (tyE_8 ds sg vars num es)
  have nsD : Hid (∀ q, D q → ¬ (Value.slice av vars.length cv).ownBlock = some q) := fun q hq e => by have := (VBL.out _ e).1; have := HD.out _ hq; omega
  clear hp hb hf
  rcases Nat.eq_zero_or_pos (consL ds num).length with hm0 | hm0
  · have V : Hid (tyE ds sg vars (.mk 8 num es) = -1) := by show _ = _; rw [V0.out, matchL, if_neg (by rw [HAL.out]; omega)]
    go_enter Tryz.func117, Tryz.ntmps117
    go_wp2_with fail
    refine (implConsOf0 _ _ _ ds _ _ _ (Rd.toDecls (HP.out.1.k K0)) hnc0 HF.out).mono ?_
    rintro e w1 ⟨ac, m, cc, rfl, hmc, oc, p1⟩
    have OC := Lib.hid oc
    have hml : m = (consL ds num).length := oc.1.symm
    have HM := Lib.hid hml
    have hm3 : m ≤ 3 := by omega
    have KT1 := Lib.hid (KT.out.trans (Keep.to (S := fun r => (Value.slice av vars.length cv).ownBlock = some r) p1))
    have R0' := Lib.hid (row_ext R0 p1 (fun h => h))
    have R1' := Lib.hid (row_ext R1 p1 (fun h => h))
    have hv1 := hv0.k p1
    have HV1 := Lib.hid hv1
    have hw1s : w.heap.size + 2 ≤ w1.heap.size := by have := p1.size; simpa using this
    have HW1 := Lib.hid hw1s
    have x0 := R0'.out.cell (i := 0) (by simp)
    have x1 := R0'.out.cell (i := 1) (by simp)
    have y0 := R1'.out.cell (i := 0) (by simp)
    have y1 := R1'.out.cell (i := 1) (by simp)
    have y2 := R1'.out.cell (i := 2) (by simp)
    simp at x0 x1 y0 y1 y2
    clear oc hml p1 R0 R1 K0 hv0 hcl hw1s
    have hmz : m = 0 := by have := HM.out; omega
    subst hmz
    go_wp2_with fail
    go_quiet (fail)
    go_wp2_with fail
    exact fin_ hQ ⟨ret_i V.out.symm, hv1.k (by first | exact (Ext.refl _ _).drewN _ | exact (Ext.refl _ _).drew), by first | exact KT1.out.drewN _ | exact KT1.out.drew⟩
  by_cases hn : n = 1 + (consL ds num).length
  case neg =>
    have V : Hid (tyE ds sg vars (.mk 8 num es) = -1) := by show _ = _; rw [V0.out, matchL, if_neg (by rw [HAL.out]; have := HL.out; omega)]
    go_enter Tryz.func117, Tryz.ntmps117
    go_wp2_with fail
    refine (implConsOf0 _ _ _ ds _ _ _ (Rd.toDecls (HP.out.1.k K0)) hnc0 HF.out).mono ?_
    rintro e w1 ⟨ac, m, cc, rfl, hmc, oc, p1⟩
    have OC := Lib.hid oc
    have hml : m = (consL ds num).length := oc.1.symm
    have HM := Lib.hid hml
    have hm3 : m ≤ 3 := by omega
    have KT1 := Lib.hid (KT.out.trans (Keep.to (S := fun r => (Value.slice av vars.length cv).ownBlock = some r) p1))
    have R0' := Lib.hid (row_ext R0 p1 (fun h => h))
    have R1' := Lib.hid (row_ext R1 p1 (fun h => h))
    have hv1 := hv0.k p1
    have HV1 := Lib.hid hv1
    have hw1s : w.heap.size + 2 ≤ w1.heap.size := by have := p1.size; simpa using this
    have HW1 := Lib.hid hw1s
    have x0 := R0'.out.cell (i := 0) (by simp)
    have x1 := R0'.out.cell (i := 1) (by simp)
    have y0 := R1'.out.cell (i := 0) (by simp)
    have y1 := R1'.out.cell (i := 1) (by simp)
    have y2 := R1'.out.cell (i := 2) (by simp)
    simp at x0 x1 y0 y1 y2
    clear oc hml p1 R0 R1 K0 hv0 hcl hw1s
    have hmz : ((m : Int) == 0) = false := by have := HM.out; simp; omega
    have hmz2 : ((n : Int) != 1 + (m : Int)) = true := by have := HM.out; simp; omega
    have hmw : IntKind.i64.wrap (1 + (m : Int)) = 1 + (m : Int) := by rw [IntWalk.i64_in _ (by omega)]
    go_wp2_with fail
    go_quiet (fail)
    go_wp2_with fail
    exact fin_ hQ ⟨ret_i V.out.symm, hv1.k (by first | exact (Ext.refl _ _).drewN _ | exact (Ext.refl _ _).drew), by first | exact KT1.out.drewN _ | exact KT1.out.drew⟩
  have hnA : n ≤ 1 + (consL ds num).length := by omega
  have hnB : 1 + (consL ds num).length ≤ n := by omega
  clear hn
  obtain ⟨b, o, rfl, hDb, _⟩ := HA.out 0 (by omega)
  have HDB := Lib.hid hDb
  clear hDb
  have ns0 : ¬ (Value.slice av vars.length cv).ownBlock = some w.heap.size := fun e => by have := (VBL.out _ e).2; omega
  have ns1 : ¬ (Value.slice av vars.length cv).ownBlock = some (w.heap.size + 1) := fun e => by have := (VBL.out _ e).2; omega
  have nsb : ¬ (Value.slice av vars.length cv).ownBlock = some b := fun e => by have := (VBL.out _ e).1; have := HD.out _ HDB.out; omega
  have _nsD : Hid (∀ q, D q → ¬ (Value.slice av vars.length cv).ownBlock = some q) := fun q hq e => by have := (VBL.out _ e).1; have := HD.out _ hq; omega
  have HE0 : Hid (0 < es.length) := by have := HL.out; show _ < _; omega
  have HB0 : Hid (vars.length + 4 * nE (eAt es 0) ≤ 1049576) := by have := nE_le es HE0.out; have := HLen.out; show _ ≤ _; omega
  obtain ⟨z, hz⟩ : ∃ z, tyE ds sg vars (eAt es 0) = z := ⟨_, rfl⟩
  have HZ0 := Lib.hid hz
  have HZH := Lib.hid ((tyHd_at ds sg vars HE0.out).trans hz)
  clear hz
  by_cases hzn : z = num
  case neg =>
    have V : Hid (tyE ds sg vars (.mk 8 num es) = -1) := by show _ = _; rw [V0.out, matchL, if_neg (by rw [HZH.out]; exact fun h => hzn h.2.2)]
    have hzn' : (z != num) = true := by simpa using hzn
    clear hzn
    go_enter Tryz.func117, Tryz.ntmps117
    go_wp2_with fail
    refine (implConsOf0 _ _ _ ds _ _ _ (Rd.toDecls (HP.out.1.k K0)) hnc0 HF.out).mono ?_
    rintro e w1 ⟨ac, m, cc, rfl, hmc, oc, p1⟩
    have OC := Lib.hid oc
    have hml : m = (consL ds num).length := oc.1.symm
    have HM := Lib.hid hml
    have hm3 : m ≤ 3 := by omega
    have KT1 := Lib.hid (KT.out.trans (Keep.to (S := fun r => (Value.slice av vars.length cv).ownBlock = some r) p1))
    have R0' := Lib.hid (row_ext R0 p1 (fun h => h))
    have R1' := Lib.hid (row_ext R1 p1 (fun h => h))
    have hv1 := hv0.k p1
    have HV1 := Lib.hid hv1
    have hw1s : w.heap.size + 2 ≤ w1.heap.size := by have := p1.size; simpa using this
    have HW1 := Lib.hid hw1s
    have x0 := R0'.out.cell (i := 0) (by simp)
    have x1 := R0'.out.cell (i := 1) (by simp)
    have y0 := R1'.out.cell (i := 0) (by simp)
    have y1 := R1'.out.cell (i := 1) (by simp)
    have y2 := R1'.out.cell (i := 2) (by simp)
    simp at x0 x1 y0 y1 y2
    clear oc hml p1 R0 R1 K0 hv0 hcl hw1s
    have qp := HP.out.ext KT1.out nsD.out
    have qpd := qp.k (w' := w1.drew) (Ext.refl (fun _ => False) w1).drew
    have hvd := HV1.out.k (w' := w1.drew) (Ext.refl (fun _ => False) w1).drew
    have hbd : base ≤ w1.drew.heap.size := by have := HB.out; have := HW1.out; show base ≤ w1.heap.size; omega
    have hmz : ((m : Int) == 0) = false := by have := HM.out; simp; omega
    have hmz2 : ((n : Int) != 1 + (m : Int)) = false := by have := HM.out; simp; omega
    have hmw : IntKind.i64.wrap (1 + (m : Int)) = 1 + (m : Int) := by rw [IntWalk.i64_in _ (by omega)]
    have hn0i : (0 : Int) < (n : Int) := by omega
    have hn0' : 0 < n := by omega
    obtain ⟨b', o', e', _, ak, nk, ck, dk0, dk1, dk2, rk⟩ := HA.out 0 (by omega)
    injection e' with e'
    injection e' with e' e''
    subst e' e''
    have k0 := (KT1.out.cell (World.block_lt_of_cell? _ _ dk0) nsb).trans dk0
    have k1 := (KT1.out.cell (World.block_lt_of_cell? _ _ dk1) nsb).trans dk1
    have k2 := (KT1.out.cell (World.block_lt_of_cell? _ _ dk2) nsb).trans dk2
    simp only [Nat.zero_mul, Nat.add_zero] at k0 k1 k2
    have qk := rk.ext KT1.out nsD.out
    clear dk0 dk1 dk2 rk
    have qkd := qk.k (w' := w1.drew) (Ext.refl (fun _ => False) w1).drew
    go_wp2_with fail
    have pc : Ext (fun r => (Value.slice av vars.length cv).ownBlock = some r) w1.drew w1.drew := Ext.refl _ _
    go_region_held3 (fun w' => w'.cell? ⟨w.heap.size, 0, none⟩ = some (.slice a0 n0 c0) ∧ w'.cell? ⟨w.heap.size, 1, none⟩ = some (.slice a1 n1 c1) ∧ w'.cell? ⟨w.heap.size + 1, 1, none⟩ = some (.int .i64 num) ∧ w'.cell? ⟨w.heap.size + 1, 2, none⟩ = some (.slice (some ⟨b, o, none⟩) n c) ∧ w'.cell? ⟨b, o, none⟩ = some (.int .i64 (eAt es 0).op) ∧ w'.cell? ⟨b, o + 1, none⟩ = some (.int .i64 (eAt es 0).num) ∧ w'.cell? ⟨b, o + 2, none⟩ = some (.slice ak nk ck))
      (first | exact ⟨Ext.atd pc ns0 x0, Ext.atd pc ns0 x1, Ext.atd pc ns1 y1, Ext.atd pc ns1 y2, Ext.atd pc nsb k0, Ext.atd pc nsb k1, Ext.atd pc nsb k2⟩ | exact ⟨Ext.atd (Ext.trans pc (Keep.to (Keep.al _ _))) ns0 x0, Ext.atd (Ext.trans pc (Keep.to (Keep.al _ _))) ns0 x1, Ext.atd (Ext.trans pc (Keep.to (Keep.al _ _))) ns1 y1, Ext.atd (Ext.trans pc (Keep.to (Keep.al _ _))) ns1 y2, Ext.atd (Ext.trans pc (Keep.to (Keep.al _ _))) nsb k0, Ext.atd (Ext.trans pc (Keep.to (Keep.al _ _))) nsb k1, Ext.atd (Ext.trans pc (Keep.to (Keep.al _ _))) nsb k2⟩ | go_keep)
      (first
        | (go_at_call 117; refine (IH.out 0 HE0.out _ _ _ _ _ _ _ vars _ _ _ _ base D qpd hvd qkd HD.out hbd HB0.out HAll.out).mono ?_; rw [HZ0.out]; rintro e w2 ⟨rfl, hv2, x2⟩; replace pc := Ext.trans pc x2))
    have PW := Lib.hid (Ext.dt pc)
    have KE := Lib.hid (KT1.out.trans PW.out)
    have HV2 := Lib.hid hv2
    clear pc x2 hv2 qk qkd qpd hvd k0 k1 k2 hmw hn0i hn0' hmz hmz2 qp hbd
    go_wp2_with fail
    exact fin_ hQ ⟨ret_i V.out.symm, HV2.out, KE.out⟩
  subst hzn
  have hzz : (z != z) = false := by simp
  obtain ⟨u, hu⟩ : ∃ u, oneT (tyArms ds sg vars es.tail (armsL ds z)) = u := ⟨_, rfl⟩
  have HU := Lib.hid hu
  have V : Hid (tyE ds sg vars (.mk 8 z es) = u) := by show _ = _; rw [V0.out, matchL, if_pos ⟨by rw [HAL.out]; exact hm0, by rw [HAL.out]; have := HL.out; omega, HZH.out⟩, tyTl_tail, hu]
  clear hu
  go_enter Tryz.func117, Tryz.ntmps117
  go_wp2_with fail
  refine (implConsOf0 _ _ _ ds _ _ _ (Rd.toDecls (HP.out.1.k K0)) hnc0 HF.out).mono ?_
  rintro e w1 ⟨ac, m, cc, rfl, hmc, oc, p1⟩
  have OC := Lib.hid oc
  have hml : m = (consL ds z).length := oc.1.symm
  have HM := Lib.hid hml
  have hm3 : m ≤ 3 := by omega
  have KT1 := Lib.hid (KT.out.trans (Keep.to (S := fun r => (Value.slice av vars.length cv).ownBlock = some r) p1))
  have R0' := Lib.hid (row_ext R0 p1 (fun h => h))
  have R1' := Lib.hid (row_ext R1 p1 (fun h => h))
  have hv1 := hv0.k p1
  have HV1 := Lib.hid hv1
  have hw1s : w.heap.size + 2 ≤ w1.heap.size := by have := p1.size; simpa using this
  have HW1 := Lib.hid hw1s
  have x0 := R0'.out.cell (i := 0) (by simp)
  have x1 := R0'.out.cell (i := 1) (by simp)
  have y0 := R1'.out.cell (i := 0) (by simp)
  have y1 := R1'.out.cell (i := 1) (by simp)
  have y2 := R1'.out.cell (i := 2) (by simp)
  simp at x0 x1 y0 y1 y2
  clear oc hml p1 R0 R1 K0 hv0 hcl hw1s
  have qp := HP.out.ext KT1.out nsD.out
  have qpd := qp.k (w' := w1.drew) (Ext.refl (fun _ => False) w1).drew
  have hvd := HV1.out.k (w' := w1.drew) (Ext.refl (fun _ => False) w1).drew
  have hbd : base ≤ w1.drew.heap.size := by have := HB.out; have := HW1.out; show base ≤ w1.heap.size; omega
  have hmz : ((m : Int) == 0) = false := by have := HM.out; simp; omega
  have hmz2 : ((n : Int) != 1 + (m : Int)) = false := by have := HM.out; simp; omega
  have hmw : IntKind.i64.wrap (1 + (m : Int)) = 1 + (m : Int) := by rw [IntWalk.i64_in _ (by omega)]
  have hn0i : (0 : Int) < (n : Int) := by omega
  have hn0' : 0 < n := by omega
  obtain ⟨b', o', e', _, ak, nk, ck, dk0, dk1, dk2, rk⟩ := HA.out 0 (by omega)
  injection e' with e'
  injection e' with e' e''
  subst e' e''
  have k0 := (KT1.out.cell (World.block_lt_of_cell? _ _ dk0) nsb).trans dk0
  have k1 := (KT1.out.cell (World.block_lt_of_cell? _ _ dk1) nsb).trans dk1
  have k2 := (KT1.out.cell (World.block_lt_of_cell? _ _ dk2) nsb).trans dk2
  simp only [Nat.zero_mul, Nat.add_zero] at k0 k1 k2
  have qk := rk.ext KT1.out nsD.out
  clear dk0 dk1 dk2 rk
  have qkd := qk.k (w' := w1.drew) (Ext.refl (fun _ => False) w1).drew
  go_wp2_with fail
  have pc : Ext (fun r => (Value.slice av vars.length cv).ownBlock = some r) w1.drew w1.drew := Ext.refl _ _
  go_region_held3 (fun w' => w'.cell? ⟨w.heap.size, 0, none⟩ = some (.slice a0 n0 c0) ∧ w'.cell? ⟨w.heap.size, 1, none⟩ = some (.slice a1 n1 c1) ∧ w'.cell? ⟨w.heap.size + 1, 1, none⟩ = some (.int .i64 z) ∧ w'.cell? ⟨w.heap.size + 1, 2, none⟩ = some (.slice (some ⟨b, o, none⟩) n c) ∧ w'.cell? ⟨b, o, none⟩ = some (.int .i64 (eAt es 0).op) ∧ w'.cell? ⟨b, o + 1, none⟩ = some (.int .i64 (eAt es 0).num) ∧ w'.cell? ⟨b, o + 2, none⟩ = some (.slice ak nk ck))
    (first | exact ⟨Ext.atd pc ns0 x0, Ext.atd pc ns0 x1, Ext.atd pc ns1 y1, Ext.atd pc ns1 y2, Ext.atd pc nsb k0, Ext.atd pc nsb k1, Ext.atd pc nsb k2⟩ | exact ⟨Ext.atd (Ext.trans pc (Keep.to (Keep.al _ _))) ns0 x0, Ext.atd (Ext.trans pc (Keep.to (Keep.al _ _))) ns0 x1, Ext.atd (Ext.trans pc (Keep.to (Keep.al _ _))) ns1 y1, Ext.atd (Ext.trans pc (Keep.to (Keep.al _ _))) ns1 y2, Ext.atd (Ext.trans pc (Keep.to (Keep.al _ _))) nsb k0, Ext.atd (Ext.trans pc (Keep.to (Keep.al _ _))) nsb k1, Ext.atd (Ext.trans pc (Keep.to (Keep.al _ _))) nsb k2⟩ | go_keep)
    (first
      | (go_at_call 117; refine (IH.out 0 HE0.out _ _ _ _ _ _ _ vars _ _ _ _ base D qpd hvd qkd HD.out hbd HB0.out HAll.out).mono ?_; rw [HZ0.out]; rintro e w2 ⟨rfl, hv2, x2⟩; replace pc := Ext.trans pc x2))
  have PW := Lib.hid (Ext.dt pc)
  have KE := Lib.hid (KT1.out.trans PW.out)
  have HV2 := Lib.hid hv2
  clear pc x2 hv2 qk qkd qpd hvd k0 k1 k2 hmw hn0i hn0' hmz hmz2 qp hbd
  have hsw2 : w1.heap.size ≤ w2.heap.size := PW.out.size
  have HSW2 := Lib.hid hsw2
  clear x0 x1 y0 y1 y2 hsw2
  obtain ⟨bq, oq, rfl, hd', hcq⟩ := OC.out.read.2 (by have := HM.out; omega)
  have HDQ : Hid (w.heap.size + 2 ≤ bq) := by have h := hd'; simp at h; show _ ≤ _; omega
  have HCQ := Lib.hid hcq
  clear hd' hcq
  go_wp2_with (at_make; refine wpList_makeN _ rfl _ _ 205 rfl 52 (.slice none 0 0) #[.slice none 0 0] 1 24 Tryz.underlying205 (by kernel_rfl) rfl rfl m rfl rfl (by omega) (by omega) ?_; intro w3 hrow hk3 hsz; have HSZ := Lib.hid (show w3.heap.size = w2.heap.size + 1 from hsz); have HROW := Lib.hid (show w3.rowIs w2.heap.size 52 m (fun _ => .slice none 0 0) from (by (have h2 := hrow; rw [Nat.mul_one] at h2; exact h2.congr (fun i hi => by simp [Nat.mod_one])))); have PW3 := Lib.hid (PW.out.trans (Keep.to (S := fun r => (Value.slice av vars.length cv).ownBlock = some r) hk3)); have KE3 := Lib.hid (KE.out.trans (Keep.to (S := fun r => (Value.slice av vars.length cv).ownBlock = some r) hk3)); have HV3 := Lib.hid (HV2.out.k hk3); clear hrow hk3 hsz)
  go_loopw [136] (fun iv wr => ∃ (j : Nat) (f : Nat → Value), j ≤ m ∧ iv = .int .i64 j ∧ Hid (wr.rowIs w2.heap.size 52 m f) ∧ Hid (∀ l, l < j → Rd wr (fun q => q ≠ w2.heap.size) (encInts (cAt (armsL ds z) l)) (f l)) ∧ Hid (Ext (fun q => q = w2.heap.size) w3 wr)) (fun iv _ => m - (intOf iv).toNat)
  case atStart => exact ⟨0, _, Nat.zero_le _, rfl, HROW.out, fun l hl => absurd hl (by omega), Ext.refl _ _⟩
  case round =>
    obtain ⟨j, f, hj, rfl, hR, hI, hK⟩ := hrel
    have KW := Lib.hid (Ext.then_ KE3.out hK.out (fun q hq h => by have := HW1.out; have := HSW2.out; omega))
    have PX := Lib.hid (Ext.then_ PW3.out hK.out (fun q hq h => by have := HSW2.out; omega))
    have VX := Lib.hid (HV3.out.ext hK.out (fun g hg h => by have := (VBL.out _ hg).2; have := HW1.out; have := HSW2.out; omega))
    have RS := row_ext R0'.out PX.out ns0
    have x0 := RS.cell (i := 0) (by simp)
    have x1 := RS.cell (i := 1) (by simp)
    simp at x0 x1
    have qp := Lib.hid (HP.out.ext KW.out nsD.out)
    have HWR : Hid (w2.heap.size + 1 ≤ wr.heap.size) := by have := hK.out.size; have := HSZ.out; show _ ≤ _; omega
    by_cases hlt : j < m
    · have dj := HCQ.out j hlt
      have cq0 := (PX.out.cell (World.block_lt_of_cell? _ _ dj) (fun e => by have := (VBL.out bq e).2; have := HDQ.out; omega)).trans dj
      have HX := Lib.hid (consL_rg HF.out z (i := j) (by have := HM.out; omega))
      have HAJ : Hid (cAt (armsL ds z) j = conFieldsL ds (iAt (consL ds z) j)) := armsL_at (by have := HM.out; omega)
      have HFO := Lib.hid (conFieldsL_ok HT.out (iAt (consL ds z) j))
      generalize iAt (consL ds z) j = x at cq0 HX HAJ HFO
      clear dj RS
      go_wp2_with fail
      refine (implFieldsOf _ _ _ ds D _ _ (Rd.toDecls qp.out.1) HF.out (by have := HX.out; omega) (by have := HX.out; omega)).mono ?_
      rintro e w4 ⟨fa, fm, fc, rfl, hfc, fi, p4⟩
      have hrw := row_ext hR.out p4 (fun h => h)
      have fz : w4.frozen? ⟨w2.heap.size, j, none⟩ = false := hrw.frozen j
      have cz : w4.cell? ⟨w2.heap.size, j, none⟩ = some (f j) := hrw.cell hlt
      have hrs := Lib.hid (hrw.set j (.slice fa fm fc))
      have hs2 : Ext (fun q => q = w2.heap.size) w4 (w4.setCell ⟨w2.heap.size, j, none⟩ (.slice fa fm fc)) := Ext.setCell (S := fun q => q = w2.heap.size) (Ext.refl _ w4) (p := ⟨w2.heap.size, j, none⟩) (.inr rfl) _
      have K2 := Lib.hid ((hK.out.trans (Keep.to p4)).trans hs2)
      have hfm : fm ≤ 3 := by have h1 := fi.1; have h2 := HFO.out.1; omega
      have FI := Lib.hid (((fi.mono (D' := fun q => q ≠ w2.heap.size) (fun k hk => by
        have := HWR.out; have := HB.out; have := HW1.out; have := HSW2.out
        rcases hk with hk | hk
        · have := HD.out _ hk; show _ ≠ _; omega
        · show _ ≠ _; omega)).toRd hfc (by omega)).ext hs2 (fun q h => h))
      have HI2 := Lib.hid (fun l (hl : l < j) => ((hI.out l hl).k p4).ext hs2 (fun q h => h))
      clear hrw hs2 p4 fi x0 x1 cq0
      go_wp2_with fail
      go_roundw
      case rel => exact ⟨j + 1, _, by omega, by go_num, hrs.out, fun l hl => by
        by_cases hlj : l = j
        · rw [hlj, if_pos rfl, HAJ.out]; exact FI.out
        · rw [if_neg hlj]; exact HI2.out l (by omega), K2.out⟩
      case measure => simp [intOf]; omega
    · have hjn : j = m := by omega
      have HCO := Lib.hid (Rd.consI (w := wr) (b := w2.heap.size) (m := m) (xs := armsL ds z) f (fun i hi => hR.out.cell hi) (fun i hi => (hI.out i (by omega)).t) (by have := HM.out; omega) (by rw [HAL.out]; exact HM.out.symm) (by omega))
      have y2 := (row_ext R1'.out PX.out ns1).cell (i := 2) (by simp)
      simp at y2
      have qpd := qp.out.k (w' := wr.drew) (Ext.refl (fun _ => False) wr).drew
      have hvd := VX.out.k (w' := wr.drew) (Ext.refl (fun _ => False) wr).drew
      have hbd : base ≤ wr.drew.heap.size := by have := HB.out; have := KW.out.size; show base ≤ wr.heap.size; omega
      have qtl := ((Rd.tailN (by have := HM.out; omega) h).ext KW.out nsD.out).k (w' := wr.drew) (Ext.refl (fun _ => False) wr).drew
      have qml := HCO.out.k (w' := wr.drew) (Ext.refl (fun _ => False) wr).drew
      have HTL : ∀ j, j < es.tail.length → TyI ds sg (eAt es.tail j) := fun j hj => by rw [eAt_tail]; exact IH.out (j + 1) (by simp at hj; omega)
      have hlt2 : vars.length + 4 + 4 * nEs es.tail ≤ 1049576 := by have := nEs_tail es; have := HLen.out; omega
      have hfl2 : (armsL ds z).length = es.tail.length := by have := HL.out; have := HAL.out; simp; omega
      have hfs2 : ∀ i, i < (armsL ds z).length → (cAt (armsL ds z) i).length ≤ 3 ∧ allT ds.length (cAt (armsL ds z) i) = true := fun i hi => by
        rw [armsL_at (by rw [HAL.out] at hi; exact hi)]
        exact conFieldsL_ok HT.out _
      have HFL2 := Lib.hid hfl2
      have HFS2 := Lib.hid hfs2
      have HTL2 := Lib.hid HTL
      have pc := Ext.refl0 wr
      have hc1 : ¬ c = 1 := by have := HM.out; omega
      have hc1' : ¬ 1 = c := by omega
      have hn2 : (1 : Int) ≤ (n : Int) := by omega
      have hn3 : 1 ≤ n := by omega
      clear hfl2 hfs2 HTL RS
      go_wp2_with fail
      go_region_held3 (fun w' => w'.cell? ⟨w.heap.size, 0, none⟩ = some (.slice a0 n0 c0) ∧ w'.cell? ⟨w.heap.size, 1, none⟩ = some (.slice a1 n1 c1) ∧ w'.cell? ⟨w.heap.size + 1, 2, none⟩ = some (.slice (some ⟨b, o, none⟩) n c))
        (first | exact ⟨Keep.at pc x0, Keep.at pc x1, Keep.at pc y2⟩ | go_keep)
        ((go_at_call 161; go_must (refine (implOneType ds sg es.tail HTL2.out _ _ _ _ _ _ _ _ _ vars _ _ _ _ _ _ (armsL ds z) _ base D (qpd.k pc) (hvd.k pc) (qtl.k pc) HD.out (Nat.le_trans hbd pc.size) (qml.k pc) HFL2.out hlt2 HAll.out HFS2.out).mono ?_); rw [HU.out]; rintro e w5 ⟨rfl, p5⟩; replace pc := Ext.trans pc p5))
      have KF := Lib.hid (KW.out.trans (Keep.to (S := fun r => (Value.slice av vars.length cv).ownBlock = some r) (Keep.dt pc)))
      have HV3 := Lib.hid (VX.out.k (Keep.dt pc))
      go_wp2_with fail
      exact fin_ hQ ⟨ret_i V.out.symm, HV3.out, KF.out⟩
end
end Go.Proofs.YtkapldpmjkdmcaaGreat
