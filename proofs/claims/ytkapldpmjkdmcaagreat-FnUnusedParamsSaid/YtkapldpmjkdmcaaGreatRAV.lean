/- slices.Concat of two slices of integers. -/
import Derived.Test.YtkapldpmjkdmcaaGreatShelf
import Derived.Test.YtkapldpmjkdmcaaGreatRAU
import Derived.Test.YtkapldpmjkdmcaaGreatRAC
import Derived.Test.YtkapldpmjkdmcaaGreatRAF
namespace Go.Proofs.YtkapldpmjkdmcaaGreat
open Go.RowKit

theorem growNil (n : Nat) (w : World) (hn : n ≤ 4000000) :
    Calls Tryz.prog 225 #[.slice none 0 0, .int .i64 (n : Int)] w fun e w' => ∃ v, e = .returned v ∧ VR w' w.heap.size v [] ∧ Keep w w' := by
  rcases Nat.eq_zero_or_pos n with h0 | h0
  · subst h0
    refine (Tryz.slices_Grow_zero w).mono ?_
    rintro e w' ⟨rfl, rfl⟩
    exact ⟨_, rfl, World.ownsRow_nil _ _ _ _, Ext.refl _ _⟩
  · obtain ⟨i, hi, hzz⟩ := Option.map_eq_some_iff.1 (show (Tryz.prog.info? 3).map (fun i => (i.zero, i.size, i.bytes)) = some (some (.int .i64 0), 1, 8) by kernel_rfl)
    simp only [Prod.mk.injEq] at hzz
    obtain ⟨hz, hsize, hby⟩ := hzz
    refine (Tryz.slices_Grow_nil i (.int .i64 0) hi hz (by omega) n w (by omega) (by rw [hby]; omega) (by omega)).mono ?_
    rintro e w' ⟨rfl, rfl⟩
    refine ⟨_, rfl, ?_, (Ext.refl _ w).drew.trans (Keep.al _ _)⟩
    refine World.ownsRow_made (w := w.drew) _ _ (Nat.le_refl _) ?_ ?_
    · exact grownCap_le_maxLen _ _ _ _ (by simp [maxLen]; omega)
    · have h5 := grownCap_ge w (0 + n) 0 3
      simp only [Nat.zero_add] at h5
      simp [Builtin.zeroCells, Value.cells]
      omega

set_option maxHeartbeats 2000000 in
theorem concatTwo (g cc : Nat) (a : Option Addr) (n c : Nat) (xs : List Int) (D : Nat → Prop) (a' : Option Addr) (n' c' : Nat) (ys : List Int) (D' : Nat → Prop) (w : World) (h0 : w.cell? ⟨g, 0, none⟩ = some (.slice a n c)) (h1 : w.cell? ⟨g, 1, none⟩ = some (.slice a' n' c')) (hx : IntsL w D a n xs) (hy : IntsL w D' a' n' ys) (hn : n ≤ 1052000) (hn' : n' ≤ 1052000) :
    Calls Tryz.prog 202 #[.slice (some ⟨g, 0, none⟩) 2 cc] w fun e w' => ∃ v, e = .returned v ∧ VR w' w.heap.size v (xs ++ ys) ∧ Keep w w' := by
  refine calls_k fun Q hQ => ?_
  have HX := Lib.hid hx
  have HY := Lib.hid hy
  clear hx hy
  go_enter Tryz.func202, Tryz.ntmps202
  go_wp2_with fail
  go_loop [3, 11] (fun sv iv => (iv = .int .i64 (0 : Nat) ∧ sv = .int .i64 (0 : Nat)) ∨ (iv = .int .i64 (1 : Nat) ∧ sv = .int .i64 (n : Nat)) ∨ (iv = .int .i64 (2 : Nat) ∧ sv = .int .i64 ((n + n' : Nat) : Int))) (fun _ iv => 2 - (intOf iv).toNat)
  case atStart => exact .inl ⟨rfl, rfl⟩
  case round =>
    rcases hrel with ⟨rfl, rfl⟩ | ⟨rfl, rfl⟩ | ⟨rfl, rfl⟩
    · go_wp2_with fail
      go_round
      case rel => exact .inr (.inl ⟨by go_num, by go_num⟩)
      case measure => simp [intOf]
    · go_wp2_with fail
      go_round
      case rel => exact .inr (.inr ⟨by go_num, by go_num⟩)
      case measure => simp [intOf]
    · go_wp2_with fail
      refine (growNil (n + n') w (by omega)).mono ?_
      rintro e w1 ⟨v, rfl, hv, p1⟩
      have HV := Lib.hid hv
      have P1 := Lib.hid p1
      clear hv
      go_wp2_with fail
      have G0 := Lib.hid h0
      have G1 := Lib.hid h1
      go_loopw [6, 27] (fun v iv wr => ((iv = .int .i64 (0 : Nat) ∧ Hid (VR wr w.heap.size v [])) ∨ (iv = .int .i64 (1 : Nat) ∧ Hid (VR wr w.heap.size v xs)) ∨ (iv = .int .i64 (2 : Nat) ∧ Hid (VR wr w.heap.size v (xs ++ ys)))) ∧ Hid (Keep w wr)) (fun _ iv _ => 2 - (intOf iv).toNat)
      case atStart => exact ⟨.inl ⟨rfl, HV⟩, P1⟩
      case round =>
        obtain ⟨hr, hK⟩ := hrel
        clear h0 h1
        have k0 := (hK.out.cell (World.block_lt_of_cell? _ _ G0.out) (fun h => h)).trans G0.out
        have k1 := (hK.out.cell (World.block_lt_of_cell? _ _ G1.out) (fun h => h)).trans G1.out
        have hbs : w.heap.size ≤ wr.heap.size := hK.out.size
        rcases hr with ⟨rfl, hv⟩ | ⟨rfl, hv⟩ | ⟨rfl, hv⟩
        · have hx2 := HX.out.ext hK.out (fun _ _ h => h)
          go_wp2_with (at_builtin; refine wpList_appInts _ rfl (.tmp 31) (.tmp 32) rfl w.heap.size u6 0 [] rfl hv.out a n c xs D rfl hx2 (by omega) (by omega) ?_; intro v' w' ho hg)
          have hv2 : Hid (VR w' w.heap.size v' xs) := by have h := ho; have hl := HX.out.1; show VR _ _ _ _; rw [VR, hl]; simpa using h
          have hK2 := Lib.hid (hK.out.grown hg (fun q hq => .inl (hv.out.lt q hq).1))
          go_roundw
          case rel => exact ⟨.inr (.inl ⟨by go_num, hv2⟩), hK2⟩
          case measure => simp [intOf]
        · have hx2 := HY.out.ext hK.out (fun _ _ h => h)
          have hxl : xs.length ≤ 1052000 := by have := HX.out.1; omega
          go_wp2_with (at_builtin; refine wpList_appInts _ rfl (.tmp 31) (.tmp 32) rfl w.heap.size u6 xs.length xs rfl hv.out a' n' c' ys D' rfl hx2 (by omega) (by omega) ?_; intro v' w' ho hg)
          have hv2 : Hid (VR w' w.heap.size v' (xs ++ ys)) := by have h := ho; have hl := HY.out.1; show VR _ _ _ _; rw [VR, List.length_append, hl]; exact h
          have hK2 := Lib.hid (hK.out.grown hg (fun q hq => .inl (hv.out.lt q hq).1))
          go_roundw
          case rel => exact ⟨.inr (.inr ⟨by go_num, hv2⟩), hK2⟩
          case measure => simp [intOf]
        · go_wp2_with fail
          exact fin_ hQ ⟨_, rfl, hv.out, hK.out⟩
end Go.Proofs.YtkapldpmjkdmcaaGreat
/- The program's types of expressions: all kids with more variables. -/
namespace Go.Proofs.YtkapldpmjkdmcaaGreat
open Go.RowKit

def fitN (_ num : Int) : Prop := -9223372036854775808 ≤ num ∧ num ≤ 9223372036854775807
/-- What typeOf of the program does for one expression. -/
def TyI (ds : List DeclL) (sg : List SigL) (e : ExprL) : Prop := ∀ (a0 : Option Addr) (n0 c0 : Nat) (a1 : Option Addr) (n1 c1 : Nat) (v : Value) (vars : List Int) (a : Option Addr) (n c : Nat) (w : World) (base : Nat) (D : Nat → Prop),
  SR w D ds sg a0 n0 c0 a1 n1 c1 → VR w base v vars → Rd w D (encExprs e.kids) (.slice a n c) → (∀ q, D q → q < base) → base ≤ w.heap.size → vars.length + 4 * nE e ≤ 1049576 → allT ds.length vars = true →
  Calls Tryz.prog 117 #[.agg #[.slice a0 n0 c0, .slice a1 n1 c1], v, .agg #[.int .i64 e.op, .int .i64 e.num, .slice a n c]] w fun r w' => r = .returned (.int .i64 (tyE ds sg vars e)) ∧ VR w' base v vars ∧ Ext (fun r => v.ownBlock = some r) w w'
theorem VR.mono {w : World} {base base' : Nat} {v : Value} {xs : List Int} (h : VR w base v xs) (hb : base' ≤ base) : VR w base' v xs := by
  obtain ⟨h1, h2⟩ := h
  refine ⟨h1, ?_⟩
  rcases h2 with h2 | ⟨g, cap, cur, e, hb', rest⟩
  · exact .inl h2
  · exact .inr ⟨g, cap, cur, e, Nat.le_trans hb hb', rest⟩
theorem VR.ints {w : World} {base : Nat} {a : Option Addr} {n c : Nat} {xs : List Int} (h : VR w base (.slice a n c) xs) : n = xs.length ∧ IntsL w (fun _ => True) a n xs := by
  obtain ⟨a', c', e, _, ho⟩ := h.slice
  injection e with e1 e2 e3
  subst e1 e2 e3
  exact ⟨rfl, ho.read.mono (fun _ _ => trivial)⟩

section
variable (ds : List DeclL) (sg : List SigL)

set_option maxRecDepth 100000 in
set_option maxHeartbeats 4000000 in
theorem implOneType (es : List ExprL) (IH0 : ∀ j, j < es.length → TyI ds sg (eAt es j)) (a0 : Option Addr) (n0 c0 : Nat) (a1 : Option Addr) (n1 c1 : Nat) (av : Option Addr) (nv cv : Nat) (vars : List Int) (a : Option Addr) (n c : Nat) (am : Option Addr) (nm cm : Nat) (fs : List (List Int)) (w : World) (base : Nat) (D : Nat → Prop)
    (hp : SR w D ds sg a0 n0 c0 a1 n1 c1) (hv : VR w base (.slice av nv cv) vars) (h : Rd w D (encExprs es) (.slice a n c)) (hD : ∀ q, D q → q < base) (hb : base ≤ w.heap.size) (hm : Rd w (fun _ => True) (encCons fs) (.slice am nm cm)) (hfl : fs.length = es.length)
    (hlen : vars.length + 4 + 4 * nEs es ≤ 1049576) (hall : allT ds.length vars = true) (hfs : ∀ i, i < fs.length → (cAt fs i).length ≤ 3 ∧ allT ds.length (cAt fs i) = true) :
    Calls Tryz.prog 161 #[.agg #[.slice a0 n0 c0, .slice a1 n1 c1], .slice av nv cv, .slice a n c, .slice am nm cm] w fun r w' => r = .returned (.int .i64 (oneT (tyArms ds sg vars es fs))) ∧ Keep w w' := by
  refine calls_k fun Q hQ => ?_
  have K0 := Keep.al w (.cells #[.slice a0 n0 c0, .slice a1 n1 c1] 130)
  have R0 := rowOf w #[.slice a0 n0 c0, .slice a1 n1 c1] 130
  obtain ⟨e1, hnc, hnm, hat⟩ := exprs_at h
  obtain ⟨e2, hmc, hmm, hmat⟩ := cons_at hm
  have HL := Lib.hid e1
  have HM := Lib.hid e2
  have HA := Lib.hid hat
  have HMA := Lib.hid hmat
  have IH := Lib.hid IH0
  have hn30 : n ≤ 262394 := by have := nEs_len es; omega
  have hnm2 : nm = n := by omega
  have HLen := Lib.hid hlen
  have HAll := Lib.hid hall
  have HFS := Lib.hid hfs
  have HFL := Lib.hid hfl
  have HD := Lib.hid hD
  have TL := Lib.hid (tyArms_len ds sg vars es fs)
  have TA := Lib.hid (fun i (hi : i < es.length) => tyArms_at ds sg vars (fs := fs) hi)
  have hvn : nv = vars.length := hv.ints.1
  have HVN := Lib.hid hvn
  have hnv : nv ≤ 1049576 := by omega
  subst hnm2
  clear e1 e2 hat hmat IH0 hlen hall hfs hD hvn hfl h hm
  go_enter Tryz.func161, Tryz.ntmps161
  go_wp2_with fail
  go_loopw [9, 15] (fun rv iv wr => ∃ (j : Nat) (r : Int), j ≤ nm ∧ iv = .int .i64 j ∧ rv = .int .i64 r ∧ Hid (j = 0 → r = -1) ∧ Hid (0 < j → 0 ≤ r ∧ ∀ l, l < j → iAt (tyArms ds sg vars es fs) l = r) ∧ Hid (Keep (w.alloc (.cells #[.slice a0 n0 c0, .slice a1 n1 c1] 130)) wr)) (fun _ iv _ => nm - (intOf iv).toNat)
  case atStart => exact ⟨0, -1, Nat.zero_le _, rfl, rfl, fun _ => rfl, fun h => absurd h (by omega), Ext.refl _ _⟩
  case round =>
    obtain ⟨j, r, hj, rfl, rfl, hI0, hI, hK⟩ := hrel
    by_cases hlt : j < nm
    · have HJ : Hid (j < es.length) := by have := HL.out; show _ < _; omega
      have KW := Lib.hid (K0.trans hK.out)
      obtain ⟨b, o, rfl, hd, a2, n2, c2, d0, d1, d2, r2⟩ := HA.out j hlt
      obtain ⟨bm, om, rfl, hdm, fa, fm, fc, dm, rm⟩ := HMA.out j hlt
      have KB := Lib.hid (Keep.al wr (.cells #[.int .i64 (eAt es j).op, .int .i64 (eAt es j).num, .slice a2 n2 c2] 58))
      have g0 := (KW.out.cell (World.block_lt_of_cell? w _ d0) (fun h => h)).trans d0
      have g1 := (KW.out.cell (World.block_lt_of_cell? w _ d1) (fun h => h)).trans d1
      have g2 := (KW.out.cell (World.block_lt_of_cell? w _ d2) (fun h => h)).trans d2
      have KX := Lib.hid (KW.out.trans KB.out)
      have gm := (KX.out.cell (World.block_lt_of_cell? w _ dm) (fun h => h)).trans dm
      have RS := row_ext R0 (hK.out.trans KB.out) (fun h => h)
      have RB := rowOf wr #[.int .i64 (eAt es j).op, .int .i64 (eAt es j).num, .slice a2 n2 c2] 58
      have hbw : base ≤ wr.heap.size := Nat.le_trans hb KW.out.size
      have HFO := Lib.hid (HFS.out j (by have := HFL.out; have := HJ.out; omega))
      have hfm : fm = (cAt fs j).length := (ints_at rm).1.symm
      have HFM := Lib.hid hfm
      have hfm3 : fm ≤ 3 := by have := HFO.out.1; omega
      have hbb : (vars ++ cAt fs j).length + 4 * nE (eAt es j) ≤ 1049576 := by have := nE_le es HJ.out; have := HLen.out; have := HFO.out.1; rw [List.length_append]; omega
      have HZ := Lib.hid (TA.out j HJ.out)
      obtain ⟨z, hz⟩ : ∃ z, tyE ds sg (vars ++ cAt fs j) (eAt es j) = z := ⟨_, rfl⟩
      have HZ2 := Lib.hid hz
      have qp := Lib.hid (hp.k KX.out)
      have qv := Lib.hid (hv.k KX.out)
      have qe := Lib.hid (r2.k KX.out)
      have qm := Lib.hid ((Rd.toInts rm).ext KX.out (fun _ _ h => h))
      clear d0 d1 d2 dm r2 rm hz hfm
      go_wp2_with fail
      generalize hW : wr.alloc (.cells #[.int .i64 (eAt es j).op, .int .i64 (eAt es j).num, .slice a2 n2 c2] 58) = W at *
      have x0 := RS.cell (i := 0) (by simp)
      have x1 := RS.cell (i := 1) (by simp)
      have b0 := RB.cell (i := 0) (by simp)
      have b1 := RB.cell (i := 1) (by simp)
      have b2 := RB.cell (i := 2) (by simp)
      simp at x0 x1 b0 b1 b2
      have hWs : wr.heap.size + 1 = W.heap.size := by rw [← hW]; simp
      have HWS := Lib.hid hWs
      have pc := Ext.refl0 W
      clear hW g0 g1 g2 hWs
      go_region_held3 (fun w' => w'.cell? ⟨w.heap.size, 0, none⟩ = some (.slice a0 n0 c0) ∧ w'.cell? ⟨w.heap.size, 1, none⟩ = some (.slice a1 n1 c1) ∧ w'.cell? ⟨bm, om + j, none⟩ = some (.slice fa fm fc) ∧ w'.cell? ⟨wr.heap.size, 0, none⟩ = some (.int .i64 (eAt es j).op) ∧ w'.cell? ⟨wr.heap.size, 1, none⟩ = some (.int .i64 (eAt es j).num) ∧ w'.cell? ⟨wr.heap.size, 2, none⟩ = some (.slice a2 n2 c2))
        (first | exact ⟨Keep.at pc x0, Keep.at pc x1, Keep.at pc gm, Keep.at pc b0, Keep.at pc b1, Keep.at pc b2⟩ | exact ⟨Keep.at (Ext.trans pc (Keep.al _ _)) x0, Keep.at (Ext.trans pc (Keep.al _ _)) x1, Keep.at (Ext.trans pc (Keep.al _ _)) gm, Keep.at (Ext.trans pc (Keep.al _ _)) b0, Keep.at (Ext.trans pc (Keep.al _ _)) b1, Keep.at (Ext.trans pc (Keep.al _ _)) b2⟩ | go_keep)
        (first
          | (go_at_call 202; have pl := Keep.al W.drew (.cells #[.slice av nv cv, .slice fa fm fc] 52); replace pc := Ext.trans pc pl; refine (concatTwo _ _ _ _ _ vars _ _ _ _ (cAt fs j) _ _ (boxk (Ext.refl _ _) 0) (boxk (Ext.refl _ _) 1) ((VR.k qv.out (Keep.dt pc)).ints.2) (qm.out.ext (Keep.dt pc) (fun _ _ h => h)) (by omega) (by omega)).mono ?_; rintro e wb ⟨v2, rfl, hv2, pb⟩; have hz2 := pc.size; have hz3 := pl.size; replace pc := Ext.trans pc pb)
          | (go_at_call 117; refine (IH.out j HJ.out _ _ _ _ _ _ v2 (vars ++ cAt fs j) _ _ _ _ base D (qp.out.k (Keep.dt pc)) (hv2.mono (by simp; have := HWS.out; omega)) (qe.out.k (Keep.dt pc)) HD.out (by have h1 := pc.size; change W.heap.size ≤ _ at h1; have := HWS.out; omega) hbb (allT_append HAll.out HFO.out.2)).mono ?_; rw [HZ2.out]; rintro e wc ⟨rfl, _, xc⟩; have hv3 := Lib.hid hv2.lt; replace pc := Ext.then_ pc xc (fun i hi e => by have h1 := (hv3.out i e).1; simp at h1; change i < W.heap.size at hi; omega)))
      have KN := Lib.hid ((hK.out.trans KB.out).trans (Keep.dt pc))
      have KE := Lib.hid (KX.out.trans (Keep.dt pc))
      have hTj : Hid (iAt (tyArms ds sg vars es fs) j = z) := by show _ = _; rw [HZ.out, HZ2.out]
      clear pc x0 x1 b0 b1 b2 gm RB RS
      by_cases hz0 : 0 ≤ z
      case neg =>
        have V : Hid (oneT (tyArms ds sg vars es fs) = -1) := oneT_neg (i := j) (by rw [TL.out]; exact HJ.out) (.inr (by rw [hTj.out]; omega))
        go_wp2_with fail
        exact fin_ hQ ⟨ret_i V.out.symm, KE.out⟩
      rcases Nat.eq_zero_or_pos j with hj0 | hj0
      · subst hj0
        go_wp2_with fail
        go_roundw
        case rel => exact ⟨1, z, by omega, by go_num, rfl, fun h => absurd h (by omega), fun _ => ⟨hz0, fun l hl => by
          have hl0 : l = 0 := by omega
          rw [hl0]; exact hTj.out⟩, KN⟩
        case measure => simp [intOf]; omega
      · by_cases hzr : z = r
        · have hzr' : (z != r) = false := by simpa using hzr
          have HZR := Lib.hid hzr
          clear hzr
          go_wp2_with fail
          go_roundw
          case rel => exact ⟨j + 1, z, by omega, by go_num, rfl, fun h => absurd h (by omega), fun _ => ⟨hz0, fun l hl => by
            rcases Nat.lt_succ_iff_lt_or_eq.1 hl with h | h
            · rw [HZR.out]; exact (hI.out hj0).2 l h
            · rw [h]; exact hTj.out⟩, KN⟩
          case measure => simp [intOf]; omega
        · have hzr' : (z != r) = true := by simpa using hzr
          have V : Hid (oneT (tyArms ds sg vars es fs) = -1) := oneT_neg (i := j) (by rw [TL.out]; exact HJ.out) (.inl (by rw [hTj.out, (hI.out hj0).2 0 hj0]; exact hzr))
          clear hzr
          go_wp2_with fail
          exact fin_ hQ ⟨ret_i V.out.symm, KE.out⟩
    · have V : Hid (oneT (tyArms ds sg vars es fs) = r) := by
        show _ = _
        rcases Nat.eq_zero_or_pos j with hj0 | hj0
        · have h0 : tyArms ds sg vars es fs = [] := List.eq_nil_of_length_eq_zero (by rw [TL.out]; have := HL.out; omega)
          rw [h0, hI0.out hj0]; rfl
        · exact oneT_same (by rw [TL.out]; have := HL.out; omega) (by have := (hI.out hj0).1; omega) (fun i hi => (hI.out hj0).2 i (by rw [TL.out] at hi; have := HL.out; omega))
      go_wp2_with fail
      exact fin_ hQ ⟨ret_i V.out.symm, K0.trans hK.out⟩
end
end Go.Proofs.YtkapldpmjkdmcaaGreat
