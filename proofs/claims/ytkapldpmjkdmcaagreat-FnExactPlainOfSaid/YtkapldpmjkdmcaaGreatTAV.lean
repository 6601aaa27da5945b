/- Clones of declarations and of constructors; cloneDecls of the program. -/
import Derived.Test.YtkapldpmjkdmcaaGreatTAS
import Derived.Test.YtkapldpmjkdmcaaGreatTAN
import Derived.Test.YtkapldpmjkdmcaaGreatTAR
import Derived.Test.YtkapldpmjkdmcaaGreatTAU
import Derived.Test.YtkapldpmjkdmcaaGreatTAF
import Derived.Test.YtkapldpmjkdmcaaGreatTAC
import Derived.StillTailTactics
import Derived.IntWalk
namespace Go.Proofs.YtkapldpmjkdmcaaGreat
open Go.RowKit

set_option maxHeartbeats 1000000 in
theorem cloneDeclRows (A : Option Addr) (m c : Nat) (ds : List DeclL) (D : Nat → Prop) (w : World) (h : Rd w D (encDecls ds) (.slice A m c)) (hm : m ≤ 1048576) :
    Calls Tryz.prog 104 #[.slice A m c] w fun e w' => ∃ v', e = .returned v' ∧ AccR w' w.heap.size (fun k => D k ∧ k < w.heap.size) 125 3 v' (ds.map rowD) ∧ Keep w w' := by
  refine calls_k fun Q hQ => ?_
  have hnil := fun (wx : World) => Lib.run_eql_slice_nil (P := Tryz.prog) wx 27 125 A m c 0 0 Tryz.underlying27
  obtain ⟨a', c', e0, hc', hm', hsl⟩ := Rd.arr_inv (s := 3) (rows := ds.map rowD) h
  injection e0 with e1 e2 e3
  have hml : (ds.map rowD).length = m := e2.symm
  rcases A with _ | x
  · have h0 : ds.map rowD = [] := by
      rcases Nat.eq_zero_or_pos (ds.map rowD).length with h0 | h0
      · exact List.eq_nil_of_length_eq_zero h0
      · obtain ⟨b, o, h1, _⟩ := hsl h0
        rw [← e1] at h1; cases h1
    have hm0 : m = 0 := by rw [← hml, h0]; rfl
    have HZ := Lib.hid h0
    rw [HZ.out] at hQ
    subst hm0
    clear e2 e3 hml hsl e1 h h0 hc' hm'
    go_enter Tryz.func104, Tryz.ntmps104
    go_wp2_with fail
    exact fin_ hQ ⟨_, rfl, AccR.nil _ _ _ _ _, Ext.refl _ _⟩
  have HO := Lib.hid (AccR.made w (fun k => D k ∧ k < w.heap.size) 125 3)
  have KA := Keep.al w (.cells #[] 125)
  have H1 := Lib.hid ((h.lt).k KA)
  have HML := Lib.hid hml
  clear e1 e2 e3 hml hsl hc' hm' h
  go_enter Tryz.func104, Tryz.ntmps104
  go_wp2_with (at_builtin; go_must (refine wpList_appR _ rfl (.tmp 5) (.tmp 6) 27 rfl w.heap.size 125 (.agg #[.int .i64 0, .int .i64 0, .slice none 0 0]) 3 40 Tryz.underlying27 (by kernel_rfl) rfl (by omega) (fun k => D k ∧ k < w.heap.size) _ _ rfl HO.out (some x) m c (ds.map rowD) (fun k => D k ∧ k < w.heap.size) rfl H1.out (fun k _ hk => ⟨hk, fun e => by have e' : some w.heap.size = some k := e; injection e' with e'; omega⟩) (by simp; omega) (by simp; omega) (by simp) ?_); intro v' w' hA hx hs)
  exact fin_ hQ ⟨_, rfl, hA, KA.then_ hx (fun i hi h => by omega)⟩

set_option maxHeartbeats 1000000 in
theorem cloneConRows (A : Option Addr) (m c : Nat) (ds : List (List Int)) (D : Nat → Prop) (w : World) (h : Rd w D (encCons ds) (.slice A m c)) (hm : m ≤ 1048576) :
    Calls Tryz.prog 105 #[.slice A m c] w fun e w' => ∃ v', e = .returned v' ∧ AccR w' w.heap.size (fun k => D k ∧ k < w.heap.size) 155 1 v' (ds.map rowC) ∧ Keep w w' := by
  refine calls_k fun Q hQ => ?_
  have hnil := fun (wx : World) => Lib.run_eql_slice_nil (P := Tryz.prog) wx 123 155 A m c 0 0 Tryz.underlying123
  obtain ⟨a', c', e0, hc', hm', hsl⟩ := Rd.arr_inv (s := 1) (rows := ds.map rowC) h
  injection e0 with e1 e2 e3
  have hml : (ds.map rowC).length = m := e2.symm
  rcases A with _ | x
  · have h0 : ds.map rowC = [] := by
      rcases Nat.eq_zero_or_pos (ds.map rowC).length with h0 | h0
      · exact List.eq_nil_of_length_eq_zero h0
      · obtain ⟨b, o, h1, _⟩ := hsl h0
        rw [← e1] at h1; cases h1
    have hm0 : m = 0 := by rw [← hml, h0]; rfl
    have HZ := Lib.hid h0
    rw [HZ.out] at hQ
    subst hm0
    clear e2 e3 hml hsl e1 h h0 hc' hm'
    go_enter Tryz.func105, Tryz.ntmps105
    go_wp2_with fail
    exact fin_ hQ ⟨_, rfl, AccR.nil _ _ _ _ _, Ext.refl _ _⟩
  have HO := Lib.hid (AccR.made w (fun k => D k ∧ k < w.heap.size) 155 1)
  have KA := Keep.al w (.cells #[] 155)
  have H1 := Lib.hid ((h.lt).k KA)
  have HML := Lib.hid hml
  clear e1 e2 e3 hml hsl hc' hm' h
  go_enter Tryz.func105, Tryz.ntmps105
  go_wp2_with (at_builtin; go_must (refine wpList_appR _ rfl (.tmp 5) (.tmp 6) 123 rfl w.heap.size 155 (.agg #[.slice none 0 0]) 1 24 Tryz.underlying123 (by kernel_rfl) rfl (by omega) (fun k => D k ∧ k < w.heap.size) _ _ rfl HO.out (some x) m c (ds.map rowC) (fun k => D k ∧ k < w.heap.size) rfl H1.out (fun k _ hk => ⟨hk, fun e => by have e' : some w.heap.size = some k := e; injection e' with e'; omega⟩) (by simp; omega) (by simp; omega) (by simp) ?_); intro v' w' hA hx hs)
  exact fin_ hQ ⟨_, rfl, hA, KA.then_ hx (fun i hi h => by omega)⟩


set_option maxRecDepth 100000 in
set_option maxHeartbeats 4000000 in
theorem implCloneDecls (ds : List DeclL) (hf : Few ds) (hfl : ∀ j k, (cAt (dAt ds j).cons k).length ≤ 1000) (a : Option Addr) (n c : Nat) (D : Nat → Prop) (w : World) (h : Rd w D (encDecls ds) (.slice a n c)) :
    Calls Tryz.prog 52 #[.slice a n c] w fun e w' => ∃ a' c', e = .returned (.slice a' n c') ∧ Own w' (fun k => w.heap.size ≤ k) (encDecls ds) (.slice a' n c') ∧ Keep w w' := by
  refine calls_k fun Q hQ => ?_
  have hnl : ds.length = n := (decls_at h).1
  have hn4 : n ≤ 4 := by have := hf.1; omega
  have HF := Lib.hid hf
  have HFL := Lib.hid hfl
  have HNL := Lib.hid hnl
  clear hf hfl
  go_enter Tryz.func52, Tryz.ntmps52
  go_wp2_with fail
  refine (cloneDeclRows a n c ds D w h (by omega)).mono ?_
  rintro e w1 ⟨v, rfl, hA, k1⟩
  have K1 := Lib.hid k1
  rcases Nat.eq_zero_or_pos n with h0 | h0
  · have hd : ds = [] := List.eq_nil_of_length_eq_zero (by omega)
    subst h0
    subst hd
    obtain ⟨av, cv, rfl, _, _, _⟩ := hA.read (by omega)
    clear hA k1 h hnl
    go_wp2_with fail
    go_loopw [12] (fun iv wr => iv = .int .i64 0 ∧ wr = w1) (fun _ _ => 0)
    case atStart => exact ⟨rfl, rfl⟩
    case round =>
      obtain ⟨rfl, rfl⟩ := hrel
      go_wp2_with fail
      exact fin_ hQ ⟨_, _, rfl, .nil _ _ _ _, K1.out⟩
  obtain ⟨b, cv, N, f, rfl, hb, hbl, hcv, hml, hN, hrow, hmix⟩ := hA.row (by simp; omega)
  rw [decls_len] at hcv hml hN
  rw [hnl] at hcv hml hN
  rw [show (ds.map rowD).length = n by rw [decls_len]; exact hnl]
  have HR0 := Lib.hid hrow
  have HM0 := Lib.hid hmix
  have E0 : Hid (Ext (fun k => k = b) w1 w1) := Ext.refl _ _
  clear hA k1 h hrow hmix hnl
  go_wp2_with fail
  go_loopw [12] (fun iv wr => ∃ (j : Nat) (f : Nat → Value) (hi : Nat), j ≤ n ∧ iv = .int .i64 j ∧ Hid (wr.rowIs b 125 N f) ∧ Hid (Mix wr (fun k => (D k ∧ k < w.heap.size) ∧ k ≠ b ∧ k < w1.heap.size) w1.heap.size hi 3 f (ds.map rowD) j) ∧ hi ≤ wr.heap.size ∧ Hid (Ext (fun k => k = b) w1 wr)) (fun iv _ => n - (intOf iv).toNat)
  case atStart => exact ⟨0, f, w1.heap.size, Nat.zero_le _, rfl, HR0, HM0, Nat.le_refl _, E0⟩
  case round =>
    clear HR0 HM0 E0 f
    obtain ⟨j, f, hi, hj, rfl, HR, HM, hhi, HE⟩ := hrel
    obtain ⟨wo, rfl⟩ : ∃ wo : World, wo = wr := ⟨_, rfl⟩
    have hwo := HE.out.size
    by_cases hlt : j < n
    · have hjl : j < ds.length := by have := HNL.out; omega
      have hlo := HM.out.lo_le
      have q0 := HM.out.at (l := 0) (by simpa using hjl) (by omega)
      have q1 := HM.out.at (l := 1) (by simpa using hjl) (by omega)
      have q2 := HM.out.at (l := 2) (by simpa using hjl) (by omega)
      rw [rAt, decls_row ds j hjl] at q0 q1 q2
      have v0 := q0.num_inv
      have v1 := q1.num_inv
      obtain ⟨ac, cc, v2, hcc, hmc, _⟩ := Rd.arr_inv (s := 1) (rows := (dAt ds j).cons.map rowC) q2
      rw [v2] at q2
      obtain ⟨mc, hmce⟩ : ∃ m, ((dAt ds j).cons.map rowC).length = m := ⟨_, rfl⟩
      rw [hmce] at v2 q2 hcc hmc
      have hcl : (dAt ds j).cons.length = mc := by rw [← hmce]; simp
      have hm3 : mc ≤ 3 := by rw [← hcl]; exact (HF.out.2 j hjl)
      have HCL := Lib.hid hcl
      have d0 := HR.out.cell (i := j * 3) (by omega)
      have d1 := HR.out.cell (i := j * 3 + 1) (by omega)
      have d2 := HR.out.cell (i := j * 3 + 2) (by omega)
      have v0' : f (j * 3) = .int .i64 (dAt ds j).from_ := v0
      rw [v0'] at d0
      rw [v1] at d1
      rw [v2] at d2
      have KB := Keep.al wo (.cells #[.int .i64 (dAt ds j).from_, .int .i64 (dAt ds j).to_, .slice ac mc cc] 125)
      have RB := rowOf wo #[.int .i64 (dAt ds j).from_, .int .i64 (dAt ds j).to_, .slice ac mc cc] 125
      have QC := Lib.hid (q2.k KB)
      have HR1 := Lib.hid (row_ext HR.out KB (fun h => h))
      have sB : (wo.alloc (.cells #[.int .i64 (dAt ds j).from_, .int .i64 (dAt ds j).to_, .slice ac mc cc] 125)).heap.size = wo.heap.size + 1 := by simp
      have hno : j * 3 + 2 < N := by omega
      have KB' := Lib.hid KB
      have RB := Lib.hid RB
      clear q0 q1 q2 v0 v1 v2 v0' hmce hcl KB
      go_wp2_with fail
      refine (cloneConRows ac mc cc (dAt ds j).cons _ _ QC.out (by omega)).mono ?_
      rintro e w2 ⟨v2, rfl, hA2, k2⟩
      have HA2 := Lib.hid hA2
      have K22 := Lib.hid k2
      have K2 := Lib.hid (KB'.out.trans k2)
      have hw2 := K2.out.size
      have HR2 := Lib.hid (row_ext HR1.out k2 (fun h => h))
      have RB2 := row_ext RB.out k2 (fun h => h)
      have s0 := HR2.out.cell (i := j * 3 + 2) hno
      have s1 := HR2.out.frozen (j * 3 + 2)
      have bx2 : w2.cell? ⟨wo.heap.size, 2, none⟩ = some (.slice ac mc cc) := RB2.cell (i := 2) (by simp)
      have X3 : Hid (Ext (fun k => k = b) w2 (w2.setCell ⟨b, j * 3 + 2, none⟩ v2)) := (Ext.refl (fun k => k = b) w2).setCell (p := ⟨b, j * 3 + 2, none⟩) (.inr rfl) _
      have HR3 : Hid ((w2.setCell ⟨b, j * 3 + 2, none⟩ v2).rowIs b 125 N (fun k => if k = j * 3 + 2 then v2 else f k)) := HR2.out.set _ _
      have HM3 := Lib.hid ((HM.out.k K2.out).ext X3.out (fun k h1 h2 e => by omega) (fun k hk e => hk.2.1 e))
      have HE3 := Lib.hid (HE.out.trans (Keep.to K2.out) |>.trans X3.out)
      have HRW : Hid (rAt (ds.map rowD) j 2 = encCons (dAt ds j).cons) := by show _ = _; rw [rAt, decls_row ds j hjl]; rfl
      have hR0 : ∃ z, rAt (ds.map rowD) j 0 = .num z := ⟨_, by rw [rAt, decls_row ds j hjl]; rfl⟩
      have hR1 : ∃ z, rAt (ds.map rowD) j 1 = .num z := ⟨_, by rw [rAt, decls_row ds j hjl]; rfl⟩
      have HRN : Hid (∀ l, l < 3 → l ≠ 2 → ∃ z, rAt (ds.map rowD) j l = .num z) := fun l hl hl2 => by
        rcases (show l = 0 ∨ l = 1 by omega) with rfl | rfl
        · exact hR0
        · exact hR1
      have HJL : Hid (j < (ds.map rowD).length) := by show _ < _; rw [decls_len]; exact hjl
      have hk2 := hA2.bound
      clear hA2 RB2 hR0 hR1 k2
      rcases Nat.eq_zero_or_pos mc with hm0 | hm0
      · have hcz : (dAt ds j).cons = [] := List.eq_nil_of_length_eq_zero (by have := HCL.out; omega)
        obtain ⟨a2, c2, e9, hc2, _, _⟩ := HA2.out.read (by omega)
        rw [hcz] at e9
        change v2 = .slice a2 0 c2 at e9
        have HCZ := Lib.hid hcz
        subst hm0
        subst e9
        have HRF := HR3
        have HMF : Hid (Mix (w2.setCell ⟨b, j * 3 + 2, none⟩ (.slice a2 0 c2)) (fun k => (D k ∧ k < w.heap.size) ∧ k ≠ b ∧ k < w1.heap.size) w1.heap.size (w2.setCell ⟨b, j * 3 + 2, none⟩ (.slice a2 0 c2)).heap.size 3 (fun k => if k = j * 3 + 2 then (.slice a2 0 c2 : Value) else f k) (ds.map rowD) (j + 1)) := by
          refine HM3.out.next (l0 := 2) (D2 := fun _ => False) HJL.out (by omega) HRN.out (fun k hk => if_neg hk) ?_ (fun _ h => h.elim) (by have := X3.out.size; omega)
          rw [if_pos rfl, HRW.out, HCZ.out]
          exact .nil _ _ _ _
        have HEF := HE3
        clear hcz hk2 HA2
        go_wp2_with fail
        go_loopw [27] (fun iv2 wr2 => iv2 = .int .i64 0 ∧ wr2 = w2.setCell ⟨b, j * 3 + 2, none⟩ (.slice a2 0 c2)) (fun _ _ => 0)
        case atStart => exact ⟨rfl, rfl⟩
        case round =>
          obtain ⟨rfl, rfl⟩ := hrel
          go_wp2_with fail
          go_roundw
          case rel => exact ⟨j + 1, _, (w2.setCell ⟨b, j * 3 + 2, none⟩ (.slice a2 0 c2)).heap.size, by omega, by go_num, HRF.out, HMF.out, Nat.le_refl _, HEF.out⟩
          case measure => simp [intOf]; omega
      · obtain ⟨b2, c2, N2, g, rfl, hb2, hbl2, hc2, hml2, hN2, hrow2, hmix2⟩ := HA2.out.row (by rw [List.length_map]; have := HCL.out; omega)
        rw [show ((dAt ds j).cons.map rowC).length = mc by rw [List.length_map]; exact HCL.out] at *
        rw [Nat.mul_one] at hN2
        have hb2' : wo.heap.size + 1 ≤ b2 := by have := hb2; rw [sB] at this; exact this
        have hnb : b2 ≠ b := by omega
        have HG3 := Lib.hid (row_ext hrow2 X3.out hnb)
        have HM0 := Lib.hid ((hmix2.mono (D1 := fun k => (D k ∧ k < w.heap.size) ∧ k ≠ b2 ∧ k < w2.heap.size) (fun k hk => ⟨hk.1.1.1, hk.2.1, hk.2.2⟩)).ext X3.out (fun k h1 h2 e => by omega) (fun k hk e => by have := hk.1.2; omega))
        obtain ⟨ec, hcc', hcm', hcat⟩ := cons_at QC.out
        have HAT := Lib.hid hcat
        have E0 : Hid (Ext (fun k => k = b2) (w2.setCell ⟨b, j * 3 + 2, none⟩ (.slice (some ⟨b2, 0, none⟩) mc c2)) (w2.setCell ⟨b, j * 3 + 2, none⟩ (.slice (some ⟨b2, 0, none⟩) mc c2))) := Ext.refl _ _
        have hsz3 : (w2.setCell ⟨b, j * 3 + 2, none⟩ (.slice (some ⟨b2, 0, none⟩) mc c2)).heap.size = w2.heap.size := by simp
        have HSZ3 := Lib.hid hsz3
        clear hk2 HA2 hrow2 hmix2 hb2 hcat hsz3 ec
        go_wp2_with fail
        obtain ⟨w3, hw3⟩ : ∃ yW : World, yW = w2.setCell ⟨b, j * 3 + 2, none⟩ (.slice (some ⟨b2, 0, none⟩) mc c2) := ⟨_, rfl⟩
        rw [← hw3] at HG3 HM0 E0 HSZ3 X3 HR3 HM3 HE3
        rw [← hw3]
        clear hw3
        go_loopw [27] (fun iv2 wr2 => ∃ (i : Nat) (g : Nat → Value) (hi2 : Nat), i ≤ mc ∧ iv2 = .int .i64 i ∧ Hid (wr2.rowIs b2 155 N2 g) ∧ Hid (Mix wr2 (fun k => (D k ∧ k < w.heap.size) ∧ k ≠ b2 ∧ k < w2.heap.size) w2.heap.size hi2 1 g ((dAt ds j).cons.map rowC) i) ∧ hi2 ≤ wr2.heap.size ∧ Hid (Ext (fun k => k = b2) w3 wr2)) (fun iv2 _ => mc - (intOf iv2).toNat)
        case atStart => exact ⟨0, g, w2.heap.size, Nat.zero_le _, rfl, HG3, HM0, by have := HSZ3.out; omega, E0⟩
        case round =>
          clear HG3 HM0 E0 g
          obtain ⟨i, g, hi2, hi, rfl, HG, HM2, hhi2, HE2⟩ := hrel
          obtain ⟨wv, rfl⟩ : ∃ wv : World, wv = wr := ⟨_, rfl⟩
          have hwv := HE2.out.size
          have HR4 := row_ext HR3.out HE2.out (fun h => hnb h.symm)
          by_cases hil : i < mc
          · obtain ⟨bo, oo, rfl, hbo, af, nf, cf, k0, rf⟩ := HAT.out i hil
            have hbo' : bo < w.heap.size := hbo.1.2
            have k0 := HE2.out.cq (X3.out.cq (K22.out.cq k0 (fun h => h)) (fun e => by change bo = b at e; omega)) (fun e => by change bo = b2 at e; omega)
            have KX := Keep.al wv (.cells #[.slice af nf cf] 155)
            have RKB := rowOf wv #[.slice af nf cf] 155
            have RG2 := row_ext HG.out KX (fun h => h)
            have RX := row_ext HR4 KX (fun h => h)
            have RF := (((((rf.mono (D' := fun k => k < w.heap.size) (fun k hk => hk.1.2)).k K22.out).ext X3.out (fun k hk e => by omega)).ext HE2.out (fun k hk e => by omega)).k KX)
            have HKX := Lib.hid KX
            have hfi := HFL.out j i
            have hnf : (cAt (dAt ds j).cons i).length = nf := (ints_at RF).1
            have HFI : Hid ((cAt (dAt ds j).cons i).length ≤ 1000) := hfi
            have sX : (wv.alloc (.cells #[.slice af nf cf] 155)).heap.size = wv.heap.size + 1 := by simp
            have hnf3 : nf ≤ 1000 := by omega
            have hv2 : w2.heap.size ≤ wv.heap.size := by have := HSZ3.out; omega
            have RF := Lib.hid RF
            clear rf KX hnf hfi HR4
            go_wp2_with fail
            obtain ⟨kb, hkb⟩ : ∃ g, g = wv.heap.size := ⟨_, rfl⟩
            have HKB := Lib.hid hkb
            rw [← hkb] at RKB
            rw [← hkb]
            obtain ⟨wx, hwx⟩ : ∃ y : World, y = wv.alloc (.cells #[.slice af nf cf] 155) := ⟨_, rfl⟩
            rw [← hwx] at RKB RG2 RX RF HKX sX
            rw [← hwx]
            have x0 : wx.cell? ⟨kb, 0, none⟩ = some (.slice af nf cf) := RKB.cell (i := 0) (by simp)
            have z2 : wx.cell? ⟨b, j * 3 + 2, none⟩ = some (.slice (some ⟨b2, 0, none⟩) mc c2) := (RX.cell (i := j * 3 + 2) hno).trans (by rw [if_pos rfl])
            have RG2 := Lib.hid RG2
            have HSX : Hid (w2.heap.size ≤ wx.heap.size ∧ hi2 ≤ wx.heap.size ∧ b2 < wx.heap.size ∧ b < wx.heap.size) := ⟨by omega, by omega, by omega, by omega⟩
            clear hkb hwx RKB RX sX k0
            refine wp_region_held_drew (S := fun w' => w'.cell? ⟨b, j * 3 + 2, none⟩ = some (.slice (some ⟨b2, 0, none⟩) mc c2) ∧ w'.cell? ⟨kb, 0, none⟩ = some (.slice af nf cf)) (by kernel_rfl) ⟨z2, x0⟩ (fun hHeld => ?_)
            refine wT 0 hHeld ?_
            try go_frame
            refine wT 1 hHeld ?_
            try go_frame
            refine wT 2 hHeld ?_
            try go_frame
            refine wT 3 hHeld ?_
            try go_frame
            refine wT 4 hHeld ?_
            try go_frame
            refine wT 5 hHeld ?_
            try go_frame
            refine wT 6 hHeld ?_
            try go_frame
            refine wT 7 hHeld ?_
            try go_frame
            refine wO 8 (fun K hK => ?_)
            go_simp
            go_at_call 54
            refine (cloneInts af nf cf (cAt (dAt ds j).cons i) _ wx.drew (RF.out.kd).toInts (by omega)).mono ?_
            rintro e Y1 ⟨vf, rfl, hvf, kY1⟩
            have z2Y1 := Keep.at kY1 z2
            have x0Y1 := Keep.at kY1 x0
            obtain ⟨a9, c9, e9, hc9, _⟩ := hvf.slice
            obtain ⟨n9, hn9⟩ : ∃ m, (cAt (dAt ds j).cons i).length = m := ⟨_, rfl⟩
            rw [hn9] at e9
            subst e9
            have HVF : Hid (VR Y1 wx.heap.size (.slice a9 n9 c9) (cAt (dAt ds j).cons i)) := hvf.lower (Nat.le_refl _)
            have KY := Lib.hid (Keep.dt kY1)
            have RG3 := Lib.hid (row_ext RG2.out KY.out (fun h => h))
            clear hvf hc9 hn9
            refine hK.out _ _ ⟨z2Y1, x0Y1⟩ (fun hHeld => ?_)
            clear hK K
            try go_frame
            refine wT 9 hHeld ?_
            try go_frame
            refine wT 10 hHeld ?_
            try go_frame
            refine wO 11 (fun K hK => ?_)
            have g1 : Y1.cell? ⟨b2, i, none⟩ = some (g i) := RG3.out.cell (i := i) (by omega)
            have g2 := RG3.out.frozen i
            have hq1 : b2 ≠ b := by omega
            have hq2 : b2 ≠ kb := by have := HKB.out; omega
            go_simp
            obtain ⟨wy, hWy⟩ : ∃ yW : World, yW = Y1.setCell ⟨b2, i, none⟩ (.slice a9 n9 c9) := ⟨_, rfl⟩
            rw [← hWy]
            have XY : Hid (Ext (fun k => k = b2) Y1 wy) := by show Ext _ _ _; rw [hWy]; exact (Ext.refl (fun k => k = b2) Y1).setCell (p := ⟨b2, i, none⟩) (.inr rfl) _
            have RY : Hid (wy.rowIs b2 155 N2 (fun k => if k = i then (.slice a9 n9 c9 : Value) else g k)) := by show World.rowIs _ _ _ _ _; rw [hWy]; exact RG3.out.set i (.slice a9 n9 c9)
            replace hWy := Lib.hid hWy
            have z2y := XY.out.cq z2Y1 (fun h => hq1 h.symm)
            have x0y := XY.out.cq x0Y1 (fun h => hq2 h.symm)
            refine hK.out _ _ ⟨z2y, x0y⟩ (fun hHeld => ?_)
            clear hK K
            try go_frame
            refine wpAnyH_done (by kernel_rfl) ?_ _
            rotate_left
            all_goals
              have MX2 := Lib.hid ((HM2.out.k HKX.out).k KY.out)
              have OF := Lib.hid ((HVF.out.owns (by have := HFI.out; omega)).ext XY.out (fun k hk e => by have := (HVF.out.lt k hk).1; have := HSX.out; omega))
              have hfl := HVF.out.lt
              have MX3 : Hid (Mix wy (fun k => (D k ∧ k < w.heap.size) ∧ k ≠ b2 ∧ k < w2.heap.size) w2.heap.size wy.heap.size 1 (fun k => if k = i then (.slice a9 n9 c9 : Value) else g k) ((dAt ds j).cons.map rowC) (i + 1)) := by
                show Mix _ _ _ _ _ _ _ _
                refine (MX2.out.ext XY.out (fun k h1 h2 e => by omega) (fun k hk e => hk.2.1 e)).next (l0 := 0) (D2 := fun k => (Value.slice a9 n9 c9).ownBlock = some k) (by rw [List.length_map]; have := HCL.out; omega) (by omega) (fun l hl hl0 => by omega) (fun k hk => if_neg (by omega)) ?_ (fun k hk => ⟨by have := (hfl k hk).1; have := HSX.out; omega, by have := (hfl k hk).2; have := XY.out.size; omega⟩) (by have := XY.out.size; have := KY.out.size; have := HSX.out; omega)
                rw [if_pos (by omega), rAt, cons_row _ i (by have := HCL.out; omega)]
                exact OF.out
              have XF := Lib.hid ((((HE2.out.trans (Keep.to HKX.out)).trans (Keep.to KY.out)).then_ XY.out (fun i hi e => e)))
              go_wp2
              go_roundw
              case rel => exact ⟨i + 1, _, wy.heap.size, by omega, by go_num, RY.out, MX3.out, Nat.le_refl _, XF.out⟩
              case measure => simp [intOf]; omega
          · have him : i = mc := by omega
            subst him
            have OW := HM2.out
            rw [show i = ((dAt ds j).cons.map rowC).length by rw [List.length_map]; exact HCL.out.symm] at OW
            have OF := (OW.own HG.out (by rw [List.length_map, HCL.out]; omega) (c := c2) (by rw [List.length_map, HCL.out]; exact hc2) (by rw [List.length_map, HCL.out]; exact hml2) (by omega) hbl2).lt
            rw [List.length_map, HCL.out] at OF
            have HRF := Lib.hid HR4
            have HMF : Hid (Mix wv (fun k => (D k ∧ k < w.heap.size) ∧ k ≠ b ∧ k < w1.heap.size) w1.heap.size wv.heap.size 3 (fun k => if k = j * 3 + 2 then (.slice (some ⟨b2, 0, none⟩) i c2 : Value) else f k) (ds.map rowD) (j + 1)) := by
              refine (HM3.out.ext HE2.out (fun k h1 h2 e => by omega) (fun k hk e => by have := hk.2.2; omega)).next (l0 := 2) (D2 := fun k => b2 ≤ k ∧ k < wv.heap.size) HJL.out (by omega) HRN.out (fun k hk => if_neg hk) ?_ (fun k hk => ⟨by have := hk.1; omega, hk.2⟩) (by have := HSZ3.out; omega)
              rw [if_pos rfl, HRW.out]
              exact OF
            have HEF : Hid (Ext (fun k => k = b) w1 wv) := HE3.out.then_ HE2.out (fun k hk e => by omega)
            clear OW OF HR4
            go_wp2_with fail
            go_roundw
            case rel => exact ⟨j + 1, _, wv.heap.size, by omega, by go_num, HRF.out, HMF.out, Nat.le_refl _, HEF.out⟩
            case measure => simp [intOf]; omega
    · have hjn : j = n := by omega
      subst hjn
      have OW := HM.out
      rw [show j = (ds.map rowD).length by rw [decls_len]; exact HNL.out.symm] at OW
      have OF := (OW.own HR.out (by rw [decls_len, HNL.out]; exact hN) (c := cv) (by rw [decls_len, HNL.out]; exact hcv) (by rw [decls_len, HNL.out]; exact hml) (by omega) hbl).mono (D' := fun k => w.heap.size ≤ k) (fun k hk => by omega)
      rw [decls_len, HNL.out] at OF
      have OF := Lib.hid OF
      have KF := Lib.hid (K1.out.then_ HE.out (fun i hi e => by omega))
      clear OW
      go_wp2_with fail
      exact fin_ hQ ⟨_, _, rfl, OF.out, KF.out⟩
end Go.Proofs.YtkapldpmjkdmcaaGreat
/- An element of a slice of the call's own: opened for writing, and shut again. -/
namespace Go.Proofs.YtkapldpmjkdmcaaGreat
open Go.RowKit

theorem Own.val {w : World} {D : Nat → Prop} {d : Dat} {u u' : Value} (e : u = u') (h : Own w D d u') : Own w D d u := e ▸ h
theorem Own.num_inv {w : World} {D : Nat → Prop} {z : Int} {v : Value} (h : Own w D (.num z) v) : v = .int .i64 z := by cases h; rfl
theorem Own.slice_inv {w : World} {D : Nat → Prop} {s : Nat} {rows : List (List Dat)} {v : Value} (h : Own w D (.arr s rows) v) : ∃ a n c, v = .slice a n c := by
  cases h with
  | nil => exact ⟨_, _, _, rfl⟩
  | arr => exact ⟨_, _, _, rfl⟩
theorem Own.openRow {w : World} {D : Nat → Prop} {s : Nat} {R : List (List Dat)} {a : Option Addr} {n c j : Nat} (h : Own w D (.arr s R) (.slice a n c)) (hj : j < n) :
    ∃ (b : Nat) (T : TypeId) (N : Nat) (f : Nat → Value) (E : Nat → Nat → Prop), a = some ⟨b, 0, none⟩ ∧ D b ∧ w.rowIs b T N f ∧ n * s ≤ N ∧ (∀ i k, i < s → E i k → D k ∧ k ≠ b) ∧ (∀ i i' k, i < s → i' < s → E i k → E i' k → i = i') ∧ (∀ i, i < s → Own w (E i) (rAt R j i) (f (j * s + i))) ∧
      ∀ (w' : World) (f' : Nat → Value) (r : List Dat), w'.rowIs b T N f' → Ext (fun k => k = b ∨ ∃ i, i < s ∧ E i k) w w' → (∀ k, ¬ (j * s ≤ k ∧ k < j * s + s) → f' k = f k) → r.length = s → (∀ i, i < s → Own w' (E i) (dGet r i) (f' (j * s + i))) → Own w' D (.arr s (R.set j r)) (.slice a n c) := by
  cases h with
  | nil => omega
  | arr D E0 s rows b c T N f hD h0 hs0 hc hm hs' hN hrow hE0 hdis0 hr =>
    refine ⟨b, T, N, f, E0 j, rfl, hD, hrow, hN, fun i k hi hk => hE0 j i k hj hi hk, fun i i' k hi hi' hk hk' => (hdis0 j i j i' k hj hi hj hi' hk hk').2, fun i hi => hr j i hj hi, ?_⟩
    intro w' f' r hrow' hx hoff hlen ho
    have hl : (R.set j r).length = R.length := by simp
    have q := Own.arr (w := w') D E0 s (R.set j r) b c T N f' hD (by rw [hl]; exact h0) hs0 (by rw [hl]; exact hc) (by rw [hl]; exact hm)
      (fun i hi => by
        rw [hl] at hi
        rw [rGet_set hj]
        by_cases e : i = j
        · rw [if_pos e, hlen]
        · rw [if_neg e, hs' i hi]) (by rw [hl]; exact hN) hrow' (by rw [hl]; exact hE0) (by rw [hl]; exact hdis0)
      (fun i l hi hli => by
        rw [hl] at hi
        by_cases e : i = j
        · subst e
          rw [rAt, rGet_set hj, if_pos rfl]
          exact ho l hli
        · rw [rAt, rGet_set hj, if_neg e, hoff _ (fun hq => e (idx_inj hli (j' := i * s + l - j * s) (by omega) (by omega)).1)]
          refine (hr i l hi hli).ext hx (fun k hk hk' => ?_)
          rcases hk' with e1 | ⟨i', hi', hk'⟩
          · exact (hE0 i l k hi hli hk).2 e1
          · exact e (hdis0 i l j i' k hi hli hj hi' hk hk').1)
    rw [hl] at q
    exact q
end Go.Proofs.YtkapldpmjkdmcaaGreat
/- The laws' own helpers: marks in data of the call's own. -/
namespace Go.Proofs.YtkapldpmjkdmcaaGreat
open Go.RowKit


def MkC (f : FuncId) (d : Dat) : Prop := ∀ (a : Option Addr) (n c : Nat) (D : Nat → Prop) (k : Int) (w : World), Own w D d (.slice a n c) → 0 ≤ k → k + (cntD d : Int) ≤ 4611686018427387904 →
  Calls Tryz.prog f #[.slice a n c, .int .i64 k] w fun e w' => ∃ k' : Int, e = .returned (.int .i64 k') ∧ k' = k + (cntD d : Int) ∧ Own w' D (mkD d k) (.slice a n c) ∧ Ext D w w'


set_option maxRecDepth 100000 in
set_option maxHeartbeats 4000000 in
theorem markIntS (xs : List Int) : MkC 91 (encInts xs) := by
  intro a n c D k w h h0 h1
  refine calls_k fun Q hQ => ?_
  obtain ⟨e1, hnc, hm, _⟩ := ints_at h.read
  have HL := Lib.hid e1
  have hrl : (xs.map rowI).length = n := by rw [ints_len]; exact e1
  have e2 : cntD (encInts xs) = cntRR (xs.map rowI) := by rw [encInts, cntD]
  have e3 : mkD (encInts xs) k = .arr 1 (mkRR (xs.map rowI) k) := by rw [encInts, mkD]
  rw [e2, e3] at hQ
  rw [e2] at h1
  have HRL := Lib.hid hrl
  clear e1 e2 e3 hrl
  go_enter Tryz.func91, Tryz.ntmps91
  go_wp2
  go_loopw [1, 5] (fun kv iv wr => ∃ (j : Nat) (K : Int), j ≤ n ∧ iv = .int .i64 j ∧ kv = .int .i64 K ∧ Hid (K = k + (cntRR ((xs.map rowI).take j) : Int)) ∧ Own wr D (.arr 1 (mkTo (xs.map rowI) k j)) (.slice a n c) ∧ Ext D w wr) (fun _ iv _ => n - (intOf iv).toNat)
  case atStart => exact ⟨0, k, Nat.zero_le _, rfl, rfl, by show _ = _; simp [cntRR], by rw [mkTo_zero]; exact h, Ext.refl _ _⟩
  case round =>
    obtain ⟨j, K, hj, rfl, rfl, HK, hO, hX⟩ := hrel
    by_cases hlt : j < n
    · have hjl : j < (xs.map rowI).length := by rw [HRL.out]; exact hlt
      have hct := cntRR_take (xs.map rowI) j hjl
      have hcl := cntRR_take_le (xs.map rowI) (j + 1)
      have hrow := ints_row xs j (by have := HL.out; omega)
      have hms := mkTo_succ (xs.map rowI) k j hjl
      have hmg := mkTo_get (xs.map rowI) k j hjl
      rw [hrow] at hct hms hmg
      have hcr : cntR [.num (iAt xs j)] = 1 := by simp only [cntR, cntD] <;> omega
      rw [hcr] at hct
      have hb0 : 0 ≤ K := by have := HK.out; omega
      have hb1 : K + ((1 : Nat) : Int) ≤ 4611686018427387904 := by have := HK.out; omega
      obtain ⟨b, TT, NN, f, E, rfl, hDb, hr, hNN, hE, hdis, how, hcl2⟩ := hO.openRow hlt
      have o0 := how 0 (by omega)
      rw [rAt, hmg] at o0
      have f0 := Own.num_inv (z := iAt xs j) o0
      have v0 := hr.cell (i := j * 1 + 0) (Nat.lt_of_lt_of_le (idx_lt hlt (by omega)) hNN)
      rw [f0] at v0
      have g0 := hr.frozen (j * 1 + 0)
      simp only [Nat.mul_one, Nat.add_zero] at v0 g0
      clear f0
      have HCT := Lib.hid hct
      have HMS := Lib.hid hms
      have HOFF := Lib.hid hcl2
      have X : Ext (fun q => q = b ∨ ∃ i, i < 1 ∧ E i q) wr wr := Ext.refl _ _
      have hbE : ∀ i q, i < 1 → E i q → ¬ q = b := fun i q hi hq => (hE i q hi hq).2
      have HDis := Lib.hid hdis
      clear hct hcl hms hmg hcr hrow how hcl2 hdis o0
      have XS := (Ext.refl (fun q => q = b) wr).setCell (p := ⟨b, j, none⟩) (.inr rfl) (.int .i64 (K))
      replace hr := hr.set (j) (.int .i64 (K))
      replace X := X.trans (XS.mono (fun q _ hq => .inl hq))
      clear XS
      have HR := Lib.hid hr
      clear hr
      go_wp2_with fail
      go_roundw
      case rel => exact ⟨j + 1, K + 1, by omega, by go_num, rfl, by
        show _ = _
        have h1 := HCT.out; have h2 := HK.out; omega, by
        rw [HMS.out, ← HK.out]
        have e : mkR [.num (iAt xs j)] K = [.num (K)] := by
          simp only [mkR, mkD]
          first | rfl | (congr <;> omega) | (repeat (first | rfl | omega | (congr 1)))
        rw [e]
        refine HOFF.out _ _ _ HR.out X (fun q hq => ?_) rfl (fun q hq => ?_)
        · rw [if_neg (by omega)]
        · rcases q with _ | q
          · exact Own.val (by simp) (.num _ _)
          · omega, hX.trans (X.mono (fun q _ hq => by
        rcases hq with rfl | ⟨i, hi, hq⟩
        · exact hDb
        · exact (hE i q hi hq).1))⟩
      case measure => simp [intOf]; omega
    · have HJ : Hid (j = n) := by show _ = _; omega
      go_wp2
      exact fin_ hQ ⟨K, rfl, by rw [HK.out, HJ.out, List.take_of_length_le (Nat.le_of_eq HRL.out)], by rw [mkTo_all _ _ (HJ.out.trans HRL.out.symm)] at hO; exact hO, hX⟩

set_option maxRecDepth 100000 in
set_option maxHeartbeats 4000000 in
theorem markConS (xs : List (List Int)) : MkC 90 (encCons xs) := by
  intro a n c D k w h h0 h1
  refine calls_k fun Q hQ => ?_
  obtain ⟨e1, hnc, hm, _⟩ := cons_at h.read
  have HL := Lib.hid e1
  have hrl : (xs.map rowC).length = n := by rw [cons_len]; exact e1
  have e2 : cntD (encCons xs) = cntRR (xs.map rowC) := by rw [encCons, cntD]
  have e3 : mkD (encCons xs) k = .arr 1 (mkRR (xs.map rowC) k) := by rw [encCons, mkD]
  rw [e2, e3] at hQ
  rw [e2] at h1
  have HRL := Lib.hid hrl
  clear e1 e2 e3 hrl
  go_enter Tryz.func90, Tryz.ntmps90
  go_wp2
  go_loopw [1, 5] (fun kv iv wr => ∃ (j : Nat) (K : Int), j ≤ n ∧ iv = .int .i64 j ∧ kv = .int .i64 K ∧ Hid (K = k + (cntRR ((xs.map rowC).take j) : Int)) ∧ Own wr D (.arr 1 (mkTo (xs.map rowC) k j)) (.slice a n c) ∧ Ext D w wr) (fun _ iv _ => n - (intOf iv).toNat)
  case atStart => exact ⟨0, k, Nat.zero_le _, rfl, rfl, by show _ = _; simp [cntRR], by rw [mkTo_zero]; exact h, Ext.refl _ _⟩
  case round =>
    obtain ⟨j, K, hj, rfl, rfl, HK, hO, hX⟩ := hrel
    by_cases hlt : j < n
    · have hjl : j < (xs.map rowC).length := by rw [HRL.out]; exact hlt
      have hct := cntRR_take (xs.map rowC) j hjl
      have hcl := cntRR_take_le (xs.map rowC) (j + 1)
      have hrow := cons_row xs j (by have := HL.out; omega)
      have hms := mkTo_succ (xs.map rowC) k j hjl
      have hmg := mkTo_get (xs.map rowC) k j hjl
      rw [hrow] at hct hms hmg
      have hcr : cntR [encInts (cAt xs j)] = cntD (encInts (cAt xs j)) := by simp only [cntR] <;> omega
      rw [hcr] at hct
      have hb0 : 0 ≤ K := by have := HK.out; omega
      have hb1 : K + ((cntD (encInts (cAt xs j)) : Nat) : Int) ≤ 4611686018427387904 := by have := HK.out; omega
      obtain ⟨b, TT, NN, f, E, rfl, hDb, hr, hNN, hE, hdis, how, hcl2⟩ := hO.openRow hlt
      have o0 := how 0 (by omega)
      rw [rAt, hmg] at o0
      obtain ⟨a0, n0, c0, f0⟩ := Own.slice_inv (rows := _) (s := 1) o0
      have k0 : MkC 91 (encInts (cAt xs j)) := (markIntS _)
      rw [f0] at o0
      replace o0 : Own wr (E 0) (encInts (cAt xs j)) (.slice a0 n0 c0) := o0
      have v0 := hr.cell (i := j * 1 + 0) (Nat.lt_of_lt_of_le (idx_lt hlt (by omega)) hNN)
      rw [f0] at v0
      have g0 := hr.frozen (j * 1 + 0)
      simp only [Nat.mul_one, Nat.add_zero] at v0 g0
      have F0 := Lib.hid f0
      clear f0
      have HCT := Lib.hid hct
      have HMS := Lib.hid hms
      have HOFF := Lib.hid hcl2
      have X : Ext (fun q => q = b ∨ ∃ i, i < 1 ∧ E i q) wr wr := Ext.refl _ _
      have hbE : ∀ i q, i < 1 → E i q → ¬ q = b := fun i q hi hq => (hE i q hi hq).2
      have HDis := Lib.hid hdis
      clear hct hcl hms hmg hcr hrow how hcl2 hdis 
      have H0 := Lib.hid o0
      clear o0
      have HR := Lib.hid hr
      clear hr
      go_wp2_with fail
      clear v0 g0
      refine (k0 _ _ _ _ _ _ H0.out (by omega) (by omega)).mono ?_
      rintro e w1 ⟨K1, rfl, y1, o0, p1⟩
      have hbk1 : 0 ≤ K1 := by omega
      have hbm1 : K1 + ((0 : Nat) : Int) ≤ 4611686018427387904 := by omega
      have HY1 := Lib.hid y1
      clear y1
      have hr := row_ext HR.out p1 (fun hq => hbE 0 b (by omega) hq rfl)
      replace X := X.trans (p1.mono (fun q _ hq => .inr ⟨0, by omega, hq⟩))
      clear HR H0 p1
      have H0 := Lib.hid o0
      clear o0
      have HR := Lib.hid hr
      clear hr
      go_wp2_with fail
      go_roundw
      case rel => exact ⟨j + 1, K1, by omega, by go_num, rfl, by
        show _ = _
        have h1 := HCT.out; have h2 := HK.out; have := HY1.out; omega, by
        rw [HMS.out, ← HK.out]
        have e : mkR [encInts (cAt xs j)] K = [mkD (encInts (cAt xs j)) (K)] := by
          have hHY1 := HY1.out
          simp only [mkR]
          first | rfl | (congr <;> omega) | (repeat (first | rfl | omega | (congr 1)))
        rw [e]
        refine HOFF.out _ _ _ HR.out X (fun q hq => ?_) rfl (fun q hq => ?_)
        · rfl
        · rcases q with _ | q
          · exact Own.val (by rw [F0.out]) H0.out
          · omega, hX.trans (X.mono (fun q _ hq => by
        rcases hq with rfl | ⟨i, hi, hq⟩
        · exact hDb
        · exact (hE i q hi hq).1))⟩
      case measure => simp [intOf]; omega
    · have HJ : Hid (j = n) := by show _ = _; omega
      go_wp2
      exact fin_ hQ ⟨K, rfl, by rw [HK.out, HJ.out, List.take_of_length_le (Nat.le_of_eq HRL.out)], by rw [mkTo_all _ _ (HJ.out.trans HRL.out.symm)] at hO; exact hO, hX⟩

set_option maxRecDepth 100000 in
set_option maxHeartbeats 4000000 in
theorem markDeclS (xs : List DeclL) : MkC 44 (encDecls xs) := by
  intro a n c D k w h h0 h1
  refine calls_k fun Q hQ => ?_
  obtain ⟨e1, hnc, hm, _⟩ := decls_at h.read
  have HL := Lib.hid e1
  have hrl : (xs.map rowD).length = n := by rw [decls_len]; exact e1
  have e2 : cntD (encDecls xs) = cntRR (xs.map rowD) := by rw [encDecls, cntD]
  have e3 : mkD (encDecls xs) k = .arr 3 (mkRR (xs.map rowD) k) := by rw [encDecls, mkD]
  rw [e2, e3] at hQ
  rw [e2] at h1
  have HRL := Lib.hid hrl
  clear e1 e2 e3 hrl
  go_enter Tryz.func44, Tryz.ntmps44
  go_wp2
  go_loopw [1, 5] (fun kv iv wr => ∃ (j : Nat) (K : Int), j ≤ n ∧ iv = .int .i64 j ∧ kv = .int .i64 K ∧ Hid (K = k + (cntRR ((xs.map rowD).take j) : Int)) ∧ Own wr D (.arr 3 (mkTo (xs.map rowD) k j)) (.slice a n c) ∧ Ext D w wr) (fun _ iv _ => n - (intOf iv).toNat)
  case atStart => exact ⟨0, k, Nat.zero_le _, rfl, rfl, by show _ = _; simp [cntRR], by rw [mkTo_zero]; exact h, Ext.refl _ _⟩
  case round =>
    obtain ⟨j, K, hj, rfl, rfl, HK, hO, hX⟩ := hrel
    by_cases hlt : j < n
    · have hjl : j < (xs.map rowD).length := by rw [HRL.out]; exact hlt
      have hct := cntRR_take (xs.map rowD) j hjl
      have hcl := cntRR_take_le (xs.map rowD) (j + 1)
      have hrow := decls_row xs j (by have := HL.out; omega)
      have hms := mkTo_succ (xs.map rowD) k j hjl
      have hmg := mkTo_get (xs.map rowD) k j hjl
      rw [hrow] at hct hms hmg
      have hcr : cntR [.num ((dAt xs j).from_), .num ((dAt xs j).to_), encCons ((dAt xs j).cons)] = 1 + 1 + cntD (encCons ((dAt xs j).cons)) := by simp only [cntR, cntD] <;> omega
      rw [hcr] at hct
      have hb0 : 0 ≤ K := by have := HK.out; omega
      have hb1 : K + ((1 + 1 + cntD (encCons ((dAt xs j).cons)) : Nat) : Int) ≤ 4611686018427387904 := by have := HK.out; omega
      obtain ⟨b, TT, NN, f, E, rfl, hDb, hr, hNN, hE, hdis, how, hcl2⟩ := hO.openRow hlt
      have o0 := how 0 (by omega)
      rw [rAt, hmg] at o0
      have o1 := how 1 (by omega)
      rw [rAt, hmg] at o1
      have o2 := how 2 (by omega)
      rw [rAt, hmg] at o2
      obtain ⟨a2, n2, c2, f2⟩ := Own.slice_inv (rows := _) (s := 1) o2
      have k2 : MkC 90 (encCons ((dAt xs j).cons)) := (markConS _)
      rw [f2] at o2
      replace o2 : Own wr (E 2) (encCons ((dAt xs j).cons)) (.slice a2 n2 c2) := o2
      have f0 := Own.num_inv (z := (dAt xs j).from_) o0
      have f1 := Own.num_inv (z := (dAt xs j).to_) o1
      have v0 := hr.cell (i := j * 3 + 0) (Nat.lt_of_lt_of_le (idx_lt hlt (by omega)) hNN)
      rw [f0] at v0
      have g0 := hr.frozen (j * 3 + 0)
      simp only [Nat.add_zero] at v0 g0
      clear f0
      have v1 := hr.cell (i := j * 3 + 1) (Nat.lt_of_lt_of_le (idx_lt hlt (by omega)) hNN)
      rw [f1] at v1
      have g1 := hr.frozen (j * 3 + 1)
      clear f1
      have v2 := hr.cell (i := j * 3 + 2) (Nat.lt_of_lt_of_le (idx_lt hlt (by omega)) hNN)
      rw [f2] at v2
      have g2 := hr.frozen (j * 3 + 2)
      have F2 := Lib.hid f2
      clear f2
      have HCT := Lib.hid hct
      have HMS := Lib.hid hms
      have HOFF := Lib.hid hcl2
      have X : Ext (fun q => q = b ∨ ∃ i, i < 3 ∧ E i q) wr wr := Ext.refl _ _
      have hbE : ∀ i q, i < 3 → E i q → ¬ q = b := fun i q hi hq => (hE i q hi hq).2
      have HDis := Lib.hid hdis
      clear hct hcl hms hmg hcr hrow how hcl2 hdis o0 o1
      have XS := (Ext.refl (fun q => q = b) wr).setCell (p := ⟨b, j * 3, none⟩) (.inr rfl) (.int .i64 (K))
      replace o2 := o2.ext XS (fun q hq => hbE 2 q (by omega) hq)
      replace hr := hr.set (j * 3) (.int .i64 (K))
      replace X := X.trans (XS.mono (fun q _ hq => .inl hq))
      clear XS
      have XS := (Ext.refl (fun q => q = b) (wr.setCell ⟨b, j * 3, none⟩ (.int .i64 (K)))).setCell (p := ⟨b, j * 3 + 1, none⟩) (.inr rfl) (.int .i64 (K + 1))
      replace o2 := o2.ext XS (fun q hq => hbE 2 q (by omega) hq)
      replace hr := hr.set (j * 3 + 1) (.int .i64 (K + 1))
      replace X := X.trans (XS.mono (fun q _ hq => .inl hq))
      clear XS
      have H2 := Lib.hid o2
      clear o2
      have HR := Lib.hid hr
      clear hr
      go_wp2_with fail
      clear v0 g0 v1 g1 v2 g2
      refine (k2 _ _ _ _ _ _ H2.out (by omega) (by omega)).mono ?_
      rintro e w1 ⟨K1, rfl, y1, o2, p1⟩
      have hbk1 : 0 ≤ K1 := by omega
      have hbm1 : K1 + ((0 : Nat) : Int) ≤ 4611686018427387904 := by omega
      have HY1 := Lib.hid y1
      clear y1
      have hr := row_ext HR.out p1 (fun hq => hbE 2 b (by omega) hq rfl)
      replace X := X.trans (p1.mono (fun q _ hq => .inr ⟨2, by omega, hq⟩))
      clear HR H2 p1
      have H2 := Lib.hid o2
      clear o2
      have HR := Lib.hid hr
      clear hr
      go_wp2_with fail
      go_roundw
      case rel => exact ⟨j + 1, K1, by omega, by go_num, rfl, by
        show _ = _
        have h1 := HCT.out; have h2 := HK.out; have := HY1.out; omega, by
        rw [HMS.out, ← HK.out]
        have e : mkR [.num ((dAt xs j).from_), .num ((dAt xs j).to_), encCons ((dAt xs j).cons)] K = [.num (K), .num (K + 1), mkD (encCons ((dAt xs j).cons)) (K + 1 + 1)] := by
          have hHY1 := HY1.out
          simp only [mkR, mkD, cntD]
          first | rfl | (congr <;> omega) | (repeat (first | rfl | omega | (congr 1)))
        rw [e]
        refine HOFF.out _ _ _ HR.out X (fun q hq => ?_) rfl (fun q hq => ?_)
        · rw [if_neg (by omega), if_neg (by omega)]
        · rcases q with _ | _ | _ | q
          · exact Own.val (by simp) (.num _ _)
          · exact Own.val (by simp) (.num _ _)
          · exact Own.val (by simp [F2.out]) H2.out
          · omega, hX.trans (X.mono (fun q _ hq => by
        rcases hq with rfl | ⟨i, hi, hq⟩
        · exact hDb
        · exact (hE i q hi hq).1))⟩
      case measure => simp [intOf]; omega
    · have HJ : Hid (j = n) := by show _ = _; omega
      go_wp2
      exact fin_ hQ ⟨K, rfl, by rw [HK.out, HJ.out, List.take_of_length_le (Nat.le_of_eq HRL.out)], by rw [mkTo_all _ _ (HJ.out.trans HRL.out.symm)] at hO; exact hO, hX⟩

set_option maxRecDepth 100000 in
set_option maxHeartbeats 8000000 in
theorem markSB_n (N : Nat) : (∀ xs : List StepL, volD (encSteps xs) < N → MkC 92 (encSteps xs)) ∧ (∀ xs : List BlockL, volD (encBlocks xs) < N → MkC 139 (encBlocks xs)) := by
  induction N with
  | zero => exact ⟨fun xs h => by omega, fun xs h => by omega⟩
  | succ N ihN =>
  obtain ⟨ihS, ihB⟩ := ihN
  refine ⟨?_, ?_⟩
  · intro xs hvol a n c D k w h h0 h1
    have IHStep : ∀ ys : List StepL, volD (encSteps ys) < volD (encSteps xs) → MkC 92 (encSteps ys) := fun ys hy => ihS ys (by omega)
    have IHBlock : ∀ ys : List BlockL, volD (encBlocks ys) < volD (encSteps xs) → MkC 139 (encBlocks ys) := fun ys hy => ihB ys (by omega)
    clear ihS ihB hvol
    refine calls_k fun Q hQ => ?_
    obtain ⟨e1, hnc, hm, _⟩ := steps_at h.read
    have HL := Lib.hid e1
    have hrl : (rowsS xs).length = n := by rw [steps_len]; exact e1
    have e2 : cntD (encSteps xs) = cntRR (rowsS xs) := by rw [encSteps, cntD]
    have e3 : mkD (encSteps xs) k = .arr 5 (mkRR (rowsS xs) k) := by rw [encSteps, mkD]
    rw [e2, e3] at hQ
    rw [e2] at h1
    have HRL := Lib.hid hrl
    clear e1 e2 e3 hrl
    go_enter Tryz.func92, Tryz.ntmps92
    go_wp2
    go_loopw [1, 5] (fun kv iv wr => ∃ (j : Nat) (K : Int), j ≤ n ∧ iv = .int .i64 j ∧ kv = .int .i64 K ∧ Hid (K = k + (cntRR ((rowsS xs).take j) : Int)) ∧ Own wr D (.arr 5 (mkTo (rowsS xs) k j)) (.slice a n c) ∧ Ext D w wr) (fun _ iv _ => n - (intOf iv).toNat)
    case atStart => exact ⟨0, k, Nat.zero_le _, rfl, rfl, by show _ = _; simp [cntRR], by rw [mkTo_zero]; exact h, Ext.refl _ _⟩
    case round =>
      obtain ⟨j, K, hj, rfl, rfl, HK, hO, hX⟩ := hrel
      by_cases hlt : j < n
      · have hjl : j < (rowsS xs).length := by rw [HRL.out]; exact hlt
        have hct := cntRR_take (rowsS xs) j hjl
        have hcl := cntRR_take_le (rowsS xs) (j + 1)
        have hrow := steps_row xs j (by have := HL.out; omega)
        have hms := mkTo_succ (rowsS xs) k j hjl
        have hmg := mkTo_get (rowsS xs) k j hjl
        rw [hrow] at hct hms hmg
        have hcr : cntR [.num ((sAt xs j).op), .num ((sAt xs j).num), .num ((sAt xs j).into), encInts ((sAt xs j).args), encBlocks ((sAt xs j).kids)] = 1 + 1 + 1 + cntD (encInts ((sAt xs j).args)) + cntD (encBlocks ((sAt xs j).kids)) := by simp only [cntR, cntD] <;> omega
        rw [hcr] at hct
        have hb0 : 0 ≤ K := by have := HK.out; omega
        have hb1 : K + ((1 + 1 + 1 + cntD (encInts ((sAt xs j).args)) + cntD (encBlocks ((sAt xs j).kids)) : Nat) : Int) ≤ 4611686018427387904 := by have := HK.out; omega
        obtain ⟨b, TT, NN, f, E, rfl, hDb, hr, hNN, hE, hdis, how, hcl2⟩ := hO.openRow hlt
        have o0 := how 0 (by omega)
        rw [rAt, hmg] at o0
        have o1 := how 1 (by omega)
        rw [rAt, hmg] at o1
        have o2 := how 2 (by omega)
        rw [rAt, hmg] at o2
        have o3 := how 3 (by omega)
        rw [rAt, hmg] at o3
        have o4 := how 4 (by omega)
        rw [rAt, hmg] at o4
        obtain ⟨a3, n3, c3, f3⟩ := Own.slice_inv (rows := _) (s := 1) o3
        have k3 : MkC 91 (encInts ((sAt xs j).args)) := (markIntS _)
        rw [f3] at o3
        replace o3 : Own wr (E 3) (encInts ((sAt xs j).args)) (.slice a3 n3 c3) := o3
        obtain ⟨a4, n4, c4, f4⟩ := Own.slice_inv (rows := _) (s := 2) o4
        have k4 : MkC 139 (encBlocks ((sAt xs j).kids)) := (IHBlock _ (by have := vol_lt (s := 5) (rows := (rowsS xs)) (i := j) (j := 4) hjl (by rw [hrow]; simp); rw [rAt, hrow] at this; simp only [dGet, List.getD, List.getElem?_cons_succ, List.getElem?_cons_zero, Option.getD_some] at this; exact this))
        rw [f4] at o4
        replace o4 : Own wr (E 4) (encBlocks ((sAt xs j).kids)) (.slice a4 n4 c4) := o4
        have f0 := Own.num_inv (z := (sAt xs j).op) o0
        have f1 := Own.num_inv (z := (sAt xs j).num) o1
        have f2 := Own.num_inv (z := (sAt xs j).into) o2
        have v0 := hr.cell (i := j * 5 + 0) (Nat.lt_of_lt_of_le (idx_lt hlt (by omega)) hNN)
        rw [f0] at v0
        have g0 := hr.frozen (j * 5 + 0)
        simp only [Nat.add_zero] at v0 g0
        clear f0
        have v1 := hr.cell (i := j * 5 + 1) (Nat.lt_of_lt_of_le (idx_lt hlt (by omega)) hNN)
        rw [f1] at v1
        have g1 := hr.frozen (j * 5 + 1)
        clear f1
        have v2 := hr.cell (i := j * 5 + 2) (Nat.lt_of_lt_of_le (idx_lt hlt (by omega)) hNN)
        rw [f2] at v2
        have g2 := hr.frozen (j * 5 + 2)
        clear f2
        have v3 := hr.cell (i := j * 5 + 3) (Nat.lt_of_lt_of_le (idx_lt hlt (by omega)) hNN)
        rw [f3] at v3
        have g3 := hr.frozen (j * 5 + 3)
        have F3 := Lib.hid f3
        clear f3
        have v4 := hr.cell (i := j * 5 + 4) (Nat.lt_of_lt_of_le (idx_lt hlt (by omega)) hNN)
        rw [f4] at v4
        have g4 := hr.frozen (j * 5 + 4)
        have F4 := Lib.hid f4
        clear f4
        have HCT := Lib.hid hct
        have HMS := Lib.hid hms
        have HOFF := Lib.hid hcl2
        have X : Ext (fun q => q = b ∨ ∃ i, i < 5 ∧ E i q) wr wr := Ext.refl _ _
        have hbE : ∀ i q, i < 5 → E i q → ¬ q = b := fun i q hi hq => (hE i q hi hq).2
        have HDis := Lib.hid hdis
        clear hct hcl hms hmg hcr hrow how hcl2 hdis o0 o1 o2
        have XS := (Ext.refl (fun q => q = b) wr).setCell (p := ⟨b, j * 5, none⟩) (.inr rfl) (.int .i64 (K))
        replace o3 := o3.ext XS (fun q hq => hbE 3 q (by omega) hq)
        replace o4 := o4.ext XS (fun q hq => hbE 4 q (by omega) hq)
        replace hr := hr.set (j * 5) (.int .i64 (K))
        replace X := X.trans (XS.mono (fun q _ hq => .inl hq))
        clear XS
        have XS := (Ext.refl (fun q => q = b) (wr.setCell ⟨b, j * 5, none⟩ (.int .i64 (K)))).setCell (p := ⟨b, j * 5 + 1, none⟩) (.inr rfl) (.int .i64 (K + 1))
        replace o3 := o3.ext XS (fun q hq => hbE 3 q (by omega) hq)
        replace o4 := o4.ext XS (fun q hq => hbE 4 q (by omega) hq)
        replace hr := hr.set (j * 5 + 1) (.int .i64 (K + 1))
        replace X := X.trans (XS.mono (fun q _ hq => .inl hq))
        clear XS
        have XS := (Ext.refl (fun q => q = b) ((wr.setCell ⟨b, j * 5, none⟩ (.int .i64 (K))).setCell ⟨b, j * 5 + 1, none⟩ (.int .i64 (K + 1)))).setCell (p := ⟨b, j * 5 + 2, none⟩) (.inr rfl) (.int .i64 (K + 1 + 1))
        replace o3 := o3.ext XS (fun q hq => hbE 3 q (by omega) hq)
        replace o4 := o4.ext XS (fun q hq => hbE 4 q (by omega) hq)
        replace hr := hr.set (j * 5 + 2) (.int .i64 (K + 1 + 1))
        replace X := X.trans (XS.mono (fun q _ hq => .inl hq))
        clear XS
        have H3 := Lib.hid o3
        have H4 := Lib.hid o4
        clear o3 o4
        have HR := Lib.hid hr
        clear hr
        go_wp2_with fail
        clear v0 g0 v1 g1 v2 g2 v3 g3 v4 g4
        refine (k3 _ _ _ _ _ _ H3.out (by omega) (by omega)).mono ?_
        rintro e w1 ⟨K1, rfl, y1, o3, p1⟩
        have hbk1 : 0 ≤ K1 := by omega
        have hbm1 : K1 + ((0 + cntD (encBlocks ((sAt xs j).kids)) : Nat) : Int) ≤ 4611686018427387904 := by omega
        have HY1 := Lib.hid y1
        clear y1
        have o4 := H4.out.ext p1 (fun z hz hz2 => by have := HDis.out 4 3 z (by omega) (by omega) hz hz2; omega)
        have hr := row_ext HR.out p1 (fun hq => hbE 3 b (by omega) hq rfl)
        replace X := X.trans (p1.mono (fun q _ hq => .inr ⟨3, by omega, hq⟩))
        clear HR H3 H4 p1
        have v4 := hr.cell (i := j * 5 + 4) (Nat.lt_of_lt_of_le (idx_lt hlt (by omega)) hNN)
        have g4 := hr.frozen (j * 5 + 4)
        simp [F4.out] at v4
        have H3 := Lib.hid o3
        have H4 := Lib.hid o4
        clear o3 o4
        have HR := Lib.hid hr
        clear hr
        go_wp2_with fail
        clear v4 g4
        refine (k4 _ _ _ _ _ _ H4.out (by omega) (by omega)).mono ?_
        rintro e w2 ⟨K2, rfl, y2, o4, p2⟩
        have hbk2 : 0 ≤ K2 := by omega
        have hbm2 : K2 + ((0 : Nat) : Int) ≤ 4611686018427387904 := by omega
        have HY2 := Lib.hid y2
        clear y2
        have o3 := H3.out.ext p2 (fun z hz hz2 => by have := HDis.out 3 4 z (by omega) (by omega) hz hz2; omega)
        have hr := row_ext HR.out p2 (fun hq => hbE 4 b (by omega) hq rfl)
        replace X := X.trans (p2.mono (fun q _ hq => .inr ⟨4, by omega, hq⟩))
        clear HR H3 H4 p2
        have H3 := Lib.hid o3
        have H4 := Lib.hid o4
        clear o3 o4
        have HR := Lib.hid hr
        clear hr
        go_wp2_with fail
        go_roundw
        case rel => exact ⟨j + 1, K2, by omega, by go_num, rfl, by
          show _ = _
          have h1 := HCT.out; have h2 := HK.out; have := HY1.out; have := HY2.out; omega, by
          rw [HMS.out, ← HK.out]
          have e : mkR [.num ((sAt xs j).op), .num ((sAt xs j).num), .num ((sAt xs j).into), encInts ((sAt xs j).args), encBlocks ((sAt xs j).kids)] K = [.num (K), .num (K + 1), .num (K + 1 + 1), mkD (encInts ((sAt xs j).args)) (K + 1 + 1 + 1), mkD (encBlocks ((sAt xs j).kids)) (K1)] := by
            have hHY1 := HY1.out
            have hHY2 := HY2.out
            simp only [mkR, mkD, cntD]
            first | rfl | (congr <;> omega) | (repeat (first | rfl | omega | (congr 1)))
          rw [e]
          refine HOFF.out _ _ _ HR.out X (fun q hq => ?_) rfl (fun q hq => ?_)
          · rw [if_neg (by omega), if_neg (by omega), if_neg (by omega)]
          · rcases q with _ | _ | _ | _ | _ | q
            · exact Own.val (by simp) (.num _ _)
            · exact Own.val (by simp) (.num _ _)
            · exact Own.val (by simp) (.num _ _)
            · exact Own.val (by simp [F3.out]) H3.out
            · exact Own.val (by simp [F4.out]) H4.out
            · omega, hX.trans (X.mono (fun q _ hq => by
          rcases hq with rfl | ⟨i, hi, hq⟩
          · exact hDb
          · exact (hE i q hi hq).1))⟩
        case measure => simp [intOf]; omega
      · have HJ : Hid (j = n) := by show _ = _; omega
        go_wp2
        exact fin_ hQ ⟨K, rfl, by rw [HK.out, HJ.out, List.take_of_length_le (Nat.le_of_eq HRL.out)], by rw [mkTo_all _ _ (HJ.out.trans HRL.out.symm)] at hO; exact hO, hX⟩
  · intro xs hvol a n c D k w h h0 h1
    have IHStep : ∀ ys : List StepL, volD (encSteps ys) < volD (encBlocks xs) → MkC 92 (encSteps ys) := fun ys hy => ihS ys (by omega)
    have IHBlock : ∀ ys : List BlockL, volD (encBlocks ys) < volD (encBlocks xs) → MkC 139 (encBlocks ys) := fun ys hy => ihB ys (by omega)
    clear ihS ihB hvol
    refine calls_k fun Q hQ => ?_
    obtain ⟨e1, hnc, hm, _⟩ := blocks_at h.read
    have HL := Lib.hid e1
    have hrl : (rowsB xs).length = n := by rw [blocks_len]; exact e1
    have e2 : cntD (encBlocks xs) = cntRR (rowsB xs) := by rw [encBlocks, cntD]
    have e3 : mkD (encBlocks xs) k = .arr 2 (mkRR (rowsB xs) k) := by rw [encBlocks, mkD]
    rw [e2, e3] at hQ
    rw [e2] at h1
    have HRL := Lib.hid hrl
    clear e1 e2 e3 hrl
    go_enter Tryz.func139, Tryz.ntmps139
    go_wp2
    go_loopw [1, 5] (fun kv iv wr => ∃ (j : Nat) (K : Int), j ≤ n ∧ iv = .int .i64 j ∧ kv = .int .i64 K ∧ Hid (K = k + (cntRR ((rowsB xs).take j) : Int)) ∧ Own wr D (.arr 2 (mkTo (rowsB xs) k j)) (.slice a n c) ∧ Ext D w wr) (fun _ iv _ => n - (intOf iv).toNat)
    case atStart => exact ⟨0, k, Nat.zero_le _, rfl, rfl, by show _ = _; simp [cntRR], by rw [mkTo_zero]; exact h, Ext.refl _ _⟩
    case round =>
      obtain ⟨j, K, hj, rfl, rfl, HK, hO, hX⟩ := hrel
      by_cases hlt : j < n
      · have hjl : j < (rowsB xs).length := by rw [HRL.out]; exact hlt
        have hct := cntRR_take (rowsB xs) j hjl
        have hcl := cntRR_take_le (rowsB xs) (j + 1)
        have hrow := blocks_row xs j (by have := HL.out; omega)
        have hms := mkTo_succ (rowsB xs) k j hjl
        have hmg := mkTo_get (rowsB xs) k j hjl
        rw [hrow] at hct hms hmg
        have hcr : cntR [encSteps ((bAt xs j).steps), .num ((bAt xs j).result)] = cntD (encSteps ((bAt xs j).steps)) + 1 := by simp only [cntR, cntD] <;> omega
        rw [hcr] at hct
        have hb0 : 0 ≤ K := by have := HK.out; omega
        have hb1 : K + ((cntD (encSteps ((bAt xs j).steps)) + 1 : Nat) : Int) ≤ 4611686018427387904 := by have := HK.out; omega
        obtain ⟨b, TT, NN, f, E, rfl, hDb, hr, hNN, hE, hdis, how, hcl2⟩ := hO.openRow hlt
        have o0 := how 0 (by omega)
        rw [rAt, hmg] at o0
        have o1 := how 1 (by omega)
        rw [rAt, hmg] at o1
        obtain ⟨a0, n0, c0, f0⟩ := Own.slice_inv (rows := _) (s := 5) o0
        have k0 : MkC 92 (encSteps ((bAt xs j).steps)) := (IHStep _ (by have := vol_lt (s := 2) (rows := (rowsB xs)) (i := j) (j := 0) hjl (by rw [hrow]; simp); rw [rAt, hrow] at this; simp only [dGet, List.getD, List.getElem?_cons_zero, Option.getD_some] at this; exact this))
        rw [f0] at o0
        replace o0 : Own wr (E 0) (encSteps ((bAt xs j).steps)) (.slice a0 n0 c0) := o0
        have f1 := Own.num_inv (z := (bAt xs j).result) o1
        have v0 := hr.cell (i := j * 2 + 0) (Nat.lt_of_lt_of_le (idx_lt hlt (by omega)) hNN)
        rw [f0] at v0
        have g0 := hr.frozen (j * 2 + 0)
        simp only [Nat.add_zero] at v0 g0
        have F0 := Lib.hid f0
        clear f0
        have v1 := hr.cell (i := j * 2 + 1) (Nat.lt_of_lt_of_le (idx_lt hlt (by omega)) hNN)
        rw [f1] at v1
        have g1 := hr.frozen (j * 2 + 1)
        clear f1
        have HCT := Lib.hid hct
        have HMS := Lib.hid hms
        have HOFF := Lib.hid hcl2
        have X : Ext (fun q => q = b ∨ ∃ i, i < 2 ∧ E i q) wr wr := Ext.refl _ _
        have hbE : ∀ i q, i < 2 → E i q → ¬ q = b := fun i q hi hq => (hE i q hi hq).2
        have HDis := Lib.hid hdis
        clear hct hcl hms hmg hcr hrow how hcl2 hdis o1
        have H0 := Lib.hid o0
        clear o0
        have HR := Lib.hid hr
        clear hr
        go_wp2_with fail
        clear v0 g0 v1 g1
        refine (k0 _ _ _ _ _ _ H0.out (by omega) (by omega)).mono ?_
        rintro e w1 ⟨K1, rfl, y1, o0, p1⟩
        have hbk1 : 0 ≤ K1 := by omega
        have hbm1 : K1 + ((0 + 1 : Nat) : Int) ≤ 4611686018427387904 := by omega
        have HY1 := Lib.hid y1
        clear y1
        have hr := row_ext HR.out p1 (fun hq => hbE 0 b (by omega) hq rfl)
        replace X := X.trans (p1.mono (fun q _ hq => .inr ⟨0, by omega, hq⟩))
        clear HR H0 p1
        have v1 := hr.cell (i := j * 2 + 1) (Nat.lt_of_lt_of_le (idx_lt hlt (by omega)) hNN)
        have g1 := hr.frozen (j * 2 + 1)
        have XS := (Ext.refl (fun q => q = b) w1).setCell (p := ⟨b, j * 2 + 1, none⟩) (.inr rfl) (.int .i64 (K1))
        replace o0 := o0.ext XS (fun q hq => hbE 0 q (by omega) hq)
        replace hr := hr.set (j * 2 + 1) (.int .i64 (K1))
        replace X := X.trans (XS.mono (fun q _ hq => .inl hq))
        clear XS
        have H0 := Lib.hid o0
        clear o0
        have HR := Lib.hid hr
        clear hr
        go_wp2_with fail
        go_roundw
        case rel => exact ⟨j + 1, K1 + 1, by omega, by go_num, rfl, by
          show _ = _
          have h1 := HCT.out; have h2 := HK.out; have := HY1.out; omega, by
          rw [HMS.out, ← HK.out]
          have e : mkR [encSteps ((bAt xs j).steps), .num ((bAt xs j).result)] K = [mkD (encSteps ((bAt xs j).steps)) (K), .num (K1)] := by
            have hHY1 := HY1.out
            simp only [mkR, mkD]
            first | rfl | (congr <;> omega) | (repeat (first | rfl | omega | (congr 1)))
          rw [e]
          refine HOFF.out _ _ _ HR.out X (fun q hq => ?_) rfl (fun q hq => ?_)
          · rw [if_neg (by omega)]
          · rcases q with _ | _ | q
            · exact Own.val (by have hf := F0.out; simp only [Nat.add_zero] at hf; simp [hf]) H0.out
            · exact Own.val (by simp) (.num _ _)
            · omega, hX.trans (X.mono (fun q _ hq => by
          rcases hq with rfl | ⟨i, hi, hq⟩
          · exact hDb
          · exact (hE i q hi hq).1))⟩
        case measure => simp [intOf]; omega
      · have HJ : Hid (j = n) := by show _ = _; omega
        go_wp2
        exact fin_ hQ ⟨K, rfl, by rw [HK.out, HJ.out, List.take_of_length_le (Nat.le_of_eq HRL.out)], by rw [mkTo_all _ _ (HJ.out.trans HRL.out.symm)] at hO; exact hO, hX⟩
theorem markStepS (xs : List StepL) : MkC 92 (encSteps xs) := (markSB_n _).1 xs (Nat.lt_succ_self _)
set_option maxRecDepth 100000 in
set_option maxHeartbeats 4000000 in
theorem markRoutineS (xs : List RoutL) : MkC 45 (encRouts xs) := by
  intro a n c D k w h h0 h1
  refine calls_k fun Q hQ => ?_
  obtain ⟨e1, hnc, hm, _⟩ := routs_at h.read
  have HL := Lib.hid e1
  have hrl : (xs.map rowR).length = n := by rw [routs_len]; exact e1
  have e2 : cntD (encRouts xs) = cntRR (xs.map rowR) := by rw [encRouts, cntD]
  have e3 : mkD (encRouts xs) k = .arr 5 (mkRR (xs.map rowR) k) := by rw [encRouts, mkD]
  rw [e2, e3] at hQ
  rw [e2] at h1
  have HRL := Lib.hid hrl
  clear e1 e2 e3 hrl
  go_enter Tryz.func45, Tryz.ntmps45
  go_wp2
  go_loopw [1, 5] (fun kv iv wr => ∃ (j : Nat) (K : Int), j ≤ n ∧ iv = .int .i64 j ∧ kv = .int .i64 K ∧ Hid (K = k + (cntRR ((xs.map rowR).take j) : Int)) ∧ Own wr D (.arr 5 (mkTo (xs.map rowR) k j)) (.slice a n c) ∧ Ext D w wr) (fun _ iv _ => n - (intOf iv).toNat)
  case atStart => exact ⟨0, k, Nat.zero_le _, rfl, rfl, by show _ = _; simp [cntRR], by rw [mkTo_zero]; exact h, Ext.refl _ _⟩
  case round =>
    obtain ⟨j, K, hj, rfl, rfl, HK, hO, hX⟩ := hrel
    by_cases hlt : j < n
    · have hjl : j < (xs.map rowR).length := by rw [HRL.out]; exact hlt
      have hct := cntRR_take (xs.map rowR) j hjl
      have hcl := cntRR_take_le (xs.map rowR) (j + 1)
      have hrow := routs_row xs j (by have := HL.out; omega)
      have hms := mkTo_succ (xs.map rowR) k j hjl
      have hmg := mkTo_get (xs.map rowR) k j hjl
      rw [hrow] at hct hms hmg
      have hcr : cntR [encInts ((rtAt xs j).params), encInts ((rtAt xs j).lent), .num ((rtAt xs j).result), encSteps ((rtAt xs j).body.steps), .num ((rtAt xs j).body.result)] = cntD (encInts ((rtAt xs j).params)) + cntD (encInts ((rtAt xs j).lent)) + 1 + cntD (encSteps ((rtAt xs j).body.steps)) + 1 := by simp only [cntR, cntD] <;> omega
      rw [hcr] at hct
      have hb0 : 0 ≤ K := by have := HK.out; omega
      have hb1 : K + ((cntD (encInts ((rtAt xs j).params)) + cntD (encInts ((rtAt xs j).lent)) + 1 + cntD (encSteps ((rtAt xs j).body.steps)) + 1 : Nat) : Int) ≤ 4611686018427387904 := by have := HK.out; omega
      obtain ⟨b, TT, NN, f, E, rfl, hDb, hr, hNN, hE, hdis, how, hcl2⟩ := hO.openRow hlt
      have o0 := how 0 (by omega)
      rw [rAt, hmg] at o0
      have o1 := how 1 (by omega)
      rw [rAt, hmg] at o1
      have o2 := how 2 (by omega)
      rw [rAt, hmg] at o2
      have o3 := how 3 (by omega)
      rw [rAt, hmg] at o3
      have o4 := how 4 (by omega)
      rw [rAt, hmg] at o4
      obtain ⟨a0, n0, c0, f0⟩ := Own.slice_inv (rows := _) (s := 1) o0
      have k0 : MkC 91 (encInts ((rtAt xs j).params)) := (markIntS _)
      rw [f0] at o0
      replace o0 : Own wr (E 0) (encInts ((rtAt xs j).params)) (.slice a0 n0 c0) := o0
      obtain ⟨a1, n1, c1, f1⟩ := Own.slice_inv (rows := _) (s := 1) o1
      have k1 : MkC 91 (encInts ((rtAt xs j).lent)) := (markIntS _)
      rw [f1] at o1
      replace o1 : Own wr (E 1) (encInts ((rtAt xs j).lent)) (.slice a1 n1 c1) := o1
      obtain ⟨a3, n3, c3, f3⟩ := Own.slice_inv (rows := _) (s := 5) o3
      have k3 : MkC 92 (encSteps ((rtAt xs j).body.steps)) := (markStepS _)
      rw [f3] at o3
      replace o3 : Own wr (E 3) (encSteps ((rtAt xs j).body.steps)) (.slice a3 n3 c3) := o3
      have f2 := Own.num_inv (z := (rtAt xs j).result) o2
      have f4 := Own.num_inv (z := (rtAt xs j).body.result) o4
      have v0 := hr.cell (i := j * 5 + 0) (Nat.lt_of_lt_of_le (idx_lt hlt (by omega)) hNN)
      rw [f0] at v0
      have g0 := hr.frozen (j * 5 + 0)
      simp only [Nat.add_zero] at v0 g0
      have F0 := Lib.hid f0
      clear f0
      have v1 := hr.cell (i := j * 5 + 1) (Nat.lt_of_lt_of_le (idx_lt hlt (by omega)) hNN)
      rw [f1] at v1
      have g1 := hr.frozen (j * 5 + 1)
      have F1 := Lib.hid f1
      clear f1
      have v2 := hr.cell (i := j * 5 + 2) (Nat.lt_of_lt_of_le (idx_lt hlt (by omega)) hNN)
      rw [f2] at v2
      have g2 := hr.frozen (j * 5 + 2)
      clear f2
      have v3 := hr.cell (i := j * 5 + 3) (Nat.lt_of_lt_of_le (idx_lt hlt (by omega)) hNN)
      rw [f3] at v3
      have g3 := hr.frozen (j * 5 + 3)
      have F3 := Lib.hid f3
      clear f3
      have v4 := hr.cell (i := j * 5 + 4) (Nat.lt_of_lt_of_le (idx_lt hlt (by omega)) hNN)
      rw [f4] at v4
      have g4 := hr.frozen (j * 5 + 4)
      clear f4
      have HCT := Lib.hid hct
      have HMS := Lib.hid hms
      have HOFF := Lib.hid hcl2
      have X : Ext (fun q => q = b ∨ ∃ i, i < 5 ∧ E i q) wr wr := Ext.refl _ _
      have hbE : ∀ i q, i < 5 → E i q → ¬ q = b := fun i q hi hq => (hE i q hi hq).2
      have HDis := Lib.hid hdis
      clear hct hcl hms hmg hcr hrow how hcl2 hdis o2 o4
      have H0 := Lib.hid o0
      have H1 := Lib.hid o1
      have H3 := Lib.hid o3
      clear o0 o1 o3
      have HR := Lib.hid hr
      clear hr
      go_wp2_with fail
      clear v0 g0 v1 g1 v2 g2 v3 g3 v4 g4
      refine (k0 _ _ _ _ _ _ H0.out (by omega) (by omega)).mono ?_
      rintro e w1 ⟨K1, rfl, y1, o0, p1⟩
      have hbk1 : 0 ≤ K1 := by omega
      have hbm1 : K1 + ((0 + cntD (encInts ((rtAt xs j).lent)) + 1 + cntD (encSteps ((rtAt xs j).body.steps)) + 1 : Nat) : Int) ≤ 4611686018427387904 := by omega
      have HY1 := Lib.hid y1
      clear y1
      have o1 := H1.out.ext p1 (fun z hz hz2 => by have := HDis.out 1 0 z (by omega) (by omega) hz hz2; omega)
      have o3 := H3.out.ext p1 (fun z hz hz2 => by have := HDis.out 3 0 z (by omega) (by omega) hz hz2; omega)
      have hr := row_ext HR.out p1 (fun hq => hbE 0 b (by omega) hq rfl)
      replace X := X.trans (p1.mono (fun q _ hq => .inr ⟨0, by omega, hq⟩))
      clear HR H0 H1 H3 p1
      have v1 := hr.cell (i := j * 5 + 1) (Nat.lt_of_lt_of_le (idx_lt hlt (by omega)) hNN)
      have g1 := hr.frozen (j * 5 + 1)
      rw [F1.out] at v1
      have v2 := hr.cell (i := j * 5 + 2) (Nat.lt_of_lt_of_le (idx_lt hlt (by omega)) hNN)
      have g2 := hr.frozen (j * 5 + 2)
      have v3 := hr.cell (i := j * 5 + 3) (Nat.lt_of_lt_of_le (idx_lt hlt (by omega)) hNN)
      have g3 := hr.frozen (j * 5 + 3)
      rw [F3.out] at v3
      have v4 := hr.cell (i := j * 5 + 4) (Nat.lt_of_lt_of_le (idx_lt hlt (by omega)) hNN)
      have g4 := hr.frozen (j * 5 + 4)
      have H0 := Lib.hid o0
      have H1 := Lib.hid o1
      have H3 := Lib.hid o3
      clear o0 o1 o3
      have HR := Lib.hid hr
      clear hr
      go_wp2_with fail
      clear v1 g1 v2 g2 v3 g3 v4 g4
      refine (k1 _ _ _ _ _ _ H1.out (by omega) (by omega)).mono ?_
      rintro e w2 ⟨K2, rfl, y2, o1, p2⟩
      have hbk2 : 0 ≤ K2 := by omega
      have hbm2 : K2 + ((0 + 1 + cntD (encSteps ((rtAt xs j).body.steps)) + 1 : Nat) : Int) ≤ 4611686018427387904 := by omega
      have HY2 := Lib.hid y2
      clear y2
      have o0 := H0.out.ext p2 (fun z hz hz2 => by have := HDis.out 0 1 z (by omega) (by omega) hz hz2; omega)
      have o3 := H3.out.ext p2 (fun z hz hz2 => by have := HDis.out 3 1 z (by omega) (by omega) hz hz2; omega)
      have hr := row_ext HR.out p2 (fun hq => hbE 1 b (by omega) hq rfl)
      replace X := X.trans (p2.mono (fun q _ hq => .inr ⟨1, by omega, hq⟩))
      clear HR H0 H1 H3 p2
      have v2 := hr.cell (i := j * 5 + 2) (Nat.lt_of_lt_of_le (idx_lt hlt (by omega)) hNN)
      have g2 := hr.frozen (j * 5 + 2)
      have v3 := hr.cell (i := j * 5 + 3) (Nat.lt_of_lt_of_le (idx_lt hlt (by omega)) hNN)
      have g3 := hr.frozen (j * 5 + 3)
      rw [F3.out] at v3
      have v4 := hr.cell (i := j * 5 + 4) (Nat.lt_of_lt_of_le (idx_lt hlt (by omega)) hNN)
      have g4 := hr.frozen (j * 5 + 4)
      have XS := (Ext.refl (fun q => q = b) w2).setCell (p := ⟨b, j * 5 + 2, none⟩) (.inr rfl) (.int .i64 (K2))
      replace o0 := o0.ext XS (fun q hq => hbE 0 q (by omega) hq)
      replace o1 := o1.ext XS (fun q hq => hbE 1 q (by omega) hq)
      replace o3 := o3.ext XS (fun q hq => hbE 3 q (by omega) hq)
      replace hr := hr.set (j * 5 + 2) (.int .i64 (K2))
      replace X := X.trans (XS.mono (fun q _ hq => .inl hq))
      clear XS
      have H0 := Lib.hid o0
      have H1 := Lib.hid o1
      have H3 := Lib.hid o3
      clear o0 o1 o3
      have HR := Lib.hid hr
      clear hr
      go_wp2_with fail
      clear v2 g2 v3 g3 v4 g4
      refine (k3 _ _ _ _ _ _ H3.out (by omega) (by omega)).mono ?_
      rintro e w3 ⟨K3, rfl, y3, o3, p3⟩
      have hbk3 : 0 ≤ K3 := by omega
      have hbm3 : K3 + ((0 + 1 : Nat) : Int) ≤ 4611686018427387904 := by omega
      have HY3 := Lib.hid y3
      clear y3
      have o0 := H0.out.ext p3 (fun z hz hz2 => by have := HDis.out 0 3 z (by omega) (by omega) hz hz2; omega)
      have o1 := H1.out.ext p3 (fun z hz hz2 => by have := HDis.out 1 3 z (by omega) (by omega) hz hz2; omega)
      have hr := row_ext HR.out p3 (fun hq => hbE 3 b (by omega) hq rfl)
      replace X := X.trans (p3.mono (fun q _ hq => .inr ⟨3, by omega, hq⟩))
      clear HR H0 H1 H3 p3
      have v4 := hr.cell (i := j * 5 + 4) (Nat.lt_of_lt_of_le (idx_lt hlt (by omega)) hNN)
      have g4 := hr.frozen (j * 5 + 4)
      simp at v4
      have XS := (Ext.refl (fun q => q = b) w3).setCell (p := ⟨b, j * 5 + 4, none⟩) (.inr rfl) (.int .i64 (K3))
      replace o0 := o0.ext XS (fun q hq => hbE 0 q (by omega) hq)
      replace o1 := o1.ext XS (fun q hq => hbE 1 q (by omega) hq)
      replace o3 := o3.ext XS (fun q hq => hbE 3 q (by omega) hq)
      replace hr := hr.set (j * 5 + 4) (.int .i64 (K3))
      replace X := X.trans (XS.mono (fun q _ hq => .inl hq))
      clear XS
      have H0 := Lib.hid o0
      have H1 := Lib.hid o1
      have H3 := Lib.hid o3
      clear o0 o1 o3
      have HR := Lib.hid hr
      clear hr
      go_wp2_with fail
      go_roundw
      case rel => exact ⟨j + 1, K3 + 1, by omega, by go_num, rfl, by
        show _ = _
        have h1 := HCT.out; have h2 := HK.out; have := HY1.out; have := HY2.out; have := HY3.out; omega, by
        rw [HMS.out, ← HK.out]
        have e : mkR [encInts ((rtAt xs j).params), encInts ((rtAt xs j).lent), .num ((rtAt xs j).result), encSteps ((rtAt xs j).body.steps), .num ((rtAt xs j).body.result)] K = [mkD (encInts ((rtAt xs j).params)) (K), mkD (encInts ((rtAt xs j).lent)) (K1), .num (K2), mkD (encSteps ((rtAt xs j).body.steps)) (K2 + 1), .num (K3)] := by
          have hHY1 := HY1.out
          have hHY2 := HY2.out
          have hHY3 := HY3.out
          simp only [mkR, mkD, cntD]
          first | rfl | (congr <;> omega) | (repeat (first | rfl | omega | (congr 1)))
        rw [e]
        refine HOFF.out _ _ _ HR.out X (fun q hq => ?_) rfl (fun q hq => ?_)
        · rw [if_neg (by omega), if_neg (by omega)]
        · rcases q with _ | _ | _ | _ | _ | q
          · exact Own.val (by have hf := F0.out; simp only [Nat.add_zero] at hf; simp [hf]) H0.out
          · exact Own.val (by simp [F1.out]) H1.out
          · exact Own.val (by simp) (.num _ _)
          · exact Own.val (by simp [F3.out]) H3.out
          · exact Own.val (by simp) (.num _ _)
          · omega, hX.trans (X.mono (fun q _ hq => by
        rcases hq with rfl | ⟨i, hi, hq⟩
        · exact hDb
        · exact (hE i q hi hq).1))⟩
      case measure => simp [intOf]; omega
    · have HJ : Hid (j = n) := by show _ = _; omega
      go_wp2
      exact fin_ hQ ⟨K, rfl, by rw [HK.out, HJ.out, List.take_of_length_le (Nat.le_of_eq HRL.out)], by rw [mkTo_all _ _ (HJ.out.trans HRL.out.symm)] at hO; exact hO, hX⟩

end Go.Proofs.YtkapldpmjkdmcaaGreat
/- The laws' own helpers: marks that are held. -/
namespace Go.Proofs.YtkapldpmjkdmcaaGreat
open Go.RowKit


def HdC (f : FuncId) (d : Dat) : Prop := ∀ (a : Option Addr) (n c : Nat) (D : Nat → Prop) (k : Int) (w : World), Rd w D (mkD d k) (.slice a n c) → 0 ≤ k → k + (cntD d : Int) ≤ 4611686018427387904 →
  Calls Tryz.prog f #[.slice a n c, .int .i64 k] w fun e w' => e = .returned (.int .i64 (k + (cntD d : Int))) ∧ Keep w w'


set_option maxRecDepth 100000 in
set_option maxHeartbeats 4000000 in
theorem heldIntS (xs : List Int) : HdC 94 (encInts xs) := by
  intro a n c D k w h h0 h1
  refine calls_k fun Q hQ => ?_
  have e2 : cntD (encInts xs) = cntRR (xs.map rowI) := by rw [encInts, cntD]
  have e3 : mkD (encInts xs) k = .arr 1 (mkRR (xs.map rowI) k) := by rw [encInts, mkD]
  rw [e2] at hQ h1
  rw [e3] at h
  obtain ⟨e1, hnc, hm, hat⟩ := rows_at h
  rw [mkRR_len] at e1
  have HRL := Lib.hid e1
  have HL : Hid (xs.length = n) := by show _ = _; rw [ints_len] at e1; exact e1
  have HA := Lib.hid hat
  clear e1 e2 e3 hat h
  go_enter Tryz.func94, Tryz.ntmps94
  go_wp2
  go_loopw [1, 5] (fun kv iv wr => ∃ (j : Nat) (K : Int), j ≤ n ∧ iv = .int .i64 j ∧ kv = .int .i64 K ∧ Hid (K = k + (cntRR ((xs.map rowI).take j) : Int)) ∧ Keep w wr) (fun _ iv _ => n - (intOf iv).toNat)
  case atStart => exact ⟨0, k, Nat.zero_le _, rfl, rfl, by show _ = _; simp [cntRR], Ext.refl _ _⟩
  case round =>
    obtain ⟨j, K, hj, rfl, rfl, HK, hX⟩ := hrel
    by_cases hlt : j < n
    · have hjl : j < (xs.map rowI).length := by rw [HRL.out]; exact hlt
      have hct := cntRR_take (xs.map rowI) j hjl
      have hcl := cntRR_take_le (xs.map rowI) (j + 1)
      have hrow := ints_row xs j (by have := HL.out; omega)
      have hmg := mkRR_get (xs.map rowI) k j hjl
      rw [hrow] at hct hmg
      rw [← HK.out] at hmg
      have hcr : cntR [.num (iAt xs j)] = 1 := by simp only [cntR, cntD] <;> omega
      rw [hcr] at hct
      have hb0 : 0 ≤ K := by have := HK.out; omega
      have hb1 : K + ((1 : Nat) : Int) ≤ 4611686018427387904 := by have := HK.out; omega
      obtain ⟨b, o, rfl, hd, hcell⟩ := HA.out j hlt
      rw [hmg] at hcell
      have e : mkR [.num (iAt xs j)] K = [.num (K)] := by
        simp only [mkR, mkD]
        first | done | rfl
      rw [e] at hcell
      obtain ⟨u0, d0, r0⟩ := hcell 0 (by omega)
      rw [Nat.mul_one, Nat.add_zero] at d0
      obtain rfl := Rd.num_inv r0
      have g0 := (hX.cell (World.block_lt_of_cell? w _ d0) (fun h => h)).trans d0
      have HCT := Lib.hid hct
      clear hct hcl hrow hmg hcr hcell e d0
      go_wp2_with fail
      go_roundw
      case rel => exact ⟨j + 1, K + 1, by omega, by go_num, rfl, by
        show _ = _
        have h1 := HCT.out; have h2 := HK.out; omega, hX⟩
      case measure => simp [intOf]; omega
    · have HJ : Hid (j = n) := by show _ = _; omega
      go_wp2
      exact fin_ hQ ⟨ret_i (by rw [HK.out, HJ.out, List.take_of_length_le (Nat.le_of_eq HRL.out)]), hX⟩

set_option maxRecDepth 100000 in
set_option maxHeartbeats 4000000 in
theorem heldConS (xs : List (List Int)) : HdC 93 (encCons xs) := by
  intro a n c D k w h h0 h1
  refine calls_k fun Q hQ => ?_
  have e2 : cntD (encCons xs) = cntRR (xs.map rowC) := by rw [encCons, cntD]
  have e3 : mkD (encCons xs) k = .arr 1 (mkRR (xs.map rowC) k) := by rw [encCons, mkD]
  rw [e2] at hQ h1
  rw [e3] at h
  obtain ⟨e1, hnc, hm, hat⟩ := rows_at h
  rw [mkRR_len] at e1
  have HRL := Lib.hid e1
  have HL : Hid (xs.length = n) := by show _ = _; rw [cons_len] at e1; exact e1
  have HA := Lib.hid hat
  clear e1 e2 e3 hat h
  go_enter Tryz.func93, Tryz.ntmps93
  go_wp2
  go_loopw [1, 5] (fun kv iv wr => ∃ (j : Nat) (K : Int), j ≤ n ∧ iv = .int .i64 j ∧ kv = .int .i64 K ∧ Hid (K = k + (cntRR ((xs.map rowC).take j) : Int)) ∧ Keep w wr) (fun _ iv _ => n - (intOf iv).toNat)
  case atStart => exact ⟨0, k, Nat.zero_le _, rfl, rfl, by show _ = _; simp [cntRR], Ext.refl _ _⟩
  case round =>
    obtain ⟨j, K, hj, rfl, rfl, HK, hX⟩ := hrel
    by_cases hlt : j < n
    · have hjl : j < (xs.map rowC).length := by rw [HRL.out]; exact hlt
      have hct := cntRR_take (xs.map rowC) j hjl
      have hcl := cntRR_take_le (xs.map rowC) (j + 1)
      have hrow := cons_row xs j (by have := HL.out; omega)
      have hmg := mkRR_get (xs.map rowC) k j hjl
      rw [hrow] at hct hmg
      rw [← HK.out] at hmg
      have hcr : cntR [encInts (cAt xs j)] = cntD (encInts (cAt xs j)) := by simp only [cntR] <;> omega
      rw [hcr] at hct
      have hb0 : 0 ≤ K := by have := HK.out; omega
      have hb1 : K + ((cntD (encInts (cAt xs j)) : Nat) : Int) ≤ 4611686018427387904 := by have := HK.out; omega
      obtain ⟨b, o, rfl, hd, hcell⟩ := HA.out j hlt
      rw [hmg] at hcell
      obtain ⟨K1, y1⟩ : ∃ z : Int, z = K + (cntD (encInts (cAt xs j)) : Int) := ⟨_, rfl⟩
      have e : mkR [encInts (cAt xs j)] K = [mkD (encInts (cAt xs j)) (K)] := by
        subst y1
        simp only [mkR]
        first | done | rfl
      rw [e] at hcell
      obtain ⟨u0, d0, r0⟩ := hcell 0 (by omega)
      rw [Nat.mul_one, Nat.add_zero] at d0
      replace r0 : Rd w D (mkD (encInts (cAt xs j)) (K)) u0 := r0
      obtain ⟨a0, n0, c0, rfl⟩ : ∃ a n c, u0 = .slice a n c := by
        rw [encInts, mkD] at r0
        obtain ⟨a, n, c, e, _⟩ := arr_slice r0
        exact ⟨a, n, c, e⟩
      have k0 : HdC 94 (encInts (cAt xs j)) := (heldIntS _)
      have q0 := r0.k hX
      have g0 := (hX.cell (World.block_lt_of_cell? w _ d0) (fun h => h)).trans d0
      have B1 : 0 ≤ K1 ∧ K1 ≤ 4611686018427387904 := by omega
      have HCT := Lib.hid hct
      have HY1 := Lib.hid y1
      clear hct hcl hrow hmg hcr hcell e d0 r0 y1
      obtain ⟨B1a, B1b⟩ := B1
      go_wp2_with fail
      refine (k0 _ _ _ _ _ _ q0 (by omega) (by have := HY1.out; omega)).mono ?_
      rw [← HY1.out]
      rintro e w1 ⟨rfl, p1⟩
      have t1 : decide (K1 < 0) = false := by simp; omega
      replace hX := hX.trans p1
      clear g0
      go_wp2_with fail
      go_roundw
      case rel => exact ⟨j + 1, K1, by omega, by go_num, rfl, by
        show _ = _
        have h1 := HCT.out; have h2 := HK.out; have := HY1.out; omega, hX⟩
      case measure => simp [intOf]; omega
    · have HJ : Hid (j = n) := by show _ = _; omega
      go_wp2
      exact fin_ hQ ⟨ret_i (by rw [HK.out, HJ.out, List.take_of_length_le (Nat.le_of_eq HRL.out)]), hX⟩

set_option maxRecDepth 100000 in
set_option maxHeartbeats 4000000 in
theorem heldDeclS (xs : List DeclL) : HdC 46 (encDecls xs) := by
  intro a n c D k w h h0 h1
  refine calls_k fun Q hQ => ?_
  have e2 : cntD (encDecls xs) = cntRR (xs.map rowD) := by rw [encDecls, cntD]
  have e3 : mkD (encDecls xs) k = .arr 3 (mkRR (xs.map rowD) k) := by rw [encDecls, mkD]
  rw [e2] at hQ h1
  rw [e3] at h
  obtain ⟨e1, hnc, hm, hat⟩ := rows_at h
  rw [mkRR_len] at e1
  have HRL := Lib.hid e1
  have HL : Hid (xs.length = n) := by show _ = _; rw [decls_len] at e1; exact e1
  have HA := Lib.hid hat
  clear e1 e2 e3 hat h
  go_enter Tryz.func46, Tryz.ntmps46
  go_wp2
  go_loopw [1, 5] (fun kv iv wr => ∃ (j : Nat) (K : Int), j ≤ n ∧ iv = .int .i64 j ∧ kv = .int .i64 K ∧ Hid (K = k + (cntRR ((xs.map rowD).take j) : Int)) ∧ Keep w wr) (fun _ iv _ => n - (intOf iv).toNat)
  case atStart => exact ⟨0, k, Nat.zero_le _, rfl, rfl, by show _ = _; simp [cntRR], Ext.refl _ _⟩
  case round =>
    obtain ⟨j, K, hj, rfl, rfl, HK, hX⟩ := hrel
    by_cases hlt : j < n
    · have hjl : j < (xs.map rowD).length := by rw [HRL.out]; exact hlt
      have hct := cntRR_take (xs.map rowD) j hjl
      have hcl := cntRR_take_le (xs.map rowD) (j + 1)
      have hrow := decls_row xs j (by have := HL.out; omega)
      have hmg := mkRR_get (xs.map rowD) k j hjl
      rw [hrow] at hct hmg
      rw [← HK.out] at hmg
      have hcr : cntR [.num ((dAt xs j).from_), .num ((dAt xs j).to_), encCons ((dAt xs j).cons)] = 1 + 1 + cntD (encCons ((dAt xs j).cons)) := by simp only [cntR, cntD] <;> omega
      rw [hcr] at hct
      have hb0 : 0 ≤ K := by have := HK.out; omega
      have hb1 : K + ((1 + 1 + cntD (encCons ((dAt xs j).cons)) : Nat) : Int) ≤ 4611686018427387904 := by have := HK.out; omega
      obtain ⟨b, o, rfl, hd, hcell⟩ := HA.out j hlt
      rw [hmg] at hcell
      obtain ⟨K1, y1⟩ : ∃ z : Int, z = K + 1 + 1 + (cntD (encCons ((dAt xs j).cons)) : Int) := ⟨_, rfl⟩
      have e : mkR [.num ((dAt xs j).from_), .num ((dAt xs j).to_), encCons ((dAt xs j).cons)] K = [.num (K), .num (K + 1), mkD (encCons ((dAt xs j).cons)) (K + 1 + 1)] := by
        subst y1
        simp only [mkR, mkD, cntD]
        first | done | rfl
      rw [e] at hcell
      obtain ⟨u0, d0, r0⟩ := hcell 0 (by omega)
      rw [Nat.add_zero] at d0
      obtain rfl := Rd.num_inv r0
      have g0 := (hX.cell (World.block_lt_of_cell? w _ d0) (fun h => h)).trans d0
      obtain ⟨u1, d1, r1⟩ := hcell 1 (by omega)
      obtain rfl := Rd.num_inv r1
      have g1 := (hX.cell (World.block_lt_of_cell? w _ d1) (fun h => h)).trans d1
      obtain ⟨u2, d2, r2⟩ := hcell 2 (by omega)
      replace r2 : Rd w D (mkD (encCons ((dAt xs j).cons)) (K + 1 + 1)) u2 := r2
      obtain ⟨a2, n2, c2, rfl⟩ : ∃ a n c, u2 = .slice a n c := by
        rw [encCons, mkD] at r2
        obtain ⟨a, n, c, e, _⟩ := arr_slice r2
        exact ⟨a, n, c, e⟩
      have k2 : HdC 93 (encCons ((dAt xs j).cons)) := (heldConS _)
      have q2 := r2.k hX
      have g2 := (hX.cell (World.block_lt_of_cell? w _ d2) (fun h => h)).trans d2
      have B1 : 0 ≤ K1 ∧ K1 ≤ 4611686018427387904 := by omega
      have HCT := Lib.hid hct
      have HY1 := Lib.hid y1
      clear hct hcl hrow hmg hcr hcell e d0 d1 d2 r2 y1
      obtain ⟨B1a, B1b⟩ := B1
      go_wp2_with fail
      refine (k2 _ _ _ _ _ _ q2 (by omega) (by have := HY1.out; omega)).mono ?_
      rw [← HY1.out]
      rintro e w1 ⟨rfl, p1⟩
      have t1 : decide (K1 < 0) = false := by simp; omega
      replace hX := hX.trans p1
      clear g0 g1 g2
      go_wp2_with fail
      go_roundw
      case rel => exact ⟨j + 1, K1, by omega, by go_num, rfl, by
        show _ = _
        have h1 := HCT.out; have h2 := HK.out; have := HY1.out; omega, hX⟩
      case measure => simp [intOf]; omega
    · have HJ : Hid (j = n) := by show _ = _; omega
      go_wp2
      exact fin_ hQ ⟨ret_i (by rw [HK.out, HJ.out, List.take_of_length_le (Nat.le_of_eq HRL.out)]), hX⟩



set_option maxRecDepth 100000 in
set_option maxHeartbeats 8000000 in
theorem heldSB_n (N : Nat) : (∀ xs : List StepL, volD (encSteps xs) < N → HdC 95 (encSteps xs)) ∧ (∀ xs : List BlockL, volD (encBlocks xs) < N → HdC 140 (encBlocks xs)) := by
  induction N with
  | zero => exact ⟨fun xs h => by omega, fun xs h => by omega⟩
  | succ N ihN =>
  obtain ⟨ihS, ihB⟩ := ihN
  refine ⟨?_, ?_⟩
  · intro xs hvol a n c D k w h h0 h1
    have IHStep : ∀ ys : List StepL, volD (encSteps ys) < volD (encSteps xs) → HdC 95 (encSteps ys) := fun ys hy => ihS ys (by omega)
    have IHBlock : ∀ ys : List BlockL, volD (encBlocks ys) < volD (encSteps xs) → HdC 140 (encBlocks ys) := fun ys hy => ihB ys (by omega)
    clear ihS ihB hvol
    refine calls_k fun Q hQ => ?_
    have e2 : cntD (encSteps xs) = cntRR (rowsS xs) := by rw [encSteps, cntD]
    have e3 : mkD (encSteps xs) k = .arr 5 (mkRR (rowsS xs) k) := by rw [encSteps, mkD]
    rw [e2] at hQ h1
    rw [e3] at h
    obtain ⟨e1, hnc, hm, hat⟩ := rows_at h
    rw [mkRR_len] at e1
    have HRL := Lib.hid e1
    have HL : Hid (xs.length = n) := by show _ = _; rw [steps_len] at e1; exact e1
    have HA := Lib.hid hat
    clear e1 e2 e3 hat h
    go_enter Tryz.func95, Tryz.ntmps95
    go_wp2
    go_loopw [1, 5] (fun kv iv wr => ∃ (j : Nat) (K : Int), j ≤ n ∧ iv = .int .i64 j ∧ kv = .int .i64 K ∧ Hid (K = k + (cntRR ((rowsS xs).take j) : Int)) ∧ Keep w wr) (fun _ iv _ => n - (intOf iv).toNat)
    case atStart => exact ⟨0, k, Nat.zero_le _, rfl, rfl, by show _ = _; simp [cntRR], Ext.refl _ _⟩
    case round =>
      obtain ⟨j, K, hj, rfl, rfl, HK, hX⟩ := hrel
      by_cases hlt : j < n
      · have hjl : j < (rowsS xs).length := by rw [HRL.out]; exact hlt
        have hct := cntRR_take (rowsS xs) j hjl
        have hcl := cntRR_take_le (rowsS xs) (j + 1)
        have hrow := steps_row xs j (by have := HL.out; omega)
        have hmg := mkRR_get (rowsS xs) k j hjl
        rw [hrow] at hct hmg
        rw [← HK.out] at hmg
        have hcr : cntR [.num ((sAt xs j).op), .num ((sAt xs j).num), .num ((sAt xs j).into), encInts ((sAt xs j).args), encBlocks ((sAt xs j).kids)] = 1 + 1 + 1 + cntD (encInts ((sAt xs j).args)) + cntD (encBlocks ((sAt xs j).kids)) := by simp only [cntR, cntD] <;> omega
        rw [hcr] at hct
        have hb0 : 0 ≤ K := by have := HK.out; omega
        have hb1 : K + ((1 + 1 + 1 + cntD (encInts ((sAt xs j).args)) + cntD (encBlocks ((sAt xs j).kids)) : Nat) : Int) ≤ 4611686018427387904 := by have := HK.out; omega
        obtain ⟨b, o, rfl, hd, hcell⟩ := HA.out j hlt
        rw [hmg] at hcell
        obtain ⟨K1, y1⟩ : ∃ z : Int, z = K + 1 + 1 + 1 + (cntD (encInts ((sAt xs j).args)) : Int) := ⟨_, rfl⟩
        obtain ⟨K2, y2⟩ : ∃ z : Int, z = K1 + (cntD (encBlocks ((sAt xs j).kids)) : Int) := ⟨_, rfl⟩
        have e : mkR [.num ((sAt xs j).op), .num ((sAt xs j).num), .num ((sAt xs j).into), encInts ((sAt xs j).args), encBlocks ((sAt xs j).kids)] K = [.num (K), .num (K + 1), .num (K + 1 + 1), mkD (encInts ((sAt xs j).args)) (K + 1 + 1 + 1), mkD (encBlocks ((sAt xs j).kids)) (K1)] := by
          subst y1
          subst y2
          simp only [mkR, mkD, cntD]
          first | done | rfl
        rw [e] at hcell
        obtain ⟨u0, d0, r0⟩ := hcell 0 (by omega)
        rw [Nat.add_zero] at d0
        obtain rfl := Rd.num_inv r0
        have g0 := (hX.cell (World.block_lt_of_cell? w _ d0) (fun h => h)).trans d0
        obtain ⟨u1, d1, r1⟩ := hcell 1 (by omega)
        obtain rfl := Rd.num_inv r1
        have g1 := (hX.cell (World.block_lt_of_cell? w _ d1) (fun h => h)).trans d1
        obtain ⟨u2, d2, r2⟩ := hcell 2 (by omega)
        obtain rfl := Rd.num_inv r2
        have g2 := (hX.cell (World.block_lt_of_cell? w _ d2) (fun h => h)).trans d2
        obtain ⟨u3, d3, r3⟩ := hcell 3 (by omega)
        replace r3 : Rd w D (mkD (encInts ((sAt xs j).args)) (K + 1 + 1 + 1)) u3 := r3
        obtain ⟨a3, n3, c3, rfl⟩ : ∃ a n c, u3 = .slice a n c := by
          rw [encInts, mkD] at r3
          obtain ⟨a, n, c, e, _⟩ := arr_slice r3
          exact ⟨a, n, c, e⟩
        have k3 : HdC 94 (encInts ((sAt xs j).args)) := (heldIntS _)
        have q3 := r3.k hX
        have g3 := (hX.cell (World.block_lt_of_cell? w _ d3) (fun h => h)).trans d3
        obtain ⟨u4, d4, r4⟩ := hcell 4 (by omega)
        replace r4 : Rd w D (mkD (encBlocks ((sAt xs j).kids)) (K1)) u4 := r4
        obtain ⟨a4, n4, c4, rfl⟩ : ∃ a n c, u4 = .slice a n c := by
          rw [encBlocks, mkD] at r4
          obtain ⟨a, n, c, e, _⟩ := arr_slice r4
          exact ⟨a, n, c, e⟩
        have k4 : HdC 140 (encBlocks ((sAt xs j).kids)) := (IHBlock _ (by have := vol_lt (s := 5) (rows := (rowsS xs)) (i := j) (j := 4) hjl (by rw [hrow]; simp); rw [rAt, hrow] at this; simp only [dGet, List.getD, List.getElem?_cons_succ, List.getElem?_cons_zero, Option.getD_some] at this; exact this))
        have q4 := r4.k hX
        have g4 := (hX.cell (World.block_lt_of_cell? w _ d4) (fun h => h)).trans d4
        have B1 : 0 ≤ K1 ∧ K1 ≤ 4611686018427387904 := by omega
        have B2 : 0 ≤ K2 ∧ K2 ≤ 4611686018427387904 := by omega
        have HCT := Lib.hid hct
        have HY1 := Lib.hid y1
        have HY2 := Lib.hid y2
        clear hct hcl hrow hmg hcr hcell e d0 d1 d2 d3 r3 d4 r4 y1 y2
        obtain ⟨B1a, B1b⟩ := B1
        obtain ⟨B2a, B2b⟩ := B2
        go_wp2_with fail
        refine (k3 _ _ _ _ _ _ q3 (by omega) (by have := HY1.out; omega)).mono ?_
        rw [← HY1.out]
        rintro e w1 ⟨rfl, p1⟩
        have t1 : decide (K1 < 0) = false := by simp; omega
        replace g4 := (p1.cell (World.block_lt_of_cell? _ _ g4) (fun h => h)).trans g4
        replace q4 := q4.k p1
        replace hX := hX.trans p1
        clear g0 g1 g2 g3
        go_wp2_with fail
        refine (k4 _ _ _ _ _ _ q4 (by omega) (by have := HY2.out; omega)).mono ?_
        rw [← HY2.out]
        rintro e w2 ⟨rfl, p2⟩
        have t2 : decide (K2 < 0) = false := by simp; omega
        replace hX := hX.trans p2
        clear g4
        go_wp2_with fail
        go_roundw
        case rel => exact ⟨j + 1, K2, by omega, by go_num, rfl, by
          show _ = _
          have h1 := HCT.out; have h2 := HK.out; have := HY1.out; have := HY2.out; omega, hX⟩
        case measure => simp [intOf]; omega
      · have HJ : Hid (j = n) := by show _ = _; omega
        go_wp2
        exact fin_ hQ ⟨ret_i (by rw [HK.out, HJ.out, List.take_of_length_le (Nat.le_of_eq HRL.out)]), hX⟩
  · intro xs hvol a n c D k w h h0 h1
    have IHStep : ∀ ys : List StepL, volD (encSteps ys) < volD (encBlocks xs) → HdC 95 (encSteps ys) := fun ys hy => ihS ys (by omega)
    have IHBlock : ∀ ys : List BlockL, volD (encBlocks ys) < volD (encBlocks xs) → HdC 140 (encBlocks ys) := fun ys hy => ihB ys (by omega)
    clear ihS ihB hvol
    refine calls_k fun Q hQ => ?_
    have e2 : cntD (encBlocks xs) = cntRR (rowsB xs) := by rw [encBlocks, cntD]
    have e3 : mkD (encBlocks xs) k = .arr 2 (mkRR (rowsB xs) k) := by rw [encBlocks, mkD]
    rw [e2] at hQ h1
    rw [e3] at h
    obtain ⟨e1, hnc, hm, hat⟩ := rows_at h
    rw [mkRR_len] at e1
    have HRL := Lib.hid e1
    have HL : Hid (xs.length = n) := by show _ = _; rw [blocks_len] at e1; exact e1
    have HA := Lib.hid hat
    clear e1 e2 e3 hat h
    go_enter Tryz.func140, Tryz.ntmps140
    go_wp2
    go_loopw [1, 5] (fun kv iv wr => ∃ (j : Nat) (K : Int), j ≤ n ∧ iv = .int .i64 j ∧ kv = .int .i64 K ∧ Hid (K = k + (cntRR ((rowsB xs).take j) : Int)) ∧ Keep w wr) (fun _ iv _ => n - (intOf iv).toNat)
    case atStart => exact ⟨0, k, Nat.zero_le _, rfl, rfl, by show _ = _; simp [cntRR], Ext.refl _ _⟩
    case round =>
      obtain ⟨j, K, hj, rfl, rfl, HK, hX⟩ := hrel
      by_cases hlt : j < n
      · have hjl : j < (rowsB xs).length := by rw [HRL.out]; exact hlt
        have hct := cntRR_take (rowsB xs) j hjl
        have hcl := cntRR_take_le (rowsB xs) (j + 1)
        have hrow := blocks_row xs j (by have := HL.out; omega)
        have hmg := mkRR_get (rowsB xs) k j hjl
        rw [hrow] at hct hmg
        rw [← HK.out] at hmg
        have hcr : cntR [encSteps ((bAt xs j).steps), .num ((bAt xs j).result)] = cntD (encSteps ((bAt xs j).steps)) + 1 := by simp only [cntR, cntD] <;> omega
        rw [hcr] at hct
        have hb0 : 0 ≤ K := by have := HK.out; omega
        have hb1 : K + ((cntD (encSteps ((bAt xs j).steps)) + 1 : Nat) : Int) ≤ 4611686018427387904 := by have := HK.out; omega
        obtain ⟨b, o, rfl, hd, hcell⟩ := HA.out j hlt
        rw [hmg] at hcell
        obtain ⟨K1, y1⟩ : ∃ z : Int, z = K + (cntD (encSteps ((bAt xs j).steps)) : Int) := ⟨_, rfl⟩
        have e : mkR [encSteps ((bAt xs j).steps), .num ((bAt xs j).result)] K = [mkD (encSteps ((bAt xs j).steps)) (K), .num (K1)] := by
          subst y1
          simp only [mkR, mkD]
          first | done | rfl
        rw [e] at hcell
        obtain ⟨u0, d0, r0⟩ := hcell 0 (by omega)
        rw [Nat.add_zero] at d0
        replace r0 : Rd w D (mkD (encSteps ((bAt xs j).steps)) (K)) u0 := r0
        obtain ⟨a0, n0, c0, rfl⟩ : ∃ a n c, u0 = .slice a n c := by
          rw [encSteps, mkD] at r0
          obtain ⟨a, n, c, e, _⟩ := arr_slice r0
          exact ⟨a, n, c, e⟩
        have k0 : HdC 95 (encSteps ((bAt xs j).steps)) := (IHStep _ (by have := vol_lt (s := 2) (rows := (rowsB xs)) (i := j) (j := 0) hjl (by rw [hrow]; simp); rw [rAt, hrow] at this; simp only [dGet, List.getD, List.getElem?_cons_zero, Option.getD_some] at this; exact this))
        have q0 := r0.k hX
        have g0 := (hX.cell (World.block_lt_of_cell? w _ d0) (fun h => h)).trans d0
        obtain ⟨u1, d1, r1⟩ := hcell 1 (by omega)
        obtain rfl := Rd.num_inv r1
        have g1 := (hX.cell (World.block_lt_of_cell? w _ d1) (fun h => h)).trans d1
        have B1 : 0 ≤ K1 ∧ K1 ≤ 4611686018427387904 := by omega
        have HCT := Lib.hid hct
        have HY1 := Lib.hid y1
        clear hct hcl hrow hmg hcr hcell e d0 r0 d1 y1
        obtain ⟨B1a, B1b⟩ := B1
        go_wp2_with fail
        refine (k0 _ _ _ _ _ _ q0 (by omega) (by have := HY1.out; omega)).mono ?_
        rw [← HY1.out]
        rintro e w1 ⟨rfl, p1⟩
        have t1 : decide (K1 < 0) = false := by simp; omega
        replace g1 := (p1.cell (World.block_lt_of_cell? _ _ g1) (fun h => h)).trans g1
        replace hX := hX.trans p1
        clear g0
        go_wp2_with fail
        go_roundw
        case rel => exact ⟨j + 1, K1 + 1, by omega, by go_num, rfl, by
          show _ = _
          have h1 := HCT.out; have h2 := HK.out; have := HY1.out; omega, hX⟩
        case measure => simp [intOf]; omega
      · have HJ : Hid (j = n) := by show _ = _; omega
        go_wp2
        exact fin_ hQ ⟨ret_i (by rw [HK.out, HJ.out, List.take_of_length_le (Nat.le_of_eq HRL.out)]), hX⟩
theorem heldStepS (xs : List StepL) : HdC 95 (encSteps xs) := (heldSB_n _).1 xs (Nat.lt_succ_self _)
set_option maxRecDepth 100000 in
set_option maxHeartbeats 4000000 in
theorem heldRoutineS (xs : List RoutL) : HdC 47 (encRouts xs) := by
  intro a n c D k w h h0 h1
  refine calls_k fun Q hQ => ?_
  have e2 : cntD (encRouts xs) = cntRR (xs.map rowR) := by rw [encRouts, cntD]
  have e3 : mkD (encRouts xs) k = .arr 5 (mkRR (xs.map rowR) k) := by rw [encRouts, mkD]
  rw [e2] at hQ h1
  rw [e3] at h
  obtain ⟨e1, hnc, hm, hat⟩ := rows_at h
  rw [mkRR_len] at e1
  have HRL := Lib.hid e1
  have HL : Hid (xs.length = n) := by show _ = _; rw [routs_len] at e1; exact e1
  have HA := Lib.hid hat
  clear e1 e2 e3 hat h
  go_enter Tryz.func47, Tryz.ntmps47
  go_wp2
  go_loopw [1, 5] (fun kv iv wr => ∃ (j : Nat) (K : Int), j ≤ n ∧ iv = .int .i64 j ∧ kv = .int .i64 K ∧ Hid (K = k + (cntRR ((xs.map rowR).take j) : Int)) ∧ Keep w wr) (fun _ iv _ => n - (intOf iv).toNat)
  case atStart => exact ⟨0, k, Nat.zero_le _, rfl, rfl, by show _ = _; simp [cntRR], Ext.refl _ _⟩
  case round =>
    obtain ⟨j, K, hj, rfl, rfl, HK, hX⟩ := hrel
    by_cases hlt : j < n
    · have hjl : j < (xs.map rowR).length := by rw [HRL.out]; exact hlt
      have hct := cntRR_take (xs.map rowR) j hjl
      have hcl := cntRR_take_le (xs.map rowR) (j + 1)
      have hrow := routs_row xs j (by have := HL.out; omega)
      have hmg := mkRR_get (xs.map rowR) k j hjl
      rw [hrow] at hct hmg
      rw [← HK.out] at hmg
      have hcr : cntR [encInts ((rtAt xs j).params), encInts ((rtAt xs j).lent), .num ((rtAt xs j).result), encSteps ((rtAt xs j).body.steps), .num ((rtAt xs j).body.result)] = cntD (encInts ((rtAt xs j).params)) + cntD (encInts ((rtAt xs j).lent)) + 1 + cntD (encSteps ((rtAt xs j).body.steps)) + 1 := by simp only [cntR, cntD] <;> omega
      rw [hcr] at hct
      have hb0 : 0 ≤ K := by have := HK.out; omega
      have hb1 : K + ((cntD (encInts ((rtAt xs j).params)) + cntD (encInts ((rtAt xs j).lent)) + 1 + cntD (encSteps ((rtAt xs j).body.steps)) + 1 : Nat) : Int) ≤ 4611686018427387904 := by have := HK.out; omega
      obtain ⟨b, o, rfl, hd, hcell⟩ := HA.out j hlt
      rw [hmg] at hcell
      obtain ⟨K1, y1⟩ : ∃ z : Int, z = K + (cntD (encInts ((rtAt xs j).params)) : Int) := ⟨_, rfl⟩
      obtain ⟨K2, y2⟩ : ∃ z : Int, z = K1 + (cntD (encInts ((rtAt xs j).lent)) : Int) := ⟨_, rfl⟩
      obtain ⟨K3, y3⟩ : ∃ z : Int, z = K2 + 1 + (cntD (encSteps ((rtAt xs j).body.steps)) : Int) := ⟨_, rfl⟩
      have e : mkR [encInts ((rtAt xs j).params), encInts ((rtAt xs j).lent), .num ((rtAt xs j).result), encSteps ((rtAt xs j).body.steps), .num ((rtAt xs j).body.result)] K = [mkD (encInts ((rtAt xs j).params)) (K), mkD (encInts ((rtAt xs j).lent)) (K1), .num (K2), mkD (encSteps ((rtAt xs j).body.steps)) (K2 + 1), .num (K3)] := by
        subst y1
        subst y2
        subst y3
        simp only [mkR, mkD, cntD]
        first | done | rfl
      rw [e] at hcell
      obtain ⟨u0, d0, r0⟩ := hcell 0 (by omega)
      rw [Nat.add_zero] at d0
      replace r0 : Rd w D (mkD (encInts ((rtAt xs j).params)) (K)) u0 := r0
      obtain ⟨a0, n0, c0, rfl⟩ : ∃ a n c, u0 = .slice a n c := by
        rw [encInts, mkD] at r0
        obtain ⟨a, n, c, e, _⟩ := arr_slice r0
        exact ⟨a, n, c, e⟩
      have k0 : HdC 94 (encInts ((rtAt xs j).params)) := (heldIntS _)
      have q0 := r0.k hX
      have g0 := (hX.cell (World.block_lt_of_cell? w _ d0) (fun h => h)).trans d0
      obtain ⟨u1, d1, r1⟩ := hcell 1 (by omega)
      replace r1 : Rd w D (mkD (encInts ((rtAt xs j).lent)) (K1)) u1 := r1
      obtain ⟨a1, n1, c1, rfl⟩ : ∃ a n c, u1 = .slice a n c := by
        rw [encInts, mkD] at r1
        obtain ⟨a, n, c, e, _⟩ := arr_slice r1
        exact ⟨a, n, c, e⟩
      have k1 : HdC 94 (encInts ((rtAt xs j).lent)) := (heldIntS _)
      have q1 := r1.k hX
      have g1 := (hX.cell (World.block_lt_of_cell? w _ d1) (fun h => h)).trans d1
      obtain ⟨u2, d2, r2⟩ := hcell 2 (by omega)
      obtain rfl := Rd.num_inv r2
      have g2 := (hX.cell (World.block_lt_of_cell? w _ d2) (fun h => h)).trans d2
      obtain ⟨u3, d3, r3⟩ := hcell 3 (by omega)
      replace r3 : Rd w D (mkD (encSteps ((rtAt xs j).body.steps)) (K2 + 1)) u3 := r3
      obtain ⟨a3, n3, c3, rfl⟩ : ∃ a n c, u3 = .slice a n c := by
        rw [encSteps, mkD] at r3
        obtain ⟨a, n, c, e, _⟩ := arr_slice r3
        exact ⟨a, n, c, e⟩
      have k3 : HdC 95 (encSteps ((rtAt xs j).body.steps)) := (heldStepS _)
      have q3 := r3.k hX
      have g3 := (hX.cell (World.block_lt_of_cell? w _ d3) (fun h => h)).trans d3
      obtain ⟨u4, d4, r4⟩ := hcell 4 (by omega)
      obtain rfl := Rd.num_inv r4
      have g4 := (hX.cell (World.block_lt_of_cell? w _ d4) (fun h => h)).trans d4
      have B1 : 0 ≤ K1 ∧ K1 ≤ 4611686018427387904 := by omega
      have B2 : 0 ≤ K2 ∧ K2 ≤ 4611686018427387904 := by omega
      have B3 : 0 ≤ K3 ∧ K3 ≤ 4611686018427387904 := by omega
      have HCT := Lib.hid hct
      have HY1 := Lib.hid y1
      have HY2 := Lib.hid y2
      have HY3 := Lib.hid y3
      clear hct hcl hrow hmg hcr hcell e d0 r0 d1 r1 d2 d3 r3 d4 y1 y2 y3
      obtain ⟨B1a, B1b⟩ := B1
      obtain ⟨B2a, B2b⟩ := B2
      obtain ⟨B3a, B3b⟩ := B3
      go_wp2_with fail
      refine (k0 _ _ _ _ _ _ q0 (by omega) (by have := HY1.out; omega)).mono ?_
      rw [← HY1.out]
      rintro e w1 ⟨rfl, p1⟩
      have t1 : decide (K1 < 0) = false := by simp; omega
      replace g1 := (p1.cell (World.block_lt_of_cell? _ _ g1) (fun h => h)).trans g1
      replace g2 := (p1.cell (World.block_lt_of_cell? _ _ g2) (fun h => h)).trans g2
      replace g3 := (p1.cell (World.block_lt_of_cell? _ _ g3) (fun h => h)).trans g3
      replace g4 := (p1.cell (World.block_lt_of_cell? _ _ g4) (fun h => h)).trans g4
      replace q1 := q1.k p1
      replace q3 := q3.k p1
      replace hX := hX.trans p1
      clear g0
      go_wp2_with fail
      refine (k1 _ _ _ _ _ _ q1 (by omega) (by have := HY2.out; omega)).mono ?_
      rw [← HY2.out]
      rintro e w2 ⟨rfl, p2⟩
      have t2 : decide (K2 < 0) = false := by simp; omega
      replace g2 := (p2.cell (World.block_lt_of_cell? _ _ g2) (fun h => h)).trans g2
      replace g3 := (p2.cell (World.block_lt_of_cell? _ _ g3) (fun h => h)).trans g3
      replace g4 := (p2.cell (World.block_lt_of_cell? _ _ g4) (fun h => h)).trans g4
      replace q3 := q3.k p2
      replace hX := hX.trans p2
      clear g1
      go_wp2_with fail
      refine (k3 _ _ _ _ _ _ q3 (by omega) (by have := HY3.out; omega)).mono ?_
      rw [← HY3.out]
      rintro e w3 ⟨rfl, p3⟩
      have t3 : decide (K3 < 0) = false := by simp; omega
      replace g4 := (p3.cell (World.block_lt_of_cell? _ _ g4) (fun h => h)).trans g4
      replace hX := hX.trans p3
      clear g2 g3
      go_wp2_with fail
      go_roundw
      case rel => exact ⟨j + 1, K3 + 1, by omega, by go_num, rfl, by
        show _ = _
        have h1 := HCT.out; have h2 := HK.out; have := HY1.out; have := HY2.out; have := HY3.out; omega, hX⟩
      case measure => simp [intOf]; omega
    · have HJ : Hid (j = n) := by show _ = _; omega
      go_wp2
      exact fin_ hQ ⟨ret_i (by rw [HK.out, HJ.out, List.take_of_length_le (Nat.le_of_eq HRL.out)]), hX⟩

end Go.Proofs.YtkapldpmjkdmcaaGreat
/- The laws' own helpers: marks over values. -/
namespace Go.Proofs.YtkapldpmjkdmcaaGreat
open Go.RowKit

theorem ToS.two {lo hi : Nat} {w : World} {d0 d1 : Dat} {u0 u1 : Value} (h : ToS lo hi w [d0, d1] [u0, u1]) : ∃ E0 E1 : Nat → Prop, (∀ k, E0 k → lo ≤ k ∧ k < hi) ∧ (∀ k, E1 k → lo ≤ k ∧ k < hi) ∧ (∀ k, E0 k → ¬ E1 k) ∧ Own w E0 d0 u0 ∧ Own w E1 d1 u1 := by
  obtain ⟨E, h1, h2, _, h4⟩ := h
  obtain ⟨v0, e0, o0⟩ := h4 0 (by simp)
  obtain ⟨v1, e1, o1⟩ := h4 1 (by simp)
  injection e0 with e0
  injection e1 with e1
  subst e0 e1
  exact ⟨E 0, E 1, fun k => h1 0 k, fun k => h1 1 k, fun k hk hk' => by have := h2 0 1 k hk hk'; omega, o0, o1⟩
theorem ToS.mk2 {lo hi : Nat} {w : World} {d0 d1 : Dat} {u0 u1 : Value} {E0 E1 : Nat → Prop} (h0 : ∀ k, E0 k → lo ≤ k ∧ k < hi) (h1 : ∀ k, E1 k → lo ≤ k ∧ k < hi) (hd : ∀ k, E0 k → ¬ E1 k) (o0 : Own w E0 d0 u0) (o1 : Own w E1 d1 u1) : ToS lo hi w [d0, d1] [u0, u1] := by
  refine ⟨fun i k => (i = 0 ∧ E0 k) ∨ (i = 1 ∧ E1 k), fun i k hk => ?_, fun i i' k hk hk' => ?_, rfl, fun i hi => ?_⟩
  · rcases hk with ⟨_, hk⟩ | ⟨_, hk⟩
    · exact h0 k hk
    · exact h1 k hk
  · rcases hk with ⟨rfl, hk⟩ | ⟨rfl, hk⟩ <;> rcases hk' with ⟨rfl, hk'⟩ | ⟨rfl, hk'⟩
    · rfl
    · exact absurd hk' (hd k hk)
    · exact absurd hk (hd k hk')
    · rfl
  · rcases (show i = 0 ∨ i = 1 by simp at hi; omega) with rfl | rfl
    · exact ⟨u0, rfl, o0.mono (fun k hk => .inl ⟨rfl, hk⟩)⟩
    · exact ⟨u1, rfl, o1.mono (fun k hk => .inr ⟨rfl, hk⟩)⟩


theorem markNormal (lo hi : Nat) (w : World) (d0 d1 : Dat) (a0 : Option Addr) (n0 c0 : Nat) (a1 : Option Addr) (n1 c1 : Nat) (k : Int) (h : ToS lo hi w [d0, d1] [.slice a0 n0 c0, .slice a1 n1 c1]) (hhi : hi ≤ w.heap.size) (m0 : MkC 44 d0) (m1 : MkC 45 d1)
    (hk : 0 ≤ k) (hb : k + (cntD d0 : Int) + (cntD d1 : Int) ≤ 4611686018427387904) :
    Calls Tryz.prog 12 #[.agg #[.slice a0 n0 c0, .slice a1 n1 c1], .int .i64 k] w fun e w' => ∃ k' : Int, e = .returned (.int .i64 k') ∧ k' = k + (cntD d0 : Int) + (cntD d1 : Int) ∧ ToS lo hi w' [mkD d0 k, mkD d1 (k + (cntD d0 : Int))] [.slice a0 n0 c0, .slice a1 n1 c1] ∧ Ext (fun q => lo ≤ q ∧ q < hi) w w' := by
  refine calls_k fun Q hQ => ?_
  obtain ⟨E0, E1, h0, h1, hd, p0, p1⟩ := h.two
  have K0 := Keep.al w (.cells #[.slice a0 n0 c0, .slice a1 n1 c1] 30)
  have RB := Lib.hid (rowOf w #[.slice a0 n0 c0, .slice a1 n1 c1] 30)
  have o0 := Lib.hid (p0.ext K0 (fun _ _ h => h))
  have o1 := Lib.hid (p1.ext K0 (fun _ _ h => h))
  have H0 := Lib.hid h0
  have H1 := Lib.hid h1
  have HD := Lib.hid hd
  clear h p0 p1 h0 h1 hd
  go_enter Tryz.func12, Tryz.ntmps12
  go_wp2_with fail
  refine (m0 _ _ _ _ _ _ o0.out hk (by omega)).mono ?_
  rintro e w1 ⟨k1, rfl, hk1, q0, x1⟩
  have V1 := Lib.hid hk1
  have O0 := Lib.hid q0
  have O1 := Lib.hid (o1.out.ext x1 (fun q hq hq' => HD.out q hq' hq))
  have X1 := Lib.hid ((Keep.to K0).trans x1)
  have y1 : w1.cell? ⟨w.heap.size, 1, none⟩ = some (.slice a1 n1 c1) := (row_ext RB.out x1 (fun hq => by have := (H0.out _ hq).2; omega)).cell (i := 1) (by simp)
  clear hk1 q0 x1 K0
  go_wp2_with fail
  refine (m1 _ _ _ _ _ _ O1.out (by have := V1.out; omega) (by have := V1.out; omega)).mono ?_
  rintro e w2 ⟨k2, rfl, hk2, q1, x2⟩
  have V2 := Lib.hid hk2
  clear hk2
  go_wp2_with fail
  refine fin_ hQ ⟨k2, rfl, by rw [V2.out, V1.out], ?_, ((X1.out.mono (fun q _ hq => H0.out q hq)).trans (x2.mono (fun q _ hq => H1.out q hq)))⟩
  have e1 := V1.out
  subst e1
  exact ToS.mk2 H0.out H1.out HD.out (O0.out.ext x2 (fun q hq hq' => HD.out q hq hq')) q1
theorem heldNormal (lo hi : Nat) (w : World) (d0 d1 : Dat) (a0 : Option Addr) (n0 c0 : Nat) (a1 : Option Addr) (n1 c1 : Nat) (k : Int) (h : ToS lo hi w [mkD d0 k, mkD d1 (k + (cntD d0 : Int))] [.slice a0 n0 c0, .slice a1 n1 c1]) (m0 : HdC 46 d0) (m1 : HdC 47 d1)
    (hk : 0 ≤ k) (hb : k + (cntD d0 : Int) + (cntD d1 : Int) ≤ 4611686018427387904) :
    Calls Tryz.prog 13 #[.agg #[.slice a0 n0 c0, .slice a1 n1 c1], .int .i64 k] w fun e w' => e = .returned (.int .i64 (k + (cntD d0 : Int) + (cntD d1 : Int))) ∧ Keep w w' := by
  refine calls_k fun Q hQ => ?_
  obtain ⟨E0, E1, _, _, _, p0, p1⟩ := h.two
  have K0 := Keep.al w (.cells #[.slice a0 n0 c0, .slice a1 n1 c1] 30)
  have RB := Lib.hid (rowOf w #[.slice a0 n0 c0, .slice a1 n1 c1] 30)
  have o0 := p0.read.k K0
  have o1 := Lib.hid (p1.read.k K0)
  clear h p0 p1
  have t1 : 0 ≤ k + (cntD d0 : Int) := by omega
  have t2 : 0 ≤ k + (cntD d0 : Int) + (cntD d1 : Int) := by omega
  go_enter Tryz.func13, Tryz.ntmps13
  go_wp2_with fail
  refine (m0 _ _ _ _ _ _ o0 hk (by omega)).mono ?_
  rintro e w1 ⟨rfl, x1⟩
  have O1 := o1.out.k x1
  have y1 : w1.cell? ⟨w.heap.size, 1, none⟩ = some (.slice a1 n1 c1) := (row_ext RB.out x1 (fun h => h)).cell (i := 1) (by simp)
  go_wp2_with fail
  refine (m1 _ _ _ _ _ _ O1 (by omega) (by omega)).mono ?_
  rintro e w2 ⟨rfl, x2⟩
  go_wp2_with fail
  exact fin_ hQ ⟨rfl, (K0.trans x1).trans x2⟩

end Go.Proofs.YtkapldpmjkdmcaaGreat
