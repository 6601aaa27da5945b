/- The program's types of steps: match. -/
import Derived.Test.YtkapldpmjkdmcaaGreatTAN
namespace Go.Proofs.YtkapldpmjkdmcaaGreat
open Go.RowKit

section
variable (ds : List DeclL) (sg : List SigL) (hok : sigsOk ds sg = true)
include hok

set_option maxRecDepth 100000 in
set_option maxHeartbeats 1500000 in
theorem implStep_8 (op num : Int) (args : List Int) (ks : List BlockL) (hos : okS (.mk op num 0 args ks)) (IH0 : ∀ j, j < ks.length → BlI ds sg (bAt ks j).result (bAt ks j).steps) (a0 : Option Addr) (n0 c0 : Nat) (a1 : Option Addr) (n1 c1 : Nat) (av : Option Addr) (nv cv : Nat) (sc : List Int) (aa : Option Addr) (na ca : Nat) (ak : Option Addr) (nk ck : Nat) (w : World) (hp : SR w (fun _ => True) ds sg a0 n0 c0 a1 n1 c1) (hv : IntsL w (fun _ => True) av nv sc) (ha : Rd w (fun _ => True) (encInts args) (.slice aa na ca)) (hk : Rd w (fun _ => True) (encBlocks ks) (.slice ak nk ck)) (hlen : sc.length + 4 * (nBs ks + 1) ≤ 1052000) (hall : allT ds.length sc = true) (h8 : op = 8) :
    Calls Tryz.prog 134 #[.agg #[.slice a0 n0 c0, .slice a1 n1 c1], .slice av nv cv, .agg #[.int .i64 op, .int .i64 num, .int .i64 0, .slice aa na ca, .slice ak nk ck]] w (StR ds sg sc (.mk op num 0 args ks) w) := by
  have HH8 := Lib.hid h8
  clear h8
  refine calls_k fun Q hQ => ?_
  rw [okS] at hos
  have ht := (sigsOk_parts hok).1
  have hf := Few.of_ok ht
  have hn0 : n0 ≤ 4 := by have := (decls_at hp.1).1; have := typesOk_len ht; omega
  have hn1 : n1 ≤ 4 := by have := (sigs_at hp.2).1; have := (sigsOk_parts hok).2.2.1; omega
  have hnv : nv ≤ 1052000 := by have := hv.1; omega
  have hna : na ≤ 1048576 := by have := (ints_at ha).1; have := hos.2.1; omega
  have HNL : Hid (args.length = na) := (ints_at ha).1
  have HSL : Hid (sc.length = nv) := hv.1
  have HNK : Hid (ks.length = nk) := (blocks_at hk).1
  have hnk : nk ≤ 9223372036854775807 := (blocks_at hk).2.2.1
  have HFN := Lib.hid hos.1
  have HOK := Lib.hid hok
  have HAll := Lib.hid hall
  have HLen := Lib.hid hlen
  have HT := Lib.hid ht
  have HF := Lib.hid hf
  have IH := Lib.hid IH0
  have K0 := Lib.hid ((Keep.al w (.cells #[.slice a0 n0 c0, .slice a1 n1 c1] 130)).trans (Keep.al _ (.cells #[.int .i64 op, .int .i64 num, .int .i64 0, .slice aa na ca, .slice ak nk ck] 136)))
  have R0 := (rowOf w #[.slice a0 n0 c0, .slice a1 n1 c1] 130).alloc (.cells #[.int .i64 op, .int .i64 num, .int .i64 0, .slice aa na ca, .slice ak nk ck] 136)
  have R1 := rowOf (w.alloc (.cells #[.slice a0 n0 c0, .slice a1 n1 c1] 130)) #[.int .i64 op, .int .i64 num, .int .i64 0, .slice aa na ca, .slice ak nk ck] 136
  simp only [World.size_alloc] at R1
  have R0a := Lib.hid R0
  have R1a := Lib.hid R1
  have ya := R1.cell (i := 3) (by simp)
  simp at ya
  have hzm : w.heap.size + 2 ≤ ((w.alloc (.cells #[.slice a0 n0 c0, .slice a1 n1 c1] 130)).alloc (.cells #[.int .i64 op, .int .i64 num, .int .i64 0, .slice aa na ca, .slice ak nk ck] 136)).heap.size := by simp
  clear hok hall ht IH0 hf hos R0 R1
  go_enter Tryz.func134, Tryz.ntmps134
  obtain ⟨iI, hiI, hz0I, hz1I, hz2I⟩ := info_parts (show (Tryz.prog.info? 3).map (fun i => (i.zero, i.size, i.bytes)) = some (some (.int .i64 0), 1, 8) by kernel_rfl)
  go_wp2_with (at_make; go_must (refine wpList_make_own _ rfl _ _ 52 rfl (w.heap.size + 2) 3 iI (.int .i64 0) 1 Tryz.underlying52 hiI hz0I hz1I .i64 .i64 na na rfl rfl rfl (by rw [hz2I]; omega) (by simp only [maxLen]; omega) hzm ?_); intro wm how hgw; have KG := Ext.grown (Ext.refl (fun _ => False) _) hgw (fun k hk => by cases hk); have VM : Hid (VR wm (w.heap.size + 2) (.slice (some ⟨w.heap.size + 1 + 1, 0, none⟩) 0 na) ((tysOf sc args).take 0)) := (by have h := how; simp only [World.size_alloc] at h; exact h); have KM := Lib.hid (K0.out.trans KG); have HWM : Hid (w.heap.size + 2 ≤ wm.heap.size) := Nat.le_trans hzm KG.size; have R0M := Lib.hid (row_ext R0a.out KG (fun h => h)); have R1M := Lib.hid (row_ext R1a.out KG (fun h => h)); have yb := R1M.out.cell (i := 3) (by simp); simp at yb; clear how hgw KG ya)
  go_loopw [8, 22] (fun sv iv wr => ∃ (j : Nat), j ≤ na ∧ iv = .int .i64 j ∧ Hid (∀ l, l < j → 0 ≤ iAt args l ∧ iAt args l < (sc.length : Int)) ∧ Hid (VR wr (w.heap.size + 2) sv ((tysOf sc args).take j)) ∧ Hid (Keep w wr) ∧ Hid (w.heap.size + 2 ≤ wr.heap.size) ∧ Hid (wr.rowIs w.heap.size 130 2 (fun i => (#[.slice a0 n0 c0, .slice a1 n1 c1] : Array Value).getD i undef)) ∧ Hid (wr.rowIs (w.heap.size + 1) 136 5 (fun i => (#[.int .i64 op, .int .i64 num, .int .i64 0, .slice aa na ca, .slice ak nk ck] : Array Value).getD i undef))) (fun _ iv _ => na - (intOf iv).toNat)
  case atStart => exact ⟨0, Nat.zero_le _, rfl, (show ∀ l, l < 0 → _ from fun l hl => absurd hl (by omega)), VM, KM, HWM, R0M, R1M⟩
  case round =>
    obtain ⟨j, hj, rfl, hI, hV, KW, HWZ, R0w, R1w⟩ := hrel
    obtain ⟨wo, rfl⟩ : ∃ wo : World, wo = wr := ⟨_, rfl⟩
    clear VM KM HWM R0M R1M yb
    by_cases hlt : j < na
    · obtain ⟨b, o, rfl, _, d0⟩ := (ha.toInts.ext KW.out (fun _ _ h => h)).at hlt
      obtain ⟨v, hvv⟩ : ∃ v, iAt args j = v := ⟨_, rfl⟩
      rw [hvv] at d0
      have HVV := Lib.hid hvv
      clear hvv
      have HJ : Hid (j < args.length) := by show _ < _; have := HNL.out; omega
      by_cases hr : 0 ≤ v ∧ v < (nv : Int)
      case neg =>
        have V : Hid (stpT ds sg sc (.mk op num 0 args ks) = -1) := stp_args _ _ _ _ _ _ _ _ (argsIn_neg (i := j) HJ.out (by rw [HVV.out]; have := HSL.out; omega))
        by_cases hr0 : v < 0
        · clear hr
          go_wp2_with fail
          exact fin_ hQ (stR_neg V.out KW.out)
        · have hr1 : (nv : Int) ≤ v := by omega
          have hr2 : ¬ v < (nv : Int) := by omega
          clear hr
          go_wp2_with fail
          exact fin_ hQ (stR_neg V.out KW.out)
      obtain ⟨hr0, hr1⟩ := hr
      obtain ⟨k, rfl⟩ := Int.eq_ofNat_of_zero_le hr0
      have hkn : k < nv := by omega
      obtain ⟨b2, o2, rfl, _, d2⟩ := (hv.ext KW.out (fun _ _ h => h)).at hkn
      obtain ⟨x, hx⟩ : ∃ x, iAt sc k = x := ⟨_, rfl⟩
      rw [hx] at d2
      have ET : Hid ((tysOf sc args).take (j + 1) = (tysOf sc args).take j ++ [x]) := by
        show _ = _
        have h2 : j < (tysOf sc args).length := by rw [tysOf_len]; exact HJ.out
        rw [List.take_succ_eq_append_getElem h2, ← iAt_eq h2, tysOf_at HJ.out, HVV.out]
        rw [← hx]; rfl
      have hI2 : Hid (∀ l, l < j + 1 → 0 ≤ iAt args l ∧ iAt args l < (sc.length : Int)) := fun l hl => by
        rcases Nat.lt_succ_iff_lt_or_eq.1 hl with h | rfl
        · exact hI.out l h
        · rw [HVV.out]; have := HSL.out; omega
      have hlr : ((tysOf sc args).take j).length = j := by rw [List.length_take, tysOf_len]; have := HJ.out; omega
      have HLR := Lib.hid hlr
      have KL := Keep.al wo (.cells #[.int .i64 x] 3)
      have hxt : IntsL (wo.alloc (.cells #[.int .i64 x] 3)) (fun _ => True) (some ⟨wo.heap.size, 0, none⟩) 1 [x] := (lit_intsD wo (fun _ => True) 3 [x] #[.int .i64 x] 1 trivial rfl rfl (by omega)).toInts
      have hv2 : (wo.alloc (.cells #[.int .i64 x] 3)).ownsRow (w.heap.size + 2) 3 1 u8 j (((tysOf sc args).take j).map (Value.int .i64)) := by
        have h := hV.out.k KL
        unfold VR at h
        rw [hlr] at h
        exact h
      have hzl : w.heap.size + 2 ≤ (wo.alloc (.cells #[.int .i64 x] 3)).heap.size := by have := HWZ.out; simp; omega
      have hKK := Lib.hid (KW.out.trans KL)
      have R0l := Lib.hid (row_ext R0w.out KL (fun h => h))
      have R1l := Lib.hid (row_ext R1w.out KL (fun h => h))
      have VL := Lib.hid (hV.out.k KL).lt
      clear hlr hx KL hV
      go_wp2_with (at_builtin; go_must (refine wpList_appInts _ rfl (.tmp 34) (.tmp 39) rfl (w.heap.size + 2) u8 j ((tysOf sc args).take j) rfl hv2 _ 1 1 [x] (fun _ => True) rfl hxt (by omega) hzl ?_); intro vn w7 ho hgr; have X7 := Lib.hid ((Ext.refl (fun k => w.heap.size + 2 ≤ k) _).grown hgr (fun k hk => .inr (VL.out k hk).1)); have HO := Lib.hid ho; clear ho hgr)
      go_roundw
      case rel => exact ⟨j + 1, by omega, by go_num, hI2, by
        show VR _ _ _ _
        unfold VR
        rw [ET.out, List.length_append, HLR.out]
        exact HO.out, hKK.out.then_ X7.out (fun q hq h => by omega), by show _ ≤ _; have := X7.out.size; omega, row_ext R0l.out X7.out (by omega), row_ext R1l.out X7.out (by omega)⟩
      case measure => simp [intOf]; omega
    · have HJ : Hid (j = na) := by show _ = _; omega
      have HARGS : Hid (argsIn sc args = true) := argsIn_iff.2 (fun i hi => hI.out i (by have := HJ.out; have := HNL.out; omega))
      have hV2 := hV.out
      rw [List.take_of_length_le (by rw [tysOf_len]; have := HJ.out; have := HNL.out; omega)] at hV2
      obtain ⟨tys, hty⟩ : ∃ tys, tysOf sc args = tys := ⟨_, rfl⟩
      have HTY := Lib.hid hty
      rw [hty] at hV2
      have htl : tys.length = na := by rw [← hty, tysOf_len]; exact HNL.out
      have HTA : Hid (allT ds.length tys = true) := by show _ = _; rw [← hty]; exact tysOf_all HAll.out HARGS.out
      obtain ⟨a8, c8, rfl, hc8, ho8⟩ := hV2.slice
      rw [htl] at ho8 hc8
      have QT : Hid (IntsL wo (fun k => (Value.slice a8 na c8).ownBlock = some k) a8 na tys) := ho8.read
      have HTL := Lib.hid htl
      rw [htl]
      clear hV hV2 hty ho8 hI htl
      have QP := Lib.hid (hp.k KW.out)
      have QV := Lib.hid (hv.ext KW.out (fun _ _ h => h))
      have QK := Lib.hid (hk.k KW.out)
      have x0 := R0w.out.cell (i := 0) (by simp)
      have x1 := R0w.out.cell (i := 1) (by simp)
      have y0 := R1w.out.cell (i := 0) (by simp)
      have y1 := R1w.out.cell (i := 1) (by simp)
      have y2 := R1w.out.cell (i := 2) (by simp)
      have y3 := R1w.out.cell (i := 3) (by simp)
      have y4 := R1w.out.cell (i := 4) (by simp)
      simp at x0 x1 y0 y1 y2 y3 y4
      have HBI : Hid (intoOk sc op 0 = true) := decide_eq_true (.inl rfl)
      clear HJ
      have hc : ¬ (14 ≤ op ∧ op ≤ 17) := by have := HH8.out; omega
      go_upto_region 11 with fail
      go_wp2_with fail
      refine (implIsCounting op _).mono ?_
      rw [decide_eq_false hc]
      rintro e w9 ⟨rfl, rfl⟩
      have HC := Lib.hid hc
      clear hc
      have h8 := HH8.out
      have h7 : op ≠ 7 := by omega
      have q7 : (op == 7) = false := beq_eq_false_iff_ne.2 h7
      have q8 : (op == 8) = true := beq_iff_eq.2 h8
      have H8 := Lib.hid h8
      have H7 := Lib.hid h7
      clear h8 h7
      go_upto_region 22 with fail
      go_wp2_with fail
      refine (implArmFields ds num a0 n0 c0 a1 n1 c1 _ wo QP.out.1 HT.out).mono ?_
      rintro e w2 ⟨am, m, cm, rfl, hm, rm, kk⟩
      have HM := Lib.hid hm
      have QM := Lib.hid rm
      have hm3 : m ≤ 3 := by have := consL_len HF.out num; omega
      replace KW := Lib.hid (KW.out.trans kk)
      replace QP := Lib.hid (QP.out.k kk)
      replace QV := Lib.hid (QV.out.ext kk (fun _ _ h => h))
      replace QK := Lib.hid (QK.out.k kk)
      have QT2 := Lib.hid (QT.out.ext kk (fun _ _ h => h))
      have R0x := Lib.hid (row_ext R0w.out kk (fun h => h))
      have R1x := Lib.hid (row_ext R1w.out kk (fun h => h))
      clear x0 x1 y0 y1 y2 y3 y4 kk hm rm QT R0w R1w
      have y1 := R1x.out.cell (i := 1) (by simp)
      have y4 := R1x.out.cell (i := 4) (by simp)
      simp at y1 y4
      obtain ⟨bb8, hb8⟩ : ∃ bb8 : Bool, bb8 = true ↔ ¬ (na = 1 ∧ iAt tys 0 = num ∧ m ≠ 0 ∧ nk = m) := ⟨decide (¬ (na = 1 ∧ iAt tys 0 = num ∧ m ≠ 0 ∧ nk = m)), decide_eq_true_iff⟩
      have HB8 := Lib.hid hb8
      clear hb8
      go_upto_region 23 with fail
      go_cut [181] (fun sb wx => sb = .bool bb8 ∧ Keep w2 wx)
      case first Jf Kf hJf hKf =>
        by_cases c1 : na = 1
        · replace c1 := Lib.hid c1
          have q1 : ((na : Int) != 1) = false := (by rw [bne_eq_false_iff_eq]; have := c1.out; omega)
          obtain ⟨b8, o8, rfl, _, d8⟩ := QT2.out.at (i := 0) (by have := c1.out; omega)
          rw [Nat.add_zero] at d8
          obtain ⟨x, hx⟩ : ∃ x, iAt tys 0 = x := ⟨_, rfl⟩
          rw [hx] at d8
          have hn0' : (0 : Int) < (na : Int) := by have := c1.out; omega
          replace hx := Lib.hid hx
          by_cases c2 : x = num
          · replace c2 := Lib.hid c2
            have q2 : (x != num) = false := by rw [bne_eq_false_iff_eq]; exact c2.out
            by_cases c3 : m = 0
            · replace c3 := Lib.hid c3
              have q3 : ((m : Int) == 0) = true := beq_iff_eq.2 (by have := c3.out; omega)
              have hbv : bb8 = true := HB8.out.2 (fun h => h.2.2.1 c3.out)
              go_quiet (fail)
              refine hKf _ _ (Met.intro (hJf _ _ ?_))
              repeat apply Exists.intro
              refine ⟨?rel, rfl⟩
              case rel => exact ⟨by rw [hbv], by first | exact (Ext.refl _ _).drewN _ | exact (Ext.refl _ _).drew⟩
            · have q3 : ((m : Int) == 0) = false := beq_eq_false_iff_ne.2 (by omega)
              by_cases c4 : nk = m
              · replace c4 := Lib.hid c4
                have q4 : ((nk : Int) != (m : Int)) = false := by rw [bne_eq_false_iff_eq]; have := c4.out; omega
                have hbv : bb8 = false := Bool.eq_false_iff.2 (fun h9 => absurd (HB8.out.1 h9) (fun h => h ⟨c1.out, hx.out.trans c2.out, c3, c4.out⟩))
                go_quiet (fail)
                refine hKf _ _ (Met.intro (hJf _ _ ?_))
                repeat apply Exists.intro
                refine ⟨?rel, rfl⟩
                case rel => exact ⟨by rw [hbv], by first | exact (Ext.refl _ _).drewN _ | exact (Ext.refl _ _).drew⟩
              · have q4 : ((nk : Int) != (m : Int)) = true := by rw [bne_iff_ne]; omega
                have hbv : bb8 = true := HB8.out.2 (fun h => c4 h.2.2.2)
                go_quiet (fail)
                refine hKf _ _ (Met.intro (hJf _ _ ?_))
                repeat apply Exists.intro
                refine ⟨?rel, rfl⟩
                case rel => exact ⟨by rw [hbv], by first | exact (Ext.refl _ _).drewN _ | exact (Ext.refl _ _).drew⟩
          · have q2 : (x != num) = true := bne_iff_ne.2 c2
            have hbv : bb8 = true := HB8.out.2 (fun h => c2 (hx.out.symm.trans h.2.1))
            go_quiet (fail)
            refine hKf _ _ (Met.intro (hJf _ _ ?_))
            repeat apply Exists.intro
            refine ⟨?rel, rfl⟩
            case rel => exact ⟨by rw [hbv], by first | exact (Ext.refl _ _).drewN _ | exact (Ext.refl _ _).drew⟩
        · have q1 : ((na : Int) != 1) = true := bne_iff_ne.2 (by omega)
          have hbv : bb8 = true := HB8.out.2 (fun h => c1 h.1)
          go_quiet (fail)
          refine hKf _ _ (Met.intro (hJf _ _ ?_))
          repeat apply Exists.intro
          refine ⟨?rel, rfl⟩
          case rel => exact ⟨by rw [hbv], by first | exact (Ext.refl _ _).drewN _ | exact (Ext.refl _ _).drew⟩
      case rest =>
      obtain ⟨rfl, kk⟩ := hcut
      replace KW := Lib.hid (KW.out.trans kk)
      go_upto_if 181 with fail
      cases bb8
      case true =>
        have V : Hid (stpT ds sg sc (.mk op num 0 args ks) = -1) := by
          show _ = _
          rw [stp_matchA H8.out HARGS.out HBI.out, if_neg (fun h => HB8.out.1 rfl ⟨by have h2 := congrArg List.length h.2.2; rw [HTY.out, HTL.out] at h2; exact h2, by rw [← HTY.out, h.2.2]; rfl, by have := h.1; rw [armsL_len, ← HM.out] at this; omega, by have := HNK.out; have h3 := h.2.1; rw [armsL_len, ← HM.out] at h3; omega⟩)]
        go_wp2_with fail
        exact fin_ hQ (stR_neg V.out KW.out)
      have HG8 : Hid (na = 1 ∧ iAt tys 0 = num ∧ m ≠ 0 ∧ nk = m) := Classical.byContradiction (fun h => by have h2 := HB8.out.2 h; cases h2)
      replace QP := Lib.hid (QP.out.k kk)
      replace QV := Lib.hid (QV.out.ext kk (fun _ _ h => h))
      replace QK := Lib.hid (QK.out.k kk)
      replace QM := Lib.hid (QM.out.k kk)
      have x0 := (row_ext R0x.out kk (fun h => h)).cell (i := 0) (by simp)
      have x1 := (row_ext R0x.out kk (fun h => h)).cell (i := 1) (by simp)
      have y4' := (row_ext R1x.out kk (fun h => h)).cell (i := 4) (by simp)
      simp at x0 x1 y4'
      clear y1 y4 kk R0x R1x
      go_wp2_with fail
      refine (implKids ds sg ks IH.out a0 n0 c0 a1 n1 c1 av nv cv sc ak nk ck am m cm (armsL ds num) _ QP.out QV.out QK.out QM.out (by rw [armsL_len, ← HM.out]; have := HNK.out; have := HG8.out.2.2.2; omega) (by have := HNK.out; have := HG8.out; omega) HLen.out HAll.out (fun i hi => by
        rw [armsL_len] at hi
        rw [armsL_at hi]
        exact conFieldsL_ok HT.out _)).mono ?_
      rintro e w3 ⟨t, ok, rfl, hok1, hok2, kk⟩
      have HO1 := Lib.hid hok1
      have HO2 := Lib.hid hok2
      have KE := Lib.hid (KW.out.trans kk)
      have V : Hid (stpT ds sg sc (.mk op num 0 args ks) = oneT (armT ds sg sc ks (armsL ds num))) := by
        show _ = _
        rw [stp_matchA H8.out HARGS.out HBI.out, if_pos ⟨by rw [armsL_len, ← HM.out]; have := HG8.out; omega, by rw [armsL_len, ← HM.out]; have := HNK.out; have := HG8.out; omega, by rw [HTY.out]; exact ints_one (by have := HTL.out; have := HG8.out; omega) HG8.out.2.1⟩]
      clear kk hok1 hok2
      go_wp2_with fail
      exact fin_ hQ (stR_any (by rw [V.out]; exact HO1.out) (fun h => by rw [V.out]; exact HO2.out h) KE.out)
end
end Go.Proofs.YtkapldpmjkdmcaaGreat
/- The program's types of steps: Into is bad. -/
namespace Go.Proofs.YtkapldpmjkdmcaaGreat
open Go.RowKit

section
variable (ds : List DeclL) (sg : List SigL) (hok : sigsOk ds sg = true)
include hok

set_option maxRecDepth 100000 in
set_option maxHeartbeats 1500000 in
theorem implStep_bad (op num into : Int) (args : List Int) (ks : List BlockL) (hos : okS (.mk op num into args ks)) (IH0 : ∀ j, j < ks.length → BlI ds sg (bAt ks j).result (bAt ks j).steps) (a0 : Option Addr) (n0 c0 : Nat) (a1 : Option Addr) (n1 c1 : Nat) (av : Option Addr) (nv cv : Nat) (sc : List Int) (aa : Option Addr) (na ca : Nat) (ak : Option Addr) (nk ck : Nat) (w : World) (hp : SR w (fun _ => True) ds sg a0 n0 c0 a1 n1 c1) (hv : IntsL w (fun _ => True) av nv sc) (ha : Rd w (fun _ => True) (encInts args) (.slice aa na ca)) (hk : Rd w (fun _ => True) (encBlocks ks) (.slice ak nk ck)) (hlen : sc.length + 4 * (nBs ks + 1) ≤ 1052000) (hall : allT ds.length sc = true) (hi : intoOk sc op into = false) :
    Calls Tryz.prog 134 #[.agg #[.slice a0 n0 c0, .slice a1 n1 c1], .slice av nv cv, .agg #[.int .i64 op, .int .i64 num, .int .i64 into, .slice aa na ca, .slice ak nk ck]] w (StR ds sg sc (.mk op num into args ks) w) := by
  have HHI := Lib.hid hi
  clear hi
  refine calls_k fun Q hQ => ?_
  rw [okS] at hos
  have ht := (sigsOk_parts hok).1
  have hf := Few.of_ok ht
  have hn0 : n0 ≤ 4 := by have := (decls_at hp.1).1; have := typesOk_len ht; omega
  have hn1 : n1 ≤ 4 := by have := (sigs_at hp.2).1; have := (sigsOk_parts hok).2.2.1; omega
  have hnv : nv ≤ 1052000 := by have := hv.1; omega
  have hna : na ≤ 1048576 := by have := (ints_at ha).1; have := hos.2.1; omega
  have HNL : Hid (args.length = na) := (ints_at ha).1
  have HSL : Hid (sc.length = nv) := hv.1
  have HNK : Hid (ks.length = nk) := (blocks_at hk).1
  have hnk : nk ≤ 9223372036854775807 := (blocks_at hk).2.2.1
  have HFN := Lib.hid hos.1
  have HOK := Lib.hid hok
  have HAll := Lib.hid hall
  have HLen := Lib.hid hlen
  have HT := Lib.hid ht
  have HF := Lib.hid hf
  have IH := Lib.hid IH0
  have K0 := Lib.hid ((Keep.al w (.cells #[.slice a0 n0 c0, .slice a1 n1 c1] 130)).trans (Keep.al _ (.cells #[.int .i64 op, .int .i64 num, .int .i64 into, .slice aa na ca, .slice ak nk ck] 136)))
  have R0 := (rowOf w #[.slice a0 n0 c0, .slice a1 n1 c1] 130).alloc (.cells #[.int .i64 op, .int .i64 num, .int .i64 into, .slice aa na ca, .slice ak nk ck] 136)
  have R1 := rowOf (w.alloc (.cells #[.slice a0 n0 c0, .slice a1 n1 c1] 130)) #[.int .i64 op, .int .i64 num, .int .i64 into, .slice aa na ca, .slice ak nk ck] 136
  simp only [World.size_alloc] at R1
  have R0a := Lib.hid R0
  have R1a := Lib.hid R1
  have ya := R1.cell (i := 3) (by simp)
  simp at ya
  have hzm : w.heap.size + 2 ≤ ((w.alloc (.cells #[.slice a0 n0 c0, .slice a1 n1 c1] 130)).alloc (.cells #[.int .i64 op, .int .i64 num, .int .i64 into, .slice aa na ca, .slice ak nk ck] 136)).heap.size := by simp
  clear hok hall ht IH0 hf hos R0 R1
  go_enter Tryz.func134, Tryz.ntmps134
  obtain ⟨iI, hiI, hz0I, hz1I, hz2I⟩ := info_parts (show (Tryz.prog.info? 3).map (fun i => (i.zero, i.size, i.bytes)) = some (some (.int .i64 0), 1, 8) by kernel_rfl)
  go_wp2_with (at_make; go_must (refine wpList_make_own _ rfl _ _ 52 rfl (w.heap.size + 2) 3 iI (.int .i64 0) 1 Tryz.underlying52 hiI hz0I hz1I .i64 .i64 na na rfl rfl rfl (by rw [hz2I]; omega) (by simp only [maxLen]; omega) hzm ?_); intro wm how hgw; have KG := Ext.grown (Ext.refl (fun _ => False) _) hgw (fun k hk => by cases hk); have VM : Hid (VR wm (w.heap.size + 2) (.slice (some ⟨w.heap.size + 1 + 1, 0, none⟩) 0 na) ((tysOf sc args).take 0)) := (by have h := how; simp only [World.size_alloc] at h; exact h); have KM := Lib.hid (K0.out.trans KG); have HWM : Hid (w.heap.size + 2 ≤ wm.heap.size) := Nat.le_trans hzm KG.size; have R0M := Lib.hid (row_ext R0a.out KG (fun h => h)); have R1M := Lib.hid (row_ext R1a.out KG (fun h => h)); have yb := R1M.out.cell (i := 3) (by simp); simp at yb; clear how hgw KG ya)
  go_loopw [8, 22] (fun sv iv wr => ∃ (j : Nat), j ≤ na ∧ iv = .int .i64 j ∧ Hid (∀ l, l < j → 0 ≤ iAt args l ∧ iAt args l < (sc.length : Int)) ∧ Hid (VR wr (w.heap.size + 2) sv ((tysOf sc args).take j)) ∧ Hid (Keep w wr) ∧ Hid (w.heap.size + 2 ≤ wr.heap.size) ∧ Hid (wr.rowIs w.heap.size 130 2 (fun i => (#[.slice a0 n0 c0, .slice a1 n1 c1] : Array Value).getD i undef)) ∧ Hid (wr.rowIs (w.heap.size + 1) 136 5 (fun i => (#[.int .i64 op, .int .i64 num, .int .i64 into, .slice aa na ca, .slice ak nk ck] : Array Value).getD i undef))) (fun _ iv _ => na - (intOf iv).toNat)
  case atStart => exact ⟨0, Nat.zero_le _, rfl, (show ∀ l, l < 0 → _ from fun l hl => absurd hl (by omega)), VM, KM, HWM, R0M, R1M⟩
  case round =>
    obtain ⟨j, hj, rfl, hI, hV, KW, HWZ, R0w, R1w⟩ := hrel
    obtain ⟨wo, rfl⟩ : ∃ wo : World, wo = wr := ⟨_, rfl⟩
    clear VM KM HWM R0M R1M yb
    by_cases hlt : j < na
    · obtain ⟨b, o, rfl, _, d0⟩ := (ha.toInts.ext KW.out (fun _ _ h => h)).at hlt
      obtain ⟨v, hvv⟩ : ∃ v, iAt args j = v := ⟨_, rfl⟩
      rw [hvv] at d0
      have HVV := Lib.hid hvv
      clear hvv
      have HJ : Hid (j < args.length) := by show _ < _; have := HNL.out; omega
      by_cases hr : 0 ≤ v ∧ v < (nv : Int)
      case neg =>
        have V : Hid (stpT ds sg sc (.mk op num into args ks) = -1) := stp_args _ _ _ _ _ _ _ _ (argsIn_neg (i := j) HJ.out (by rw [HVV.out]; have := HSL.out; omega))
        by_cases hr0 : v < 0
        · clear hr
          go_wp2_with fail
          exact fin_ hQ (stR_neg V.out KW.out)
        · have hr1 : (nv : Int) ≤ v := by omega
          have hr2 : ¬ v < (nv : Int) := by omega
          clear hr
          go_wp2_with fail
          exact fin_ hQ (stR_neg V.out KW.out)
      obtain ⟨hr0, hr1⟩ := hr
      obtain ⟨k, rfl⟩ := Int.eq_ofNat_of_zero_le hr0
      have hkn : k < nv := by omega
      obtain ⟨b2, o2, rfl, _, d2⟩ := (hv.ext KW.out (fun _ _ h => h)).at hkn
      obtain ⟨x, hx⟩ : ∃ x, iAt sc k = x := ⟨_, rfl⟩
      rw [hx] at d2
      have ET : Hid ((tysOf sc args).take (j + 1) = (tysOf sc args).take j ++ [x]) := by
        show _ = _
        have h2 : j < (tysOf sc args).length := by rw [tysOf_len]; exact HJ.out
        rw [List.take_succ_eq_append_getElem h2, ← iAt_eq h2, tysOf_at HJ.out, HVV.out]
        rw [← hx]; rfl
      have hI2 : Hid (∀ l, l < j + 1 → 0 ≤ iAt args l ∧ iAt args l < (sc.length : Int)) := fun l hl => by
        rcases Nat.lt_succ_iff_lt_or_eq.1 hl with h | rfl
        · exact hI.out l h
        · rw [HVV.out]; have := HSL.out; omega
      have hlr : ((tysOf sc args).take j).length = j := by rw [List.length_take, tysOf_len]; have := HJ.out; omega
      have HLR := Lib.hid hlr
      have KL := Keep.al wo (.cells #[.int .i64 x] 3)
      have hxt : IntsL (wo.alloc (.cells #[.int .i64 x] 3)) (fun _ => True) (some ⟨wo.heap.size, 0, none⟩) 1 [x] := (lit_intsD wo (fun _ => True) 3 [x] #[.int .i64 x] 1 trivial rfl rfl (by omega)).toInts
      have hv2 : (wo.alloc (.cells #[.int .i64 x] 3)).ownsRow (w.heap.size + 2) 3 1 u8 j (((tysOf sc args).take j).map (Value.int .i64)) := by
        have h := hV.out.k KL
        unfold VR at h
        rw [hlr] at h
        exact h
      have hzl : w.heap.size + 2 ≤ (wo.alloc (.cells #[.int .i64 x] 3)).heap.size := by have := HWZ.out; simp; omega
      have hKK := Lib.hid (KW.out.trans KL)
      have R0l := Lib.hid (row_ext R0w.out KL (fun h => h))
      have R1l := Lib.hid (row_ext R1w.out KL (fun h => h))
      have VL := Lib.hid (hV.out.k KL).lt
      clear hlr hx KL hV
      go_wp2_with (at_builtin; go_must (refine wpList_appInts _ rfl (.tmp 34) (.tmp 39) rfl (w.heap.size + 2) u8 j ((tysOf sc args).take j) rfl hv2 _ 1 1 [x] (fun _ => True) rfl hxt (by omega) hzl ?_); intro vn w7 ho hgr; have X7 := Lib.hid ((Ext.refl (fun k => w.heap.size + 2 ≤ k) _).grown hgr (fun k hk => .inr (VL.out k hk).1)); have HO := Lib.hid ho; clear ho hgr)
      go_roundw
      case rel => exact ⟨j + 1, by omega, by go_num, hI2, by
        show VR _ _ _ _
        unfold VR
        rw [ET.out, List.length_append, HLR.out]
        exact HO.out, hKK.out.then_ X7.out (fun q hq h => by omega), by show _ ≤ _; have := X7.out.size; omega, row_ext R0l.out X7.out (by omega), row_ext R1l.out X7.out (by omega)⟩
      case measure => simp [intOf]; omega
    · have HJ : Hid (j = na) := by show _ = _; omega
      have HARGS : Hid (argsIn sc args = true) := argsIn_iff.2 (fun i hi => hI.out i (by have := HJ.out; have := HNL.out; omega))
      have hV2 := hV.out
      rw [List.take_of_length_le (by rw [tysOf_len]; have := HJ.out; have := HNL.out; omega)] at hV2
      obtain ⟨tys, hty⟩ : ∃ tys, tysOf sc args = tys := ⟨_, rfl⟩
      have HTY := Lib.hid hty
      rw [hty] at hV2
      have htl : tys.length = na := by rw [← hty, tysOf_len]; exact HNL.out
      have HTA : Hid (allT ds.length tys = true) := by show _ = _; rw [← hty]; exact tysOf_all HAll.out HARGS.out
      obtain ⟨a8, c8, rfl, hc8, ho8⟩ := hV2.slice
      rw [htl] at ho8 hc8
      have QT : Hid (IntsL wo (fun k => (Value.slice a8 na c8).ownBlock = some k) a8 na tys) := ho8.read
      have HTL := Lib.hid htl
      rw [htl]
      clear hV hV2 hty ho8 hI htl
      have QP := Lib.hid (hp.k KW.out)
      have QV := Lib.hid (hv.ext KW.out (fun _ _ h => h))
      have QK := Lib.hid (hk.k KW.out)
      have x0 := R0w.out.cell (i := 0) (by simp)
      have x1 := R0w.out.cell (i := 1) (by simp)
      have y0 := R1w.out.cell (i := 0) (by simp)
      have y1 := R1w.out.cell (i := 1) (by simp)
      have y2 := R1w.out.cell (i := 2) (by simp)
      have y3 := R1w.out.cell (i := 3) (by simp)
      have y4 := R1w.out.cell (i := 4) (by simp)
      simp at x0 x1 y0 y1 y2 y3 y4
      obtain ⟨bi, hbi⟩ : ∃ bi, intoOk sc op into = !bi := ⟨!(intoOk sc op into), by simp⟩
      have HBI := Lib.hid hbi
      clear hbi HJ
      go_upto_region 9 with fail
      go_cut [70] (fun sb wx => sb = .bool bi ∧ wo = wx)
      case first =>
        by_cases e0 : into = 0
        · replace e0 := Lib.hid e0
          have q0 : (into != 0) = false := (by rw [e0.out]; exact bne_self_eq_false _)
          have hbv : bi = false := by
            have h9 : intoOk sc op into = true := by exact decide_eq_true (.inl e0.out)
            rw [HBI.out] at h9
            cases bi
            · first | rfl | cases h9
            · first | rfl | cases h9
          go_wp2_with fail
          go_meet
          case rel => exact ⟨by first | (rw [hbv]; done) | (rw [hbv]; rfl), rfl⟩
        · have q0 : (into != 0) = true := bne_iff_ne.2 e0
          by_cases e1 : op = 6
          · replace e1 := Lib.hid e1
            have q1 : (op != 6) = false := (by rw [e1.out]; exact bne_self_eq_false _)
            by_cases e2 : into < 1
            · have hbv : bi = true := by
                have h9 : intoOk sc op into = false := by exact decide_eq_false (fun h => by rcases h with h | h; exact e0 h; omega)
                rw [HBI.out] at h9
                cases bi
                · first | rfl | cases h9
                · first | rfl | cases h9
              go_wp2_with fail
              go_meet
              case rel => exact ⟨by first | (rw [hbv]; done) | (rw [hbv]; rfl), rfl⟩
            · by_cases e3 : (nv : Int) < into
              · have hbv : bi = true := by
                  have h9 : intoOk sc op into = false := by exact decide_eq_false (fun h => by have := HSL.out; rcases h with h | h; exact e0 h; omega)
                  rw [HBI.out] at h9
                  cases bi
                  · first | rfl | cases h9
                  · first | rfl | cases h9
                go_wp2_with fail
                go_meet
                case rel => exact ⟨by first | (rw [hbv]; done) | (rw [hbv]; rfl), rfl⟩
              · obtain ⟨k, rfl⟩ : ∃ k : Nat, into = (k : Int) + 1 := ⟨(into - 1).toNat, by omega⟩
                have hkn : k < nv := by omega
                obtain ⟨b2, o2, rfl, _, d2⟩ := QV.out.at hkn
                obtain ⟨x, hx⟩ : ∃ x, iAt sc k = x := ⟨_, rfl⟩
                rw [hx] at d2
                have hx0 : 0 ≤ x := by rw [← hx]; exact (isT_iff.1 (allT_iff.1 HAll.out k (by have := HSL.out; omega))).1
                have hw1 : IntKind.i64.wrap (k : Int) = (k : Int) := by rw [IntWalk.i64_in _ (by omega)]
                have hw2 : (0 : Int) ≤ (k : Int) := by omega
                have hw3 : (k : Int) < (nv : Int) := by omega
                have HX := Lib.hid hx
                clear hx
                by_cases e4 : x = 0
                · replace e4 := Lib.hid e4
                  have q4 : (x == 0) = true := beq_iff_eq.2 e4.out
                  have hbv : bi = true := by
                    have h9 : intoOk sc op ((k : Int) + 1) = false := by exact decide_eq_false (fun h => by rcases h with h | h; exact e0 h; have h1 := h.2.2.2; have h2 := e4.out; rw [show ((k : Int) + 1).toNat - 1 = k by omega, HX.out] at h1; omega)
                    rw [HBI.out] at h9
                    cases bi
                    · first | rfl | cases h9
                    · first | rfl | cases h9
                  go_wp2_with fail
                  go_meet
                  case rel => exact ⟨by first | (rw [hbv]; done) | (rw [hbv]; rfl), rfl⟩
                · have q4 : (x == 0) = false := beq_eq_false_iff_ne.2 e4
                  have hbv : bi = false := by
                    have h9 : intoOk sc op ((k : Int) + 1) = true := by exact decide_eq_true (.inr ⟨e1.out, by omega, by have := HSL.out; omega, by rw [show ((k : Int) + 1).toNat - 1 = k by omega, HX.out]; omega⟩)
                    rw [HBI.out] at h9
                    cases bi
                    · first | rfl | cases h9
                    · first | rfl | cases h9
                  go_wp2_with fail
                  go_meet
                  case rel => exact ⟨by first | (rw [hbv]; done) | (rw [hbv]; rfl), rfl⟩
          · have q1 : (op != 6) = true := bne_iff_ne.2 e1
            have hbv : bi = true := by
              have h9 : intoOk sc op into = false := by exact decide_eq_false (fun h => by rcases h with h | h; exact e0 h; exact e1 h.1)
              rw [HBI.out] at h9
              cases bi
              · first | rfl | cases h9
              · first | rfl | cases h9
            go_wp2_with fail
            go_meet
            case rel => exact ⟨by first | (rw [hbv]; done) | (rw [hbv]; rfl), rfl⟩
      case rest =>
      obtain ⟨rfl, rfl⟩ := hcut
      go_upto_if 70 with fail
      cases bi
      case false =>
        exact absurd HBI.out (by rw [HHI.out]; simp)
      have V : Hid (stpT ds sg sc (.mk op num into args ks) = -1) := stp_into _ _ _ _ _ _ _ _ HBI.out
      go_wp2_with fail
      exact fin_ hQ (stR_neg V.out KW.out)
end
end Go.Proofs.YtkapldpmjkdmcaaGreat
/- The program's types of steps: other operations. -/
namespace Go.Proofs.YtkapldpmjkdmcaaGreat
open Go.RowKit

section
variable (ds : List DeclL) (sg : List SigL) (hok : sigsOk ds sg = true)
include hok

set_option maxRecDepth 100000 in
set_option maxHeartbeats 1500000 in
theorem implStep_o (op num : Int) (args : List Int) (ks : List BlockL) (hos : okS (.mk op num 0 args ks)) (IH0 : ∀ j, j < ks.length → BlI ds sg (bAt ks j).result (bAt ks j).steps) (a0 : Option Addr) (n0 c0 : Nat) (a1 : Option Addr) (n1 c1 : Nat) (av : Option Addr) (nv cv : Nat) (sc : List Int) (aa : Option Addr) (na ca : Nat) (ak : Option Addr) (nk ck : Nat) (w : World) (hp : SR w (fun _ => True) ds sg a0 n0 c0 a1 n1 c1) (hv : IntsL w (fun _ => True) av nv sc) (ha : Rd w (fun _ => True) (encInts args) (.slice aa na ca)) (hk : Rd w (fun _ => True) (encBlocks ks) (.slice ak nk ck)) (hlen : sc.length + 4 * (nBs ks + 1) ≤ 1052000) (hall : allT ds.length sc = true) (hc : ¬ (14 ≤ op ∧ op ≤ 17)) (h7 : op ≠ 7) (h8 : op ≠ 8) :
    Calls Tryz.prog 134 #[.agg #[.slice a0 n0 c0, .slice a1 n1 c1], .slice av nv cv, .agg #[.int .i64 op, .int .i64 num, .int .i64 0, .slice aa na ca, .slice ak nk ck]] w (StR ds sg sc (.mk op num 0 args ks) w) := by
  have HHC := Lib.hid hc
  have HH7 := Lib.hid h7
  have HH8 := Lib.hid h8
  clear hc h7 h8
  refine calls_k fun Q hQ => ?_
  rw [okS] at hos
  have ht := (sigsOk_parts hok).1
  have hf := Few.of_ok ht
  have hn0 : n0 ≤ 4 := by have := (decls_at hp.1).1; have := typesOk_len ht; omega
  have hn1 : n1 ≤ 4 := by have := (sigs_at hp.2).1; have := (sigsOk_parts hok).2.2.1; omega
  have hnv : nv ≤ 1052000 := by have := hv.1; omega
  have hna : na ≤ 1048576 := by have := (ints_at ha).1; have := hos.2.1; omega
  have HNL : Hid (args.length = na) := (ints_at ha).1
  have HSL : Hid (sc.length = nv) := hv.1
  have HNK : Hid (ks.length = nk) := (blocks_at hk).1
  have hnk : nk ≤ 9223372036854775807 := (blocks_at hk).2.2.1
  have HFN := Lib.hid hos.1
  have HOK := Lib.hid hok
  have HAll := Lib.hid hall
  have HLen := Lib.hid hlen
  have HT := Lib.hid ht
  have HF := Lib.hid hf
  have IH := Lib.hid IH0
  have K0 := Lib.hid ((Keep.al w (.cells #[.slice a0 n0 c0, .slice a1 n1 c1] 130)).trans (Keep.al _ (.cells #[.int .i64 op, .int .i64 num, .int .i64 0, .slice aa na ca, .slice ak nk ck] 136)))
  have R0 := (rowOf w #[.slice a0 n0 c0, .slice a1 n1 c1] 130).alloc (.cells #[.int .i64 op, .int .i64 num, .int .i64 0, .slice aa na ca, .slice ak nk ck] 136)
  have R1 := rowOf (w.alloc (.cells #[.slice a0 n0 c0, .slice a1 n1 c1] 130)) #[.int .i64 op, .int .i64 num, .int .i64 0, .slice aa na ca, .slice ak nk ck] 136
  simp only [World.size_alloc] at R1
  have R0a := Lib.hid R0
  have R1a := Lib.hid R1
  have ya := R1.cell (i := 3) (by simp)
  simp at ya
  have hzm : w.heap.size + 2 ≤ ((w.alloc (.cells #[.slice a0 n0 c0, .slice a1 n1 c1] 130)).alloc (.cells #[.int .i64 op, .int .i64 num, .int .i64 0, .slice aa na ca, .slice ak nk ck] 136)).heap.size := by simp
  clear hok hall ht IH0 hf hos R0 R1
  go_enter Tryz.func134, Tryz.ntmps134
  obtain ⟨iI, hiI, hz0I, hz1I, hz2I⟩ := info_parts (show (Tryz.prog.info? 3).map (fun i => (i.zero, i.size, i.bytes)) = some (some (.int .i64 0), 1, 8) by kernel_rfl)
  go_wp2_with (at_make; go_must (refine wpList_make_own _ rfl _ _ 52 rfl (w.heap.size + 2) 3 iI (.int .i64 0) 1 Tryz.underlying52 hiI hz0I hz1I .i64 .i64 na na rfl rfl rfl (by rw [hz2I]; omega) (by simp only [maxLen]; omega) hzm ?_); intro wm how hgw; have KG := Ext.grown (Ext.refl (fun _ => False) _) hgw (fun k hk => by cases hk); have VM : Hid (VR wm (w.heap.size + 2) (.slice (some ⟨w.heap.size + 1 + 1, 0, none⟩) 0 na) ((tysOf sc args).take 0)) := (by have h := how; simp only [World.size_alloc] at h; exact h); have KM := Lib.hid (K0.out.trans KG); have HWM : Hid (w.heap.size + 2 ≤ wm.heap.size) := Nat.le_trans hzm KG.size; have R0M := Lib.hid (row_ext R0a.out KG (fun h => h)); have R1M := Lib.hid (row_ext R1a.out KG (fun h => h)); have yb := R1M.out.cell (i := 3) (by simp); simp at yb; clear how hgw KG ya)
  go_loopw [8, 22] (fun sv iv wr => ∃ (j : Nat), j ≤ na ∧ iv = .int .i64 j ∧ Hid (∀ l, l < j → 0 ≤ iAt args l ∧ iAt args l < (sc.length : Int)) ∧ Hid (VR wr (w.heap.size + 2) sv ((tysOf sc args).take j)) ∧ Hid (Keep w wr) ∧ Hid (w.heap.size + 2 ≤ wr.heap.size) ∧ Hid (wr.rowIs w.heap.size 130 2 (fun i => (#[.slice a0 n0 c0, .slice a1 n1 c1] : Array Value).getD i undef)) ∧ Hid (wr.rowIs (w.heap.size + 1) 136 5 (fun i => (#[.int .i64 op, .int .i64 num, .int .i64 0, .slice aa na ca, .slice ak nk ck] : Array Value).getD i undef))) (fun _ iv _ => na - (intOf iv).toNat)
  case atStart => exact ⟨0, Nat.zero_le _, rfl, (show ∀ l, l < 0 → _ from fun l hl => absurd hl (by omega)), VM, KM, HWM, R0M, R1M⟩
  case round =>
    obtain ⟨j, hj, rfl, hI, hV, KW, HWZ, R0w, R1w⟩ := hrel
    obtain ⟨wo, rfl⟩ : ∃ wo : World, wo = wr := ⟨_, rfl⟩
    clear VM KM HWM R0M R1M yb
    by_cases hlt : j < na
    · obtain ⟨b, o, rfl, _, d0⟩ := (ha.toInts.ext KW.out (fun _ _ h => h)).at hlt
      obtain ⟨v, hvv⟩ : ∃ v, iAt args j = v := ⟨_, rfl⟩
      rw [hvv] at d0
      have HVV := Lib.hid hvv
      clear hvv
      have HJ : Hid (j < args.length) := by show _ < _; have := HNL.out; omega
      by_cases hr : 0 ≤ v ∧ v < (nv : Int)
      case neg =>
        have V : Hid (stpT ds sg sc (.mk op num 0 args ks) = -1) := stp_args _ _ _ _ _ _ _ _ (argsIn_neg (i := j) HJ.out (by rw [HVV.out]; have := HSL.out; omega))
        by_cases hr0 : v < 0
        · clear hr
          go_wp2_with fail
          exact fin_ hQ (stR_neg V.out KW.out)
        · have hr1 : (nv : Int) ≤ v := by omega
          have hr2 : ¬ v < (nv : Int) := by omega
          clear hr
          go_wp2_with fail
          exact fin_ hQ (stR_neg V.out KW.out)
      obtain ⟨hr0, hr1⟩ := hr
      obtain ⟨k, rfl⟩ := Int.eq_ofNat_of_zero_le hr0
      have hkn : k < nv := by omega
      obtain ⟨b2, o2, rfl, _, d2⟩ := (hv.ext KW.out (fun _ _ h => h)).at hkn
      obtain ⟨x, hx⟩ : ∃ x, iAt sc k = x := ⟨_, rfl⟩
      rw [hx] at d2
      have ET : Hid ((tysOf sc args).take (j + 1) = (tysOf sc args).take j ++ [x]) := by
        show _ = _
        have h2 : j < (tysOf sc args).length := by rw [tysOf_len]; exact HJ.out
        rw [List.take_succ_eq_append_getElem h2, ← iAt_eq h2, tysOf_at HJ.out, HVV.out]
        rw [← hx]; rfl
      have hI2 : Hid (∀ l, l < j + 1 → 0 ≤ iAt args l ∧ iAt args l < (sc.length : Int)) := fun l hl => by
        rcases Nat.lt_succ_iff_lt_or_eq.1 hl with h | rfl
        · exact hI.out l h
        · rw [HVV.out]; have := HSL.out; omega
      have hlr : ((tysOf sc args).take j).length = j := by rw [List.length_take, tysOf_len]; have := HJ.out; omega
      have HLR := Lib.hid hlr
      have KL := Keep.al wo (.cells #[.int .i64 x] 3)
      have hxt : IntsL (wo.alloc (.cells #[.int .i64 x] 3)) (fun _ => True) (some ⟨wo.heap.size, 0, none⟩) 1 [x] := (lit_intsD wo (fun _ => True) 3 [x] #[.int .i64 x] 1 trivial rfl rfl (by omega)).toInts
      have hv2 : (wo.alloc (.cells #[.int .i64 x] 3)).ownsRow (w.heap.size + 2) 3 1 u8 j (((tysOf sc args).take j).map (Value.int .i64)) := by
        have h := hV.out.k KL
        unfold VR at h
        rw [hlr] at h
        exact h
      have hzl : w.heap.size + 2 ≤ (wo.alloc (.cells #[.int .i64 x] 3)).heap.size := by have := HWZ.out; simp; omega
      have hKK := Lib.hid (KW.out.trans KL)
      have R0l := Lib.hid (row_ext R0w.out KL (fun h => h))
      have R1l := Lib.hid (row_ext R1w.out KL (fun h => h))
      have VL := Lib.hid (hV.out.k KL).lt
      clear hlr hx KL hV
      go_wp2_with (at_builtin; go_must (refine wpList_appInts _ rfl (.tmp 34) (.tmp 39) rfl (w.heap.size + 2) u8 j ((tysOf sc args).take j) rfl hv2 _ 1 1 [x] (fun _ => True) rfl hxt (by omega) hzl ?_); intro vn w7 ho hgr; have X7 := Lib.hid ((Ext.refl (fun k => w.heap.size + 2 ≤ k) _).grown hgr (fun k hk => .inr (VL.out k hk).1)); have HO := Lib.hid ho; clear ho hgr)
      go_roundw
      case rel => exact ⟨j + 1, by omega, by go_num, hI2, by
        show VR _ _ _ _
        unfold VR
        rw [ET.out, List.length_append, HLR.out]
        exact HO.out, hKK.out.then_ X7.out (fun q hq h => by omega), by show _ ≤ _; have := X7.out.size; omega, row_ext R0l.out X7.out (by omega), row_ext R1l.out X7.out (by omega)⟩
      case measure => simp [intOf]; omega
    · have HJ : Hid (j = na) := by show _ = _; omega
      have HARGS : Hid (argsIn sc args = true) := argsIn_iff.2 (fun i hi => hI.out i (by have := HJ.out; have := HNL.out; omega))
      have hV2 := hV.out
      rw [List.take_of_length_le (by rw [tysOf_len]; have := HJ.out; have := HNL.out; omega)] at hV2
      obtain ⟨tys, hty⟩ : ∃ tys, tysOf sc args = tys := ⟨_, rfl⟩
      have HTY := Lib.hid hty
      rw [hty] at hV2
      have htl : tys.length = na := by rw [← hty, tysOf_len]; exact HNL.out
      have HTA : Hid (allT ds.length tys = true) := by show _ = _; rw [← hty]; exact tysOf_all HAll.out HARGS.out
      obtain ⟨a8, c8, rfl, hc8, ho8⟩ := hV2.slice
      rw [htl] at ho8 hc8
      have QT : Hid (IntsL wo (fun k => (Value.slice a8 na c8).ownBlock = some k) a8 na tys) := ho8.read
      have HTL := Lib.hid htl
      rw [htl]
      clear hV hV2 hty ho8 hI htl
      have QP := Lib.hid (hp.k KW.out)
      have QV := Lib.hid (hv.ext KW.out (fun _ _ h => h))
      have QK := Lib.hid (hk.k KW.out)
      have x0 := R0w.out.cell (i := 0) (by simp)
      have x1 := R0w.out.cell (i := 1) (by simp)
      have y0 := R1w.out.cell (i := 0) (by simp)
      have y1 := R1w.out.cell (i := 1) (by simp)
      have y2 := R1w.out.cell (i := 2) (by simp)
      have y3 := R1w.out.cell (i := 3) (by simp)
      have y4 := R1w.out.cell (i := 4) (by simp)
      simp at x0 x1 y0 y1 y2 y3 y4
      have HBI : Hid (intoOk sc op 0 = true) := decide_eq_true (.inl rfl)
      clear HJ
      have hc := HHC.out
      go_upto_region 11 with fail
      go_wp2_with fail
      refine (implIsCounting op _).mono ?_
      rw [decide_eq_false hc]
      rintro e w9 ⟨rfl, rfl⟩
      have HC := Lib.hid hc
      clear hc
      have h7 := HH7.out
      have h8 := HH8.out
      have q7 : (op == 7) = false := beq_eq_false_iff_ne.2 h7
      have q8 : (op == 8) = false := beq_eq_false_iff_ne.2 h8
      have H8 := Lib.hid h8
      have H7 := Lib.hid h7
      clear h8 h7
      have HS1 : Hid (sg.length = n1) := (sigs_at QP.out.2).1
      obtain ⟨bl, hbl⟩ : ∃ bl : Bool, bl = true ↔ (0 < nk ∨ (op = 10 ∧ 0 ≤ num ∧ num < (sg.length : Int) ∧ 0 < (sgAt sg num.toNat).lent.length)) := ⟨decide (0 < nk ∨ (op = 10 ∧ 0 ≤ num ∧ num < (sg.length : Int) ∧ 0 < (sgAt sg num.toNat).lent.length)), decide_eq_true_iff⟩
      have HBL := Lib.hid hbl
      clear hbl
      go_upto_region 26 with fail
      go_cut [190] (fun sb wx => sb = .bool bl ∧ wo = wx)
      case first =>
        by_cases c0 : nk = 0
        · subst c0
          by_cases c1 : op = 10
          · replace c1 := Lib.hid c1
            have q1 : (op == 10) = true := beq_iff_eq.2 c1.out
            by_cases c2 : 0 ≤ num
            · by_cases c3 : num < (n1 : Int)
              · obtain ⟨k, rfl⟩ := Int.eq_ofNat_of_zero_le c2
                have hk1 : k < n1 := by omega
                obtain ⟨b, o, rfl, _, ap, np, cp, al, nl, cl, d0, d1, d2, rp, rl⟩ := (sigs_at QP.out.2).2.2.2 k hk1
                have hnl : (sgAt sg k).lent.length = nl := (ints_at rl).1
                have HNLL := Lib.hid hnl
                clear hnl d0 d2
                by_cases c4 : 0 < nl
                · have q4 : (0 : Int) < (nl : Int) := by omega
                  have hbv : bl = true := HBL.out.2 (.inr ⟨c1.out, by omega, by have := HS1.out; omega, by rw [Int.toNat_natCast, HNLL.out]; exact c4⟩)
                  go_wp2_with fail
                  go_meet
                  case rel => exact ⟨by rw [hbv], rfl⟩
                · have q4 : ¬ (0 : Int) < (nl : Int) := by omega
                  have hbv : bl = false := Bool.eq_false_iff.2 (fun h9 => absurd (HBL.out.1 h9) (fun h => by rcases h with h | h; omega; have h2 := h.2.2.2; rw [Int.toNat_natCast, HNLL.out] at h2; omega))
                  go_wp2_with fail
                  go_meet
                  case rel => exact ⟨by rw [hbv], rfl⟩
              · have hbv : bl = false := Bool.eq_false_iff.2 (fun h9 => absurd (HBL.out.1 h9) (fun h => by rcases h with h | h; omega; have := HS1.out; omega))
                go_wp2_with fail
                go_meet
                case rel => exact ⟨by rw [hbv], rfl⟩
            · have hbv : bl = false := Bool.eq_false_iff.2 (fun h9 => absurd (HBL.out.1 h9) (fun h => by rcases h with h | h; omega; omega))
              go_wp2_with fail
              go_meet
              case rel => exact ⟨by rw [hbv], rfl⟩
          · have q1 : (op == 10) = false := beq_eq_false_iff_ne.2 c1
            have hbv : bl = false := Bool.eq_false_iff.2 (fun h9 => absurd (HBL.out.1 h9) (fun h => by rcases h with h | h; omega; exact c1 h.1))
            go_wp2_with fail
            go_meet
            case rel => exact ⟨by rw [hbv], rfl⟩
        · have q0 : (0 : Int) < (nk : Int) := by omega
          have hbv : bl = true := HBL.out.2 (.inl (by omega))
          go_wp2_with fail
          go_meet
          case rel => exact ⟨by rw [hbv], rfl⟩
      case rest =>
      obtain ⟨rfl, rfl⟩ := hcut
      go_upto_if 190 with fail
      cases bl
      case true =>
        have V : Hid (stpT ds sg sc (.mk op num 0 args ks) = -1) := by
          show _ = _
          rcases HBL.out.1 rfl with h | h
          · exact stp_kids _ _ _ _ _ _ _ _ H7.out H8.out (by have := HNK.out; omega)
          · by_cases hk : 0 < ks.length
            · exact stp_kids _ _ _ _ _ _ _ _ H7.out H8.out hk
            · rw [stp_leaf _ _ _ _ _ _ _ _ HARGS.out HBI.out H7.out H8.out (by omega), leafL, if_neg HC.out, if_pos ⟨h.1, h.2.2.2⟩]
        go_wp2_with fail
        exact fin_ hQ (stR_neg V.out KW.out)
      have HGL : Hid (¬ (0 < nk ∨ (op = 10 ∧ 0 ≤ num ∧ num < (sg.length : Int) ∧ 0 < (sgAt sg num.toNat).lent.length))) := fun h => by have h2 := HBL.out.2 h; cases h2
      have V : Hid (stpT ds sg sc (.mk op num 0 args ks) = simpleL ds sg op num tys) := by
        show _ = _
        rw [stp_leaf _ _ _ _ _ _ _ _ HARGS.out HBI.out H7.out H8.out (by have := HNK.out; have h2 := HGL.out; exact Nat.eq_zero_of_not_pos (fun h => h2 (.inl (by omega)))), HTY.out]
        exact leafL_simple HC.out (fun h => HGL.out (.inr h)) tys
      go_wp2_with fail
      refine (implSimple ds sg HOK.out op num HFN.out tys _ a0 n0 c0 a1 n1 c1 a8 na c8 _ wo QP.out QT.out (by omega)).mono ?_
      rintro e w3 ⟨t, ok, rfl, hok1, hok2, kk⟩
      have HO1 := Lib.hid hok1
      have HO2 := Lib.hid hok2
      have KE := Lib.hid (KW.out.trans kk)
      clear kk hok1 hok2
      go_wp2_with fail
      exact fin_ hQ (stR_any (by rw [V.out]; exact HO1.out) (fun h => by rw [V.out]; exact HO2.out h) KE.out)
end
end Go.Proofs.YtkapldpmjkdmcaaGreat
