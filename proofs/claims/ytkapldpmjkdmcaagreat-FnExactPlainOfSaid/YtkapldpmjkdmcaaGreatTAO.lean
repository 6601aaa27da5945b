/- The program's types of steps: counting steps. -/
import Derived.Test.YtkapldpmjkdmcaaGreatTAN
namespace Go.Proofs.YtkapldpmjkdmcaaGreat
open Go.RowKit

section
variable (ds : List DeclL) (sg : List SigL) (hok : sigsOk ds sg = true)
include hok

set_option maxRecDepth 100000 in
set_option maxHeartbeats 1500000 in
theorem implStep_cnt (op num : Int) (args : List Int) (ks : List BlockL) (hos : okS (.mk op num 0 args ks)) (IH0 : ∀ j, j < ks.length → BlI ds sg (bAt ks j).result (bAt ks j).steps) (a0 : Option Addr) (n0 c0 : Nat) (a1 : Option Addr) (n1 c1 : Nat) (av : Option Addr) (nv cv : Nat) (sc : List Int) (aa : Option Addr) (na ca : Nat) (ak : Option Addr) (nk ck : Nat) (w : World) (hp : SR w (fun _ => True) ds sg a0 n0 c0 a1 n1 c1) (hv : IntsL w (fun _ => True) av nv sc) (ha : Rd w (fun _ => True) (encInts args) (.slice aa na ca)) (hk : Rd w (fun _ => True) (encBlocks ks) (.slice ak nk ck)) (hlen : sc.length + 4 * (nBs ks + 1) ≤ 1052000) (hall : allT ds.length sc = true) (hc : 14 ≤ op ∧ op ≤ 17) :
    Calls Tryz.prog 134 #[.agg #[.slice a0 n0 c0, .slice a1 n1 c1], .slice av nv cv, .agg #[.int .i64 op, .int .i64 num, .int .i64 0, .slice aa na ca, .slice ak nk ck]] w (StR ds sg sc (.mk op num 0 args ks) w) := by

  refine calls_k fun Q hQ => ?_
  rw [okS] at hos
  have ht := (sigsOk_parts hok).1
  have hf := Few.of_ok ht
  have hn0 : n0 ≤ 4 := by have := (decls_at hp.1).1; have := typesOk_len ht; omega
  have hn1 : n1 ≤ 4 := by have := (sigs_at hp.2).1; have := (sigsOk_parts hok).2.2.1; omega
  have hnv : nv ≤ 1052000 := by have := hv.1; omega
  have hna : na ≤ 1048576 := by have := (ints_at ha).1; have := hos.2.1; omega
  have HNL : Hid (args.length = na) := (ints_at ha).1
  have HSL : Hid (sc.length = nv) := hv.1
  have HNK : Hid (ks.length = nk) := (blocks_at hk).1
  have hnk : nk ≤ 9223372036854775807 := (blocks_at hk).2.2.1
  have HFN := Lib.hid hos.1
  have HOK := Lib.hid hok
  have HAll := Lib.hid hall
  have HLen := Lib.hid hlen
  have HT := Lib.hid ht
  have HF := Lib.hid hf
  have IH := Lib.hid IH0
  have K0 := Lib.hid ((Keep.al w (.cells #[.slice a0 n0 c0, .slice a1 n1 c1] 130)).trans (Keep.al _ (.cells #[.int .i64 op, .int .i64 num, .int .i64 0, .slice aa na ca, .slice ak nk ck] 136)))
  have R0 := (rowOf w #[.slice a0 n0 c0, .slice a1 n1 c1] 130).alloc (.cells #[.int .i64 op, .int .i64 num, .int .i64 0, .slice aa na ca, .slice ak nk ck] 136)
  have R1 := rowOf (w.alloc (.cells #[.slice a0 n0 c0, .slice a1 n1 c1] 130)) #[.int .i64 op, .int .i64 num, .int .i64 0, .slice aa na ca, .slice ak nk ck] 136
  simp only [World.size_alloc] at R1
  have R0a := Lib.hid R0
  have R1a := Lib.hid R1
  have ya := R1.cell (i := 3) (by simp)
  simp at ya
  have hzm : w.heap.size + 2 ≤ ((w.alloc (.cells #[.slice a0 n0 c0, .slice a1 n1 c1] 130)).alloc (.cells #[.int .i64 op, .int .i64 num, .int .i64 0, .slice aa na ca, .slice ak nk ck] 136)).heap.size := by simp
  clear hok hall ht IH0 hf hos R0 R1
  go_enter Tryz.func134, Tryz.ntmps134
  obtain ⟨iI, hiI, hz0I, hz1I, hz2I⟩ := info_parts (show (Tryz.prog.info? 3).map (fun i => (i.zero, i.size, i.bytes)) = some (some (.int .i64 0), 1, 8) by kernel_rfl)
  go_wp2_with (at_make; go_must (refine wpList_make_own _ rfl _ _ 52 rfl (w.heap.size + 2) 3 iI (.int .i64 0) 1 Tryz.underlying52 hiI hz0I hz1I .i64 .i64 na na rfl rfl rfl (by rw [hz2I]; omega) (by simp only [maxLen]; omega) hzm ?_); intro wm how hgw; have KG := Ext.grown (Ext.refl (fun _ => False) _) hgw (fun k hk => by cases hk); have VM : Hid (VR wm (w.heap.size + 2) (.slice (some ⟨w.heap.size + 1 + 1, 0, none⟩) 0 na) ((tysOf sc args).take 0)) := (by have h := how; simp only [World.size_alloc] at h; exact h); have KM := Lib.hid (K0.out.trans KG); have HWM : Hid (w.heap.size + 2 ≤ wm.heap.size) := Nat.le_trans hzm KG.size; have R0M := Lib.hid (row_ext R0a.out KG (fun h => h)); have R1M := Lib.hid (row_ext R1a.out KG (fun h => h)); have yb := R1M.out.cell (i := 3) (by simp); simp at yb; clear how hgw KG ya)
  go_loopw [8, 22] (fun sv iv wr => ∃ (j : Nat), j ≤ na ∧ iv = .int .i64 j ∧ Hid (∀ l, l < j → 0 ≤ iAt args l ∧ iAt args l < (sc.length : Int)) ∧ Hid (VR wr (w.heap.size + 2) sv ((tysOf sc args).take j)) ∧ Hid (Keep w wr) ∧ Hid (w.heap.size + 2 ≤ wr.heap.size) ∧ Hid (wr.rowIs w.heap.size 130 2 (fun i => (#[.slice a0 n0 c0, .slice a1 n1 c1] : Array Value).getD i undef)) ∧ Hid (wr.rowIs (w.heap.size + 1) 136 5 (fun i => (#[.int .i64 op, .int .i64 num, .int .i64 0, .slice aa na ca, .slice ak nk ck] : Array Value).getD i undef))) (fun _ iv _ => na - (intOf iv).toNat)
  case atStart => exact ⟨0, Nat.zero_le _, rfl, (show ∀ l, l < 0 → _ from fun l hl => absurd hl (by omega)), VM, KM, HWM, R0M, R1M⟩
  case round =>
    obtain ⟨j, hj, rfl, hI, hV, KW, HWZ, R0w, R1w⟩ := hrel
    obtain ⟨wo, rfl⟩ : ∃ wo : World, wo = wr := ⟨_, rfl⟩
    clear VM KM HWM R0M R1M yb
    by_cases hlt : j < na
    · obtain ⟨b, o, rfl, _, d0⟩ := (ha.toInts.ext KW.out (fun _ _ h => h)).at hlt
      obtain ⟨v, hvv⟩ : ∃ v, iAt args j = v := ⟨_, rfl⟩
      rw [hvv] at d0
      have HVV := Lib.hid hvv
      clear hvv
      have HJ : Hid (j < args.length) := by show _ < _; have := HNL.out; omega
      by_cases hr : 0 ≤ v ∧ v < (nv : Int)
      case neg =>
        have V : Hid (stpT ds sg sc (.mk op num 0 args ks) = -1) := stp_args _ _ _ _ _ _ _ _ (argsIn_neg (i := j) HJ.out (by rw [HVV.out]; have := HSL.out; omega))
        by_cases hr0 : v < 0
        · clear hr
          go_wp2_with fail
          exact fin_ hQ (stR_neg V.out KW.out)
        · have hr1 : (nv : Int) ≤ v := by omega
          have hr2 : ¬ v < (nv : Int) := by omega
          clear hr
          go_wp2_with fail
          exact fin_ hQ (stR_neg V.out KW.out)
      obtain ⟨hr0, hr1⟩ := hr
      obtain ⟨k, rfl⟩ := Int.eq_ofNat_of_zero_le hr0
      have hkn : k < nv := by omega
      obtain ⟨b2, o2, rfl, _, d2⟩ := (hv.ext KW.out (fun _ _ h => h)).at hkn
      obtain ⟨x, hx⟩ : ∃ x, iAt sc k = x := ⟨_, rfl⟩
      rw [hx] at d2
      have ET : Hid ((tysOf sc args).take (j + 1) = (tysOf sc args).take j ++ [x]) := by
        show _ = _
        have h2 : j < (tysOf sc args).length := by rw [tysOf_len]; exact HJ.out
        rw [List.take_succ_eq_append_getElem h2, ← iAt_eq h2, tysOf_at HJ.out, HVV.out]
        rw [← hx]; rfl
      have hI2 : Hid (∀ l, l < j + 1 → 0 ≤ iAt args l ∧ iAt args l < (sc.length : Int)) := fun l hl => by
        rcases Nat.lt_succ_iff_lt_or_eq.1 hl with h | rfl
        · exact hI.out l h
        · rw [HVV.out]; have := HSL.out; omega
      have hlr : ((tysOf sc args).take j).length = j := by rw [List.length_take, tysOf_len]; have := HJ.out; omega
      have HLR := Lib.hid hlr
      have KL := Keep.al wo (.cells #[.int .i64 x] 3)
      have hxt : IntsL (wo.alloc (.cells #[.int .i64 x] 3)) (fun _ => True) (some ⟨wo.heap.size, 0, none⟩) 1 [x] := (lit_intsD wo (fun _ => True) 3 [x] #[.int .i64 x] 1 trivial rfl rfl (by omega)).toInts
      have hv2 : (wo.alloc (.cells #[.int .i64 x] 3)).ownsRow (w.heap.size + 2) 3 1 u8 j (((tysOf sc args).take j).map (Value.int .i64)) := by
        have h := hV.out.k KL
        unfold VR at h
        rw [hlr] at h
        exact h
      have hzl : w.heap.size + 2 ≤ (wo.alloc (.cells #[.int .i64 x] 3)).heap.size := by have := HWZ.out; simp; omega
      have hKK := Lib.hid (KW.out.trans KL)
      have R0l := Lib.hid (row_ext R0w.out KL (fun h => h))
      have R1l := Lib.hid (row_ext R1w.out KL (fun h => h))
      have VL := Lib.hid (hV.out.k KL).lt
      clear hlr hx KL hV
      go_wp2_with (at_builtin; go_must (refine wpList_appInts _ rfl (.tmp 34) (.tmp 39) rfl (w.heap.size + 2) u8 j ((tysOf sc args).take j) rfl hv2 _ 1 1 [x] (fun _ => True) rfl hxt (by omega) hzl ?_); intro vn w7 ho hgr; have X7 := Lib.hid ((Ext.refl (fun k => w.heap.size + 2 ≤ k) _).grown hgr (fun k hk => .inr (VL.out k hk).1)); have HO := Lib.hid ho; clear ho hgr)
      go_roundw
      case rel => exact ⟨j + 1, by omega, by go_num, hI2, by
        show VR _ _ _ _
        unfold VR
        rw [ET.out, List.length_append, HLR.out]
        exact HO.out, hKK.out.then_ X7.out (fun q hq h => by omega), by show _ ≤ _; have := X7.out.size; omega, row_ext R0l.out X7.out (by omega), row_ext R1l.out X7.out (by omega)⟩
      case measure => simp [intOf]; omega
    · have HJ : Hid (j = na) := by show _ = _; omega
      have HARGS : Hid (argsIn sc args = true) := argsIn_iff.2 (fun i hi => hI.out i (by have := HJ.out; have := HNL.out; omega))
      have hV2 := hV.out
      rw [List.take_of_length_le (by rw [tysOf_len]; have := HJ.out; have := HNL.out; omega)] at hV2
      obtain ⟨tys, hty⟩ : ∃ tys, tysOf sc args = tys := ⟨_, rfl⟩
      have HTY := Lib.hid hty
      rw [hty] at hV2
      have htl : tys.length = na := by rw [← hty, tysOf_len]; exact HNL.out
      have HTA : Hid (allT ds.length tys = true) := by show _ = _; rw [← hty]; exact tysOf_all HAll.out HARGS.out
      obtain ⟨a8, c8, rfl, hc8, ho8⟩ := hV2.slice
      rw [htl] at ho8 hc8
      have QT : Hid (IntsL wo (fun k => (Value.slice a8 na c8).ownBlock = some k) a8 na tys) := ho8.read
      have HTL := Lib.hid htl
      rw [htl]
      clear hV hV2 hty ho8 hI htl
      have QP := Lib.hid (hp.k KW.out)
      have QV := Lib.hid (hv.ext KW.out (fun _ _ h => h))
      have QK := Lib.hid (hk.k KW.out)
      have x0 := R0w.out.cell (i := 0) (by simp)
      have x1 := R0w.out.cell (i := 1) (by simp)
      have y0 := R1w.out.cell (i := 0) (by simp)
      have y1 := R1w.out.cell (i := 1) (by simp)
      have y2 := R1w.out.cell (i := 2) (by simp)
      have y3 := R1w.out.cell (i := 3) (by simp)
      have y4 := R1w.out.cell (i := 4) (by simp)
      simp at x0 x1 y0 y1 y2 y3 y4
      have HBI : Hid (intoOk sc op 0 = true) := decide_eq_true (.inl rfl)
      clear HJ
      go_upto_region 11 with fail
      go_wp2_with fail
      refine (implIsCounting op _).mono ?_
      rw [decide_eq_true hc]
      rintro e w9 ⟨rfl, rfl⟩
      have HC := Lib.hid hc
      have VC : Hid (stpT ds sg sc (.mk op num 0 args ks) = if ks.length = 0 ∧ num = 0 ∧ tys.length = 1 ∧ iAt tys 0 ≠ 0 ∧ (op = 14 ∨ op = 15 ∨ isArr ds (iAt tys 0) = false) then 0 else -1) := by
        show _ = _
        rw [← HTY.out]
        exact stp_cnt hc HARGS.out HBI.out
      clear hc
      obtain ⟨b1, hb1⟩ : ∃ b1, decide (na = 1 ∧ iAt tys 0 ≠ 0 ∧ num = 0 ∧ nk = 0) = b1 := ⟨_, rfl⟩
      have HB1 := Lib.hid hb1
      clear hb1
      go_upto_region 12 with fail
      go_cut [11] (fun sb wx => sb = .bool b1 ∧ wo = wx)
      case first =>
        by_cases c1 : na = 1
        · replace c1 := Lib.hid c1
          have q1 : ((na : Int) == 1) = true := beq_iff_eq.2 (by have := c1.out; omega)
          obtain ⟨b8, o8, rfl, _, d8⟩ := QT.out.at (i := 0) (by have := c1.out; omega)
          rw [Nat.add_zero] at d8
          obtain ⟨x, hx⟩ : ∃ x, iAt tys 0 = x := ⟨_, rfl⟩
          rw [hx] at d8
          have hn0' : (0 : Int) < (na : Int) := by have := c1.out; omega
          replace hx := Lib.hid hx
          by_cases c2 : x = 0
          · replace c2 := Lib.hid c2
            have q2 : (x != 0) = false := (by rw [c2.out]; exact bne_self_eq_false _)
            have hbv : b1 = false := by rw [← HB1.out]; exact decide_eq_false (fun h => h.2.1 (by rw [hx.out]; exact c2.out))
            go_wp2_with fail
            go_meet
            case rel => exact ⟨by first | (rw [hbv]; done) | (rw [hbv]; rfl), rfl⟩
          · have q2 : (x != 0) = true := bne_iff_ne.2 c2
            by_cases c3 : num = 0
            · replace c3 := Lib.hid c3
              have q3 : (num == 0) = true := beq_iff_eq.2 c3.out
              by_cases c4 : nk = 0
              · replace c4 := Lib.hid c4
                have q4 : ((nk : Int) == 0) = true := beq_iff_eq.2 (by have := c4.out; omega)
                have hbv : b1 = true := by rw [← HB1.out]; exact decide_eq_true ⟨c1.out, by rw [hx.out]; exact c2, c3.out, c4.out⟩
                go_wp2_with fail
                go_meet
                case rel => exact ⟨by first | (rw [hbv]; done) | (rw [hbv]; rfl), rfl⟩
              · have q4 : ((nk : Int) == 0) = false := beq_eq_false_iff_ne.2 (by omega)
                have hbv : b1 = false := by rw [← HB1.out]; exact decide_eq_false (fun h => c4 h.2.2.2)
                go_wp2_with fail
                go_meet
                case rel => exact ⟨by first | (rw [hbv]; done) | (rw [hbv]; rfl), rfl⟩
            · have q3 : (num == 0) = false := beq_eq_false_iff_ne.2 c3
              have hbv : b1 = false := by rw [← HB1.out]; exact decide_eq_false (fun h => c3 h.2.2.1)
              go_wp2_with fail
              go_meet
              case rel => exact ⟨by first | (rw [hbv]; done) | (rw [hbv]; rfl), rfl⟩
        · have q1 : ((na : Int) == 1) = false := beq_eq_false_iff_ne.2 (by omega)
          have hbv : b1 = false := by rw [← HB1.out]; exact decide_eq_false (fun h => c1 h.1)
          go_wp2_with fail
          go_meet
          case rel => exact ⟨by first | (rw [hbv]; done) | (rw [hbv]; rfl), rfl⟩
      case rest =>
      obtain ⟨rfl, rfl⟩ := hcut
      cases b1
      · have V : Hid (stpT ds sg sc (.mk op num 0 args ks) = -1) := by
          show _ = _
          rw [VC.out, if_neg (fun h => of_decide_eq_false HB1.out ⟨by have := HTL.out; omega, h.2.2.2.1, h.2.1, by have := HNK.out; omega⟩)]
        go_wp2_with fail
        exact fin_ hQ (stR_neg V.out KW.out)
      replace HB1 := Lib.hid (of_decide_eq_true HB1.out)
      obtain ⟨b8, o8, rfl, hb8, d8⟩ := QT.out.at (i := 0) (by have := HB1.out.1; omega)
      rw [Nat.add_zero] at d8
      obtain ⟨x, hx⟩ : ∃ x, iAt tys 0 = x := ⟨_, rfl⟩
      rw [hx] at d8
      have HX := Lib.hid hx
      clear hx
      by_cases h16 : op = 16 ∨ op = 17
      case neg =>
        have V : Hid (stpT ds sg sc (.mk op num 0 args ks) = 0) := by
          show _ = _
          rw [VC.out, if_pos ⟨by have := HNK.out; have := HB1.out; omega, HB1.out.2.2.1, by have := HTL.out; have := HB1.out; omega, HB1.out.2.1, by have := HC.out; omega⟩]
        have q1 : (op == 16) = false := beq_eq_false_iff_ne.2 (fun h => h16 (.inl h))
        have q2 : (op == 17) = false := beq_eq_false_iff_ne.2 (fun h => h16 (.inr h))
        clear h16
        go_wp2_with fail
        exact fin_ hQ (stR_cnt V.out HC.out KW.out)
      have H16 := Lib.hid h16
      go_upto_region 13 with fail
      go_cut [105] (fun sb wx => sb = .bool true ∧ wo = wx)
      case first =>
        rcases h16 with h16 | h16
        · have q1 : (op == 16) = true := beq_iff_eq.2 h16
          clear h16
          go_wp2_with fail
          go_meet
          case rel => exact ⟨rfl, rfl⟩
        · have q1 : (op == 16) = false := beq_eq_false_iff_ne.2 (by omega)
          have q2 : (op == 17) = true := beq_iff_eq.2 h16
          clear h16
          go_wp2_with fail
          go_meet
          case rel => exact ⟨rfl, rfl⟩
      case rest =>
      obtain ⟨rfl, rfl⟩ := hcut
      clear h16
      obtain ⟨ar, har⟩ : ∃ ar, isArr ds x = ar := ⟨_, rfl⟩
      have HAR := Lib.hid har
      have KD : Keep wo wo.drew := (Ext.refl (fun _ => False) wo).drew
      have QD := Lib.hid (QP.out.1.k KD)
      have hn0n : 0 < na := by have := HB1.out.1; omega
      clear har
      go_upto_region 14 with fail
      replace x0 : wo.drew.cell? ⟨w.heap.size, 0, none⟩ = some (.slice a0 n0 c0) := x0
      replace d8 : wo.drew.cell? ⟨b8, o8, none⟩ = some (.int .i64 x) := d8
      refine wp_region_held_drew (S := fun w' => w'.cell? ⟨w.heap.size, 0, none⟩ = some (.slice a0 n0 c0) ∧ w'.cell? ⟨b8, o8, none⟩ = some (.int .i64 x)) (by kernel_rfl) ⟨x0, d8⟩ (fun hHeld => ?_)
      have pc : Hid (Keep wo.drew wo.drew) := Ext.refl _ _
      have hwW : wo.heap.size ≤ wo.drew.heap.size := Nat.le_refl _
      generalize wo.drew = W0 at *
      refine wT 0 hHeld ?_
      try go_frame
      refine wT 1 hHeld ?_
      try go_frame
      refine wT 2 hHeld ?_
      try go_frame
      refine wpAnyH_takeL (i := 3) (v := .pointer (some ⟨b8, o8, none⟩)) rfl (by kernel_rfl) (by kernel_rfl) (by kernel_rfl) (fun _ _ _ h => h) (by rfl) hHeld (fun w _ => run_idx0 _ _ _ _ na c8 w rfl rfl hn0n) ?_
      try go_frame
      refine wT 4 hHeld ?_
      try go_frame
      refine wpAnyH_ready (rs := [5, 9]) (by kernel_rfl) (by simp) ?_
      refine allReadyH_consL rfl (by rfl) (fun K0 hK0 => ?_) (allReadyH_consL rfl (by rfl) (fun K0 hK0 => ?_) (AllReadyH.nil))
      · go_simp
        go_at_call 189
        refine (implArrowAt _ _ _ ds _ x _ (Rd.toDecls QD.out) (by omega)).mono ?_
        rw [HAR.out]
        rintro e y1 ⟨f, g, a3, n3, c3, rfl, -, kk⟩
        replace pc := Lib.hid (pc.out.trans kk)
        replace QD := Lib.hid (QD.out.k kk)
        clear kk
        refine hK0.out _ _ ⟨pc.out.cq x0 (fun h => h), pc.out.cq d8 (fun h => h)⟩ (fun hHeld => ?_)
        clear hK0
        try go_frame
        refine wT 6 hHeld ?_
        try go_frame
        refine wT 7 hHeld ?_
        try go_frame
        refine wT 8 hHeld ?_
        try go_frame
        refine wO 9 (fun K0 hK0 => ?_)
        go_simp
        obtain ⟨y2, hW⟩ : ∃ N, N = y1.alloc (.cells #[.int .i64 0, .int .i64 0, .slice none 0 0] 125) := ⟨_, rfl⟩
        obtain ⟨s12, hsl⟩ : ∃ s, s = y1.heap.size := ⟨_, rfl⟩
        rw [← hsl, ← hW]
        have RZ : Hid (y2.rowIs s12 125 3 (fun i => (#[.int .i64 0, .int .i64 0, .slice none 0 0] : Array Value).getD i undef)) := by
          rw [hW, hsl]
          exact rowOf y1 #[.int .i64 0, .int .i64 0, .slice none 0 0] 125
        have kk : Keep y1 y2 := by rw [hW]; exact Keep.al _ _
        have hsx : w.heap.size ≠ s12 := by have := HWZ.out; have h2 := pc.out.size; omega
        have hs8 : b8 ≠ s12 := by have h3 := World.block_lt_of_cell? _ _ d8; have h2 := pc.out.size; change b8 < W0.heap.size at h3; omega
        have hsn : Hid (W0.heap.size ≤ s12) := by show _ ≤ _; have h2 := pc.out.size; omega
        replace pc := Lib.hid (pc.out.trans kk)
        replace QD := Lib.hid (QD.out.k kk)
        clear kk hW hsl
        refine hK0.out _ _ ⟨pc.out.cq x0 (fun h => h), pc.out.cq d8 (fun h => h)⟩ (fun hHeld => ?_)
        clear hK0
        try go_frame
        refine wO 10 (fun K0 hK0 => ?_)
        have c0 := RZ.out.cell (i := 0) (by simp)
        have c1 := RZ.out.cell (i := 1) (by simp)
        have c2 := RZ.out.cell (i := 2) (by simp)
        simp at c0 c1 c2
        have f0 : y2.frozen? ⟨s12, 0, none⟩ = false := RZ.out.frozen 0
        have f1 : y2.frozen? ⟨s12, 1, none⟩ = false := RZ.out.frozen 1
        have f2 : y2.frozen? ⟨s12, 2, none⟩ = false := RZ.out.frozen 2
        go_simp
        have sx := Lib.hid (Ext.setCell (S := fun q => q = s12) (Ext.setCell (S := fun q => q = s12) (Ext.setCell (S := fun q => q = s12) (Ext.refl _ y2) (p := ⟨s12, 0, none⟩) (.inr rfl) (.int .i64 f)) (p := ⟨s12, 1, none⟩) (.inr rfl) (.int .i64 g)) (p := ⟨s12, 2, none⟩) (.inr rfl) (.slice a3 n3 c3))
        clear c0 c1 c2 f0 f1 f2
        refine hK0.out _ _ ⟨at_put3 (pc.out.cq x0 (fun h => h)) hsx, at_put3 (pc.out.cq d8 (fun h => h)) hs8⟩ (fun hHeld => ?_)
        clear hK0
        try go_frame
        refine wT 11 hHeld ?_
        try go_frame
        refine wpAnyH_done (by kernel_rfl) ?_ _
        have KE := Lib.hid (KW.out.trans (KD.trans (pc.out.then_ (S := fun _ => False) sx.out (fun i hi e => by have h3 := hsn.out; have e2 : i = s12 := e; omega))))
        clear pc sx QD RZ hHeld
        cases ar
        · have V : Hid (stpT ds sg sc (.mk op num 0 args ks) = 0) := by show _ = _; rw [VC.out, if_pos ⟨by have := HNK.out; have := HB1.out; omega, HB1.out.2.2.1, by have := HTL.out; have := HB1.out; omega, HB1.out.2.1, by rw [HX.out]; exact .inr (.inr HAR.out)⟩]
          go_wp2_with fail
          exact fin_ hQ (stR_cnt V.out HC.out KE.out)
        · have V : Hid (stpT ds sg sc (.mk op num 0 args ks) = -1) := by show _ = _; rw [VC.out, if_neg (fun h => by have h1 := h.2.2.2.2; rw [HX.out, HAR.out] at h1; have := H16.out; rcases h1 with h1 | h1 | h1; omega; omega; cases h1)]
          go_wp2_with fail
          exact fin_ hQ (stR_neg V.out KE.out)
      · go_simp
        obtain ⟨y1, hW⟩ : ∃ N, N = W0.alloc (.cells #[.int .i64 0, .int .i64 0, .slice none 0 0] 125) := ⟨_, rfl⟩
        obtain ⟨s12, hsl⟩ : ∃ s, s = W0.heap.size := ⟨_, rfl⟩
        rw [← hsl, ← hW]
        have RZ : Hid (y1.rowIs s12 125 3 (fun i => (#[.int .i64 0, .int .i64 0, .slice none 0 0] : Array Value).getD i undef)) := by
          rw [hW, hsl]
          exact rowOf W0 #[.int .i64 0, .int .i64 0, .slice none 0 0] 125
        have kk : Keep W0 y1 := by rw [hW]; exact Keep.al _ _
        have hsx : w.heap.size ≠ s12 := by have := HWZ.out; have h2 := pc.out.size; omega
        have hs8 : b8 ≠ s12 := by have h3 := World.block_lt_of_cell? _ _ d8; have h2 := pc.out.size; change b8 < W0.heap.size at h3; omega
        have hsn : Hid (W0.heap.size ≤ s12) := by show _ ≤ _; have h2 := pc.out.size; omega
        replace pc := Lib.hid (pc.out.trans kk)
        replace QD := Lib.hid (QD.out.k kk)
        clear kk hW hsl
        refine hK0.out _ _ ⟨pc.out.cq x0 (fun h => h), pc.out.cq d8 (fun h => h)⟩ (fun hHeld => ?_)
        clear hK0
        try go_frame
        refine wO 5 (fun K0 hK0 => ?_)
        go_simp
        go_at_call 189
        refine (implArrowAt _ _ _ ds _ x _ (Rd.toDecls QD.out) (by omega)).mono ?_
        rw [HAR.out]
        rintro e y2 ⟨f, g, a3, n3, c3, rfl, -, kk⟩
        replace pc := Lib.hid (pc.out.trans kk)
        replace QD := Lib.hid (QD.out.k kk)
        replace RZ := Lib.hid (row_ext RZ.out kk (fun h => h))
        clear kk
        refine hK0.out _ _ ⟨pc.out.cq x0 (fun h => h), pc.out.cq d8 (fun h => h)⟩ (fun hHeld => ?_)
        clear hK0
        try go_frame
        refine wT 6 hHeld ?_
        try go_frame
        refine wT 7 hHeld ?_
        try go_frame
        refine wT 8 hHeld ?_
        try go_frame
        refine wO 10 (fun K0 hK0 => ?_)
        have c0 := RZ.out.cell (i := 0) (by simp)
        have c1 := RZ.out.cell (i := 1) (by simp)
        have c2 := RZ.out.cell (i := 2) (by simp)
        simp at c0 c1 c2
        have f0 : y2.frozen? ⟨s12, 0, none⟩ = false := RZ.out.frozen 0
        have f1 : y2.frozen? ⟨s12, 1, none⟩ = false := RZ.out.frozen 1
        have f2 : y2.frozen? ⟨s12, 2, none⟩ = false := RZ.out.frozen 2
        go_simp
        have sx := Lib.hid (Ext.setCell (S := fun q => q = s12) (Ext.setCell (S := fun q => q = s12) (Ext.setCell (S := fun q => q = s12) (Ext.refl _ y2) (p := ⟨s12, 0, none⟩) (.inr rfl) (.int .i64 f)) (p := ⟨s12, 1, none⟩) (.inr rfl) (.int .i64 g)) (p := ⟨s12, 2, none⟩) (.inr rfl) (.slice a3 n3 c3))
        clear c0 c1 c2 f0 f1 f2
        refine hK0.out _ _ ⟨at_put3 (pc.out.cq x0 (fun h => h)) hsx, at_put3 (pc.out.cq d8 (fun h => h)) hs8⟩ (fun hHeld => ?_)
        clear hK0
        try go_frame
        refine wT 11 hHeld ?_
        try go_frame
        refine wpAnyH_done (by kernel_rfl) ?_ _
        have KE := Lib.hid (KW.out.trans (KD.trans (pc.out.then_ (S := fun _ => False) sx.out (fun i hi e => by have h3 := hsn.out; have e2 : i = s12 := e; omega))))
        clear pc sx QD RZ hHeld
        cases ar
        · have V : Hid (stpT ds sg sc (.mk op num 0 args ks) = 0) := by show _ = _; rw [VC.out, if_pos ⟨by have := HNK.out; have := HB1.out; omega, HB1.out.2.2.1, by have := HTL.out; have := HB1.out; omega, HB1.out.2.1, by rw [HX.out]; exact .inr (.inr HAR.out)⟩]
          go_wp2_with fail
          exact fin_ hQ (stR_cnt V.out HC.out KE.out)
        · have V : Hid (stpT ds sg sc (.mk op num 0 args ks) = -1) := by show _ = _; rw [VC.out, if_neg (fun h => by have h1 := h.2.2.2.2; rw [HX.out, HAR.out] at h1; have := H16.out; rcases h1 with h1 | h1 | h1; omega; omega; cases h1)]
          go_wp2_with fail
          exact fin_ hQ (stR_neg V.out KE.out)
end
end Go.Proofs.YtkapldpmjkdmcaaGreat
/- The program's types of steps: if. -/
namespace Go.Proofs.YtkapldpmjkdmcaaGreat
open Go.RowKit

section
variable (ds : List DeclL) (sg : List SigL) (hok : sigsOk ds sg = true)
include hok

set_option maxRecDepth 100000 in
set_option maxHeartbeats 1500000 in
theorem implStep_7 (op num : Int) (args : List Int) (ks : List BlockL) (hos : okS (.mk op num 0 args ks)) (IH0 : ∀ j, j < ks.length → BlI ds sg (bAt ks j).result (bAt ks j).steps) (a0 : Option Addr) (n0 c0 : Nat) (a1 : Option Addr) (n1 c1 : Nat) (av : Option Addr) (nv cv : Nat) (sc : List Int) (aa : Option Addr) (na ca : Nat) (ak : Option Addr) (nk ck : Nat) (w : World) (hp : SR w (fun _ => True) ds sg a0 n0 c0 a1 n1 c1) (hv : IntsL w (fun _ => True) av nv sc) (ha : Rd w (fun _ => True) (encInts args) (.slice aa na ca)) (hk : Rd w (fun _ => True) (encBlocks ks) (.slice ak nk ck)) (hlen : sc.length + 4 * (nBs ks + 1) ≤ 1052000) (hall : allT ds.length sc = true) (h7 : op = 7) :
    Calls Tryz.prog 134 #[.agg #[.slice a0 n0 c0, .slice a1 n1 c1], .slice av nv cv, .agg #[.int .i64 op, .int .i64 num, .int .i64 0, .slice aa na ca, .slice ak nk ck]] w (StR ds sg sc (.mk op num 0 args ks) w) := by
  have HH7 := Lib.hid h7
  clear h7
  refine calls_k fun Q hQ => ?_
  rw [okS] at hos
  have ht := (sigsOk_parts hok).1
  have hf := Few.of_ok ht
  have hn0 : n0 ≤ 4 := by have := (decls_at hp.1).1; have := typesOk_len ht; omega
  have hn1 : n1 ≤ 4 := by have := (sigs_at hp.2).1; have := (sigsOk_parts hok).2.2.1; omega
  have hnv : nv ≤ 1052000 := by have := hv.1; omega
  have hna : na ≤ 1048576 := by have := (ints_at ha).1; have := hos.2.1; omega
  have HNL : Hid (args.length = na) := (ints_at ha).1
  have HSL : Hid (sc.length = nv) := hv.1
  have HNK : Hid (ks.length = nk) := (blocks_at hk).1
  have hnk : nk ≤ 9223372036854775807 := (blocks_at hk).2.2.1
  have HFN := Lib.hid hos.1
  have HOK := Lib.hid hok
  have HAll := Lib.hid hall
  have HLen := Lib.hid hlen
  have HT := Lib.hid ht
  have HF := Lib.hid hf
  have IH := Lib.hid IH0
  have K0 := Lib.hid ((Keep.al w (.cells #[.slice a0 n0 c0, .slice a1 n1 c1] 130)).trans (Keep.al _ (.cells #[.int .i64 op, .int .i64 num, .int .i64 0, .slice aa na ca, .slice ak nk ck] 136)))
  have R0 := (rowOf w #[.slice a0 n0 c0, .slice a1 n1 c1] 130).alloc (.cells #[.int .i64 op, .int .i64 num, .int .i64 0, .slice aa na ca, .slice ak nk ck] 136)
  have R1 := rowOf (w.alloc (.cells #[.slice a0 n0 c0, .slice a1 n1 c1] 130)) #[.int .i64 op, .int .i64 num, .int .i64 0, .slice aa na ca, .slice ak nk ck] 136
  simp only [World.size_alloc] at R1
  have R0a := Lib.hid R0
  have R1a := Lib.hid R1
  have ya := R1.cell (i := 3) (by simp)
  simp at ya
  have hzm : w.heap.size + 2 ≤ ((w.alloc (.cells #[.slice a0 n0 c0, .slice a1 n1 c1] 130)).alloc (.cells #[.int .i64 op, .int .i64 num, .int .i64 0, .slice aa na ca, .slice ak nk ck] 136)).heap.size := by simp
  clear hok hall ht IH0 hf hos R0 R1
  go_enter Tryz.func134, Tryz.ntmps134
  obtain ⟨iI, hiI, hz0I, hz1I, hz2I⟩ := info_parts (show (Tryz.prog.info? 3).map (fun i => (i.zero, i.size, i.bytes)) = some (some (.int .i64 0), 1, 8) by kernel_rfl)
  go_wp2_with (at_make; go_must (refine wpList_make_own _ rfl _ _ 52 rfl (w.heap.size + 2) 3 iI (.int .i64 0) 1 Tryz.underlying52 hiI hz0I hz1I .i64 .i64 na na rfl rfl rfl (by rw [hz2I]; omega) (by simp only [maxLen]; omega) hzm ?_); intro wm how hgw; have KG := Ext.grown (Ext.refl (fun _ => False) _) hgw (fun k hk => by cases hk); have VM : Hid (VR wm (w.heap.size + 2) (.slice (some ⟨w.heap.size + 1 + 1, 0, none⟩) 0 na) ((tysOf sc args).take 0)) := (by have h := how; simp only [World.size_alloc] at h; exact h); have KM := Lib.hid (K0.out.trans KG); have HWM : Hid (w.heap.size + 2 ≤ wm.heap.size) := Nat.le_trans hzm KG.size; have R0M := Lib.hid (row_ext R0a.out KG (fun h => h)); have R1M := Lib.hid (row_ext R1a.out KG (fun h => h)); have yb := R1M.out.cell (i := 3) (by simp); simp at yb; clear how hgw KG ya)
  go_loopw [8, 22] (fun sv iv wr => ∃ (j : Nat), j ≤ na ∧ iv = .int .i64 j ∧ Hid (∀ l, l < j → 0 ≤ iAt args l ∧ iAt args l < (sc.length : Int)) ∧ Hid (VR wr (w.heap.size + 2) sv ((tysOf sc args).take j)) ∧ Hid (Keep w wr) ∧ Hid (w.heap.size + 2 ≤ wr.heap.size) ∧ Hid (wr.rowIs w.heap.size 130 2 (fun i => (#[.slice a0 n0 c0, .slice a1 n1 c1] : Array Value).getD i undef)) ∧ Hid (wr.rowIs (w.heap.size + 1) 136 5 (fun i => (#[.int .i64 op, .int .i64 num, .int .i64 0, .slice aa na ca, .slice ak nk ck] : Array Value).getD i undef))) (fun _ iv _ => na - (intOf iv).toNat)
  case atStart => exact ⟨0, Nat.zero_le _, rfl, (show ∀ l, l < 0 → _ from fun l hl => absurd hl (by omega)), VM, KM, HWM, R0M, R1M⟩
  case round =>
    obtain ⟨j, hj, rfl, hI, hV, KW, HWZ, R0w, R1w⟩ := hrel
    obtain ⟨wo, rfl⟩ : ∃ wo : World, wo = wr := ⟨_, rfl⟩
    clear VM KM HWM R0M R1M yb
    by_cases hlt : j < na
    · obtain ⟨b, o, rfl, _, d0⟩ := (ha.toInts.ext KW.out (fun _ _ h => h)).at hlt
      obtain ⟨v, hvv⟩ : ∃ v, iAt args j = v := ⟨_, rfl⟩
      rw [hvv] at d0
      have HVV := Lib.hid hvv
      clear hvv
      have HJ : Hid (j < args.length) := by show _ < _; have := HNL.out; omega
      by_cases hr : 0 ≤ v ∧ v < (nv : Int)
      case neg =>
        have V : Hid (stpT ds sg sc (.mk op num 0 args ks) = -1) := stp_args _ _ _ _ _ _ _ _ (argsIn_neg (i := j) HJ.out (by rw [HVV.out]; have := HSL.out; omega))
        by_cases hr0 : v < 0
        · clear hr
          go_wp2_with fail
          exact fin_ hQ (stR_neg V.out KW.out)
        · have hr1 : (nv : Int) ≤ v := by omega
          have hr2 : ¬ v < (nv : Int) := by omega
          clear hr
          go_wp2_with fail
          exact fin_ hQ (stR_neg V.out KW.out)
      obtain ⟨hr0, hr1⟩ := hr
      obtain ⟨k, rfl⟩ := Int.eq_ofNat_of_zero_le hr0
      have hkn : k < nv := by omega
      obtain ⟨b2, o2, rfl, _, d2⟩ := (hv.ext KW.out (fun _ _ h => h)).at hkn
      obtain ⟨x, hx⟩ : ∃ x, iAt sc k = x := ⟨_, rfl⟩
      rw [hx] at d2
      have ET : Hid ((tysOf sc args).take (j + 1) = (tysOf sc args).take j ++ [x]) := by
        show _ = _
        have h2 : j < (tysOf sc args).length := by rw [tysOf_len]; exact HJ.out
        rw [List.take_succ_eq_append_getElem h2, ← iAt_eq h2, tysOf_at HJ.out, HVV.out]
        rw [← hx]; rfl
      have hI2 : Hid (∀ l, l < j + 1 → 0 ≤ iAt args l ∧ iAt args l < (sc.length : Int)) := fun l hl => by
        rcases Nat.lt_succ_iff_lt_or_eq.1 hl with h | rfl
        · exact hI.out l h
        · rw [HVV.out]; have := HSL.out; omega
      have hlr : ((tysOf sc args).take j).length = j := by rw [List.length_take, tysOf_len]; have := HJ.out; omega
      have HLR := Lib.hid hlr
      have KL := Keep.al wo (.cells #[.int .i64 x] 3)
      have hxt : IntsL (wo.alloc (.cells #[.int .i64 x] 3)) (fun _ => True) (some ⟨wo.heap.size, 0, none⟩) 1 [x] := (lit_intsD wo (fun _ => True) 3 [x] #[.int .i64 x] 1 trivial rfl rfl (by omega)).toInts
      have hv2 : (wo.alloc (.cells #[.int .i64 x] 3)).ownsRow (w.heap.size + 2) 3 1 u8 j (((tysOf sc args).take j).map (Value.int .i64)) := by
        have h := hV.out.k KL
        unfold VR at h
        rw [hlr] at h
        exact h
      have hzl : w.heap.size + 2 ≤ (wo.alloc (.cells #[.int .i64 x] 3)).heap.size := by have := HWZ.out; simp; omega
      have hKK := Lib.hid (KW.out.trans KL)
      have R0l := Lib.hid (row_ext R0w.out KL (fun h => h))
      have R1l := Lib.hid (row_ext R1w.out KL (fun h => h))
      have VL := Lib.hid (hV.out.k KL).lt
      clear hlr hx KL hV
      go_wp2_with (at_builtin; go_must (refine wpList_appInts _ rfl (.tmp 34) (.tmp 39) rfl (w.heap.size + 2) u8 j ((tysOf sc args).take j) rfl hv2 _ 1 1 [x] (fun _ => True) rfl hxt (by omega) hzl ?_); intro vn w7 ho hgr; have X7 := Lib.hid ((Ext.refl (fun k => w.heap.size + 2 ≤ k) _).grown hgr (fun k hk => .inr (VL.out k hk).1)); have HO := Lib.hid ho; clear ho hgr)
      go_roundw
      case rel => exact ⟨j + 1, by omega, by go_num, hI2, by
        show VR _ _ _ _
        unfold VR
        rw [ET.out, List.length_append, HLR.out]
        exact HO.out, hKK.out.then_ X7.out (fun q hq h => by omega), by show _ ≤ _; have := X7.out.size; omega, row_ext R0l.out X7.out (by omega), row_ext R1l.out X7.out (by omega)⟩
      case measure => simp [intOf]; omega
    · have HJ : Hid (j = na) := by show _ = _; omega
      have HARGS : Hid (argsIn sc args = true) := argsIn_iff.2 (fun i hi => hI.out i (by have := HJ.out; have := HNL.out; omega))
      have hV2 := hV.out
      rw [List.take_of_length_le (by rw [tysOf_len]; have := HJ.out; have := HNL.out; omega)] at hV2
      obtain ⟨tys, hty⟩ : ∃ tys, tysOf sc args = tys := ⟨_, rfl⟩
      have HTY := Lib.hid hty
      rw [hty] at hV2
      have htl : tys.length = na := by rw [← hty, tysOf_len]; exact HNL.out
      have HTA : Hid (allT ds.length tys = true) := by show _ = _; rw [← hty]; exact tysOf_all HAll.out HARGS.out
      obtain ⟨a8, c8, rfl, hc8, ho8⟩ := hV2.slice
      rw [htl] at ho8 hc8
      have QT : Hid (IntsL wo (fun k => (Value.slice a8 na c8).ownBlock = some k) a8 na tys) := ho8.read
      have HTL := Lib.hid htl
      rw [htl]
      clear hV hV2 hty ho8 hI htl
      have QP := Lib.hid (hp.k KW.out)
      have QV := Lib.hid (hv.ext KW.out (fun _ _ h => h))
      have QK := Lib.hid (hk.k KW.out)
      have x0 := R0w.out.cell (i := 0) (by simp)
      have x1 := R0w.out.cell (i := 1) (by simp)
      have y0 := R1w.out.cell (i := 0) (by simp)
      have y1 := R1w.out.cell (i := 1) (by simp)
      have y2 := R1w.out.cell (i := 2) (by simp)
      have y3 := R1w.out.cell (i := 3) (by simp)
      have y4 := R1w.out.cell (i := 4) (by simp)
      simp at x0 x1 y0 y1 y2 y3 y4
      have HBI : Hid (intoOk sc op 0 = true) := decide_eq_true (.inl rfl)
      clear HJ
      have hc : ¬ (14 ≤ op ∧ op ≤ 17) := by have := HH7.out; omega
      go_upto_region 11 with fail
      go_wp2_with fail
      refine (implIsCounting op _).mono ?_
      rw [decide_eq_false hc]
      rintro e w9 ⟨rfl, rfl⟩
      have HC := Lib.hid hc
      clear hc
      have h7 := HH7.out
      have q7 : (op == 7) = true := beq_iff_eq.2 h7
      have H7 := Lib.hid h7
      clear h7
      obtain ⟨b7, hb7⟩ : ∃ b7 : Bool, b7 = true ↔ ¬ (na = 1 ∧ iAt tys 0 = 0 ∧ num = 0 ∧ nk = 2) := ⟨decide (¬ (na = 1 ∧ iAt tys 0 = 0 ∧ num = 0 ∧ nk = 2)), decide_eq_true_iff⟩
      have HB7 := Lib.hid hb7
      clear hb7
      go_upto_region 18 with fail
      go_cut [141] (fun sb wx => sb = .bool b7 ∧ wo = wx)
      case first =>
        by_cases c1 : na = 1
        · replace c1 := Lib.hid c1
          have q1 : ((na : Int) != 1) = false := (by rw [bne_eq_false_iff_eq]; have := c1.out; omega)
          obtain ⟨b8, o8, rfl, _, d8⟩ := QT.out.at (i := 0) (by have := c1.out; omega)
          rw [Nat.add_zero] at d8
          obtain ⟨x, hx⟩ : ∃ x, iAt tys 0 = x := ⟨_, rfl⟩
          rw [hx] at d8
          have hn0' : (0 : Int) < (na : Int) := by have := c1.out; omega
          replace hx := Lib.hid hx
          by_cases c2 : x = 0
          · replace c2 := Lib.hid c2
            have q2 : (x != 0) = false := (by rw [c2.out]; exact bne_self_eq_false _)
            by_cases c3 : num = 0
            · replace c3 := Lib.hid c3
              have q3 : (num != 0) = false := (by rw [c3.out]; exact bne_self_eq_false _)
              by_cases c4 : nk = 2
              · replace c4 := Lib.hid c4
                have q4 : ((nk : Int) != 2) = false := (by rw [bne_eq_false_iff_eq]; have := c4.out; omega)
                have hbv : b7 = false := Bool.eq_false_iff.2 (fun h9 => absurd (HB7.out.1 h9) (fun h => h ⟨c1.out, hx.out.trans c2.out, c3.out, c4.out⟩))
                go_wp2_with fail
                go_meet
                case rel => exact ⟨by rw [hbv], rfl⟩
              · have q4 : ((nk : Int) != 2) = true := bne_iff_ne.2 (by omega)
                have hbv : b7 = true := HB7.out.2 (fun h => c4 h.2.2.2)
                go_wp2_with fail
                go_meet
                case rel => exact ⟨by rw [hbv], rfl⟩
            · have q3 : (num != 0) = true := bne_iff_ne.2 c3
              have hbv : b7 = true := HB7.out.2 (fun h => c3 h.2.2.1)
              go_wp2_with fail
              go_meet
              case rel => exact ⟨by rw [hbv], rfl⟩
          · have q2 : (x != 0) = true := bne_iff_ne.2 c2
            have hbv : b7 = true := HB7.out.2 (fun h => c2 (hx.out.symm.trans h.2.1))
            go_wp2_with fail
            go_meet
            case rel => exact ⟨by rw [hbv], rfl⟩
        · have q1 : ((na : Int) != 1) = true := bne_iff_ne.2 (by omega)
          have hbv : b7 = true := HB7.out.2 (fun h => c1 h.1)
          go_wp2_with fail
          go_meet
          case rel => exact ⟨by rw [hbv], rfl⟩
      case rest =>
      obtain ⟨rfl, rfl⟩ := hcut
      go_upto_if 141 with fail
      cases b7
      case true =>
        have V : Hid (stpT ds sg sc (.mk op num 0 args ks) = -1) := by
          show _ = _
          rw [stp_ifA H7.out HARGS.out HBI.out, if_neg (fun h => HB7.out.1 rfl ⟨by have h2 := congrArg List.length h.2.1; rw [HTY.out, HTL.out] at h2; exact h2, by rw [← HTY.out, h.2.1]; rfl, h.1, by have := HNK.out; have := h.2.2; omega⟩)]
        go_wp2_with fail
        exact fin_ hQ (stR_neg V.out KW.out)
      have HG7 : Hid (na = 1 ∧ iAt tys 0 = 0 ∧ num = 0 ∧ nk = 2) := Classical.byContradiction (fun h => by have h2 := HB7.out.2 h; cases h2)
      have hmk : ∀ w : World, (Instr.makeSlice 205 (.int .i64 2) (.int .i64 2)).run Tryz.prog w = .ok (.slice (some ⟨w.heap.size, 0, none⟩) 2 2) (w.alloc (.cells #[.slice none 0 0, .slice none 0 0] 52)) := fun _ => by kernel_rfl
      go_upto_region 20 with fail
      have KD : Keep wo wo.drew := (Ext.refl (fun _ => False) wo).drew
      replace QP := Lib.hid (QP.out.k KD)
      replace QV := Lib.hid (QV.out.ext KD (fun _ _ h => h))
      replace QK := Lib.hid (QK.out.k KD)
      replace x0 : wo.drew.cell? ⟨w.heap.size, 0, none⟩ = some (.slice a0 n0 c0) := x0
      replace x1 : wo.drew.cell? ⟨w.heap.size, 1, none⟩ = some (.slice a1 n1 c1) := x1
      replace y4 : wo.drew.cell? ⟨w.heap.size + 1, 4, none⟩ = some (.slice ak nk ck) := y4
      clear y0 y1 y2 y3
      refine wp_region_held_drew (S := fun w' => w'.cell? ⟨w.heap.size, 0, none⟩ = some (.slice a0 n0 c0) ∧ w'.cell? ⟨w.heap.size, 1, none⟩ = some (.slice a1 n1 c1) ∧ w'.cell? ⟨w.heap.size + 1, 4, none⟩ = some (.slice ak nk ck)) (by kernel_rfl) ⟨x0, x1, y4⟩ (fun hHeld => ?_)
      have pc : Hid (Keep wo.drew wo.drew) := Ext.refl _ _
      generalize wo.drew = W0 at *
      refine wT 0 hHeld ?_
      try go_frame
      refine wT 1 hHeld ?_
      try go_frame
      refine wT 2 hHeld ?_
      try go_frame
      refine wT 3 hHeld ?_
      try go_frame
      refine wO 4 (fun K0 hK0 => ?_)
      go_simp
      obtain ⟨y1, hW⟩ : ∃ N, N = W0.alloc (.cells #[.slice none 0 0, .slice none 0 0] 52) := ⟨_, rfl⟩
      obtain ⟨sl, hsl⟩ : ∃ s, s = W0.heap.size := ⟨_, rfl⟩
      rw [← hsl, ← hW]
      have QM : Hid (Rd y1 (fun _ => True) (encCons [[], []]) (.slice (some ⟨sl, 0, none⟩) 2 2)) := by
        rw [hW, hsl]
        exact (lit_cons W0 0 52 [[], []] [.slice none 0 0, .slice none 0 0] 2 (Nat.zero_le _) ⟨_, _, rfl, .nil 1 none 0, _, _, rfl, .nil 1 none 0, rfl⟩ rfl (by omega)).t
      have kk : Keep W0 y1 := by rw [hW]; exact Keep.al _ _
      replace pc := Lib.hid (pc.out.trans kk)
      replace QP := Lib.hid (QP.out.k kk)
      replace QV := Lib.hid (QV.out.ext kk (fun _ _ h => h))
      replace QK := Lib.hid (QK.out.k kk)
      clear kk hW hsl
      refine hK0.out _ _ ⟨pc.out.cq x0 (fun h => h), pc.out.cq x1 (fun h => h), pc.out.cq y4 (fun h => h)⟩ (fun hHeld => ?_)
      clear hK0
      try go_frame
      refine wO 5 (fun K0 hK0 => ?_)
      go_simp
      go_at_call 190
      refine (implKids ds sg ks IH.out a0 n0 c0 a1 n1 c1 av nv cv sc ak nk ck _ 2 2 [[], []] y1 QP.out QV.out QK.out QM.out (by have := HG7.out.2.2.2; have := HNK.out; simp; omega) (by have := HG7.out.2.2.2; have := HNK.out; omega) HLen.out HAll.out (fun i hi => by
        have hi2 : i < 2 := by simpa using hi
        rcases (show i = 0 ∨ i = 1 by omega) with h | h <;> (rw [h]; exact ⟨by simp [cAt], rfl⟩))).mono ?_
      rintro e y2 ⟨t, ok, rfl, hok1, hok2, kk⟩
      have HO1 := Lib.hid hok1
      have HO2 := Lib.hid hok2
      replace pc := Lib.hid (pc.out.trans kk)
      clear kk hok1 hok2
      refine hK0.out _ _ ⟨pc.out.cq x0 (fun h => h), pc.out.cq x1 (fun h => h), pc.out.cq y4 (fun h => h)⟩ (fun hHeld => ?_)
      clear hK0
      try go_frame
      refine wT 6 hHeld ?_
      try go_frame
      refine wT 7 hHeld ?_
      try go_frame
      refine wT 8 hHeld ?_
      try go_frame
      refine wT 9 hHeld ?_
      try go_frame
      refine wpAnyH_done (by kernel_rfl) ?_ _
      have KE := Lib.hid (KW.out.trans (KD.trans pc.out))
      have V : Hid (stpT ds sg sc (.mk op num 0 args ks) = oneT (armT ds sg sc ks [[], []])) := by
        show _ = _
        rw [stp_ifA H7.out HARGS.out HBI.out, if_pos ⟨HG7.out.2.2.1, by rw [HTY.out]; exact ints_one (by have := HTL.out; have := HG7.out.1; omega) HG7.out.2.1, by have := HNK.out; have := HG7.out; omega⟩]
      go_wp2_with fail
      exact fin_ hQ (stR_any (by rw [V.out]; exact HO1.out) (fun h => by rw [V.out]; exact HO2.out h) KE.out)
end
end Go.Proofs.YtkapldpmjkdmcaaGreat
