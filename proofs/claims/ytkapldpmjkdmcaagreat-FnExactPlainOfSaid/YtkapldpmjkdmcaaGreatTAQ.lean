/- The program's types of steps: constructors that are put into a cell. -/
import Derived.Test.YtkapldpmjkdmcaaGreatTAN
import Derived.Test.YtkapldpmjkdmcaaGreatTAO
import Derived.Test.YtkapldpmjkdmcaaGreatTAP
import Derived.Test.YtkapldpmjkdmcaaGreatTAG
import Derived.Test.YtkapldpmjkdmcaaGreatTAJ
import Derived.Test.YtkapldpmjkdmcaaGreatTAB
import Derived.Test.YtkapldpmjkdmcaaGreatTAK
import Derived.Test.YtkapldpmjkdmcaaGreatTAC
import Derived.Deep.Slices
import Derived.ChangeSame
import Derived.ChangeSlices
import Derived.ChangeArms
import Derived.Deep.RegionHeld3
import Derived.Test.YtkapldpmjkdmcaaGreatTAD
namespace Go.Proofs.YtkapldpmjkdmcaaGreat
open Go.RowKit

section
variable (ds : List DeclL) (sg : List SigL) (hok : sigsOk ds sg = true)
include hok

set_option maxRecDepth 100000 in
set_option maxHeartbeats 1500000 in
theorem implStep_c (op num into : Int) (args : List Int) (ks : List BlockL) (hos : okS (.mk op num into args ks)) (IH0 : ∀ j, j < ks.length → BlI ds sg (bAt ks j).result (bAt ks j).steps) (a0 : Option Addr) (n0 c0 : Nat) (a1 : Option Addr) (n1 c1 : Nat) (av : Option Addr) (nv cv : Nat) (sc : List Int) (aa : Option Addr) (na ca : Nat) (ak : Option Addr) (nk ck : Nat) (w : World) (hp : SR w (fun _ => True) ds sg a0 n0 c0 a1 n1 c1) (hv : IntsL w (fun _ => True) av nv sc) (ha : Rd w (fun _ => True) (encInts args) (.slice aa na ca)) (hk : Rd w (fun _ => True) (encBlocks ks) (.slice ak nk ck)) (hlen : sc.length + 4 * (nBs ks + 1) ≤ 1052000) (hall : allT ds.length sc = true) (h6 : op = 6) (h0 : into ≠ 0) (hi : intoOk sc op into = true) :
    Calls Tryz.prog 134 #[.agg #[.slice a0 n0 c0, .slice a1 n1 c1], .slice av nv cv, .agg #[.int .i64 op, .int .i64 num, .int .i64 into, .slice aa na ca, .slice ak nk ck]] w (StR ds sg sc (.mk op num into args ks) w) := by
  have HHI := Lib.hid hi
  have HH6 := Lib.hid h6
  have H0' := Lib.hid h0
  have HH6' : Hid (1 ≤ into ∧ into ≤ (sc.length : Int) ∧ 0 < iAt sc (into.toNat - 1)) := by
    rcases of_decide_eq_true hi with h | h
    · exact absurd h h0
    · exact ⟨by omega, by omega, by have := h.2.2.2; omega⟩
  clear hi h6 h0
  refine calls_k fun Q hQ => ?_
  rw [okS] at hos
  have ht := (sigsOk_parts hok).1
  have hf := Few.of_ok ht
  have hn0 : n0 ≤ 4 := by have := (decls_at hp.1).1; have := typesOk_len ht; omega
  have hn1 : n1 ≤ 4 := by have := (sigs_at hp.2).1; have := (sigsOk_parts hok).2.2.1; omega
  have hnv : nv ≤ 1052000 := by have := hv.1; omega
  have hna : na ≤ 1048576 := by have := (ints_at ha).1; have := hos.2.1; omega
  have HNL : Hid (args.length = na) := (ints_at ha).1
  have HSL : Hid (sc.length = nv) := hv.1
  have HNK : Hid (ks.length = nk) := (blocks_at hk).1
  have hnk : nk ≤ 9223372036854775807 := (blocks_at hk).2.2.1
  have HFN := Lib.hid hos.1
  have HOK := Lib.hid hok
  have HAll := Lib.hid hall
  have HLen := Lib.hid hlen
  have HT := Lib.hid ht
  have HF := Lib.hid hf
  have IH := Lib.hid IH0
  have K0 := Lib.hid ((Keep.al w (.cells #[.slice a0 n0 c0, .slice a1 n1 c1] 130)).trans (Keep.al _ (.cells #[.int .i64 op, .int .i64 num, .int .i64 into, .slice aa na ca, .slice ak nk ck] 136)))
  have R0 := (rowOf w #[.slice a0 n0 c0, .slice a1 n1 c1] 130).alloc (.cells #[.int .i64 op, .int .i64 num, .int .i64 into, .slice aa na ca, .slice ak nk ck] 136)
  have R1 := rowOf (w.alloc (.cells #[.slice a0 n0 c0, .slice a1 n1 c1] 130)) #[.int .i64 op, .int .i64 num, .int .i64 into, .slice aa na ca, .slice ak nk ck] 136
  simp only [World.size_alloc] at R1
  have R0a := Lib.hid R0
  have R1a := Lib.hid R1
  have ya := R1.cell (i := 3) (by simp)
  simp at ya
  have hzm : w.heap.size + 2 ≤ ((w.alloc (.cells #[.slice a0 n0 c0, .slice a1 n1 c1] 130)).alloc (.cells #[.int .i64 op, .int .i64 num, .int .i64 into, .slice aa na ca, .slice ak nk ck] 136)).heap.size := by simp
  clear hok hall ht IH0 hf hos R0 R1
  go_enter Tryz.func134, Tryz.ntmps134
  obtain ⟨iI, hiI, hz0I, hz1I, hz2I⟩ := info_parts (show (Tryz.prog.info? 3).map (fun i => (i.zero, i.size, i.bytes)) = some (some (.int .i64 0), 1, 8) by kernel_rfl)
  go_wp2_with (at_make; go_must (refine wpList_make_own _ rfl _ _ 52 rfl (w.heap.size + 2) 3 iI (.int .i64 0) 1 Tryz.underlying52 hiI hz0I hz1I .i64 .i64 na na rfl rfl rfl (by rw [hz2I]; omega) (by simp only [maxLen]; omega) hzm ?_); intro wm how hgw; have KG := Ext.grown (Ext.refl (fun _ => False) _) hgw (fun k hk => by cases hk); have VM : Hid (VR wm (w.heap.size + 2) (.slice (some ⟨w.heap.size + 1 + 1, 0, none⟩) 0 na) ((tysOf sc args).take 0)) := (by have h := how; simp only [World.size_alloc] at h; exact h); have KM := Lib.hid (K0.out.trans KG); have HWM : Hid (w.heap.size + 2 ≤ wm.heap.size) := Nat.le_trans hzm KG.size; have R0M := Lib.hid (row_ext R0a.out KG (fun h => h)); have R1M := Lib.hid (row_ext R1a.out KG (fun h => h)); have yb := R1M.out.cell (i := 3) (by simp); simp at yb; clear how hgw KG ya)
  go_loopw [8, 22] (fun sv iv wr => ∃ (j : Nat), j ≤ na ∧ iv = .int .i64 j ∧ Hid (∀ l, l < j → 0 ≤ iAt args l ∧ iAt args l < (sc.length : Int)) ∧ Hid (VR wr (w.heap.size + 2) sv ((tysOf sc args).take j)) ∧ Hid (Keep w wr) ∧ Hid (w.heap.size + 2 ≤ wr.heap.size) ∧ Hid (wr.rowIs w.heap.size 130 2 (fun i => (#[.slice a0 n0 c0, .slice a1 n1 c1] : Array Value).getD i undef)) ∧ Hid (wr.rowIs (w.heap.size + 1) 136 5 (fun i => (#[.int .i64 op, .int .i64 num, .int .i64 into, .slice aa na ca, .slice ak nk ck] : Array Value).getD i undef))) (fun _ iv _ => na - (intOf iv).toNat)
  case atStart => exact ⟨0, Nat.zero_le _, rfl, (show ∀ l, l < 0 → _ from fun l hl => absurd hl (by omega)), VM, KM, HWM, R0M, R1M⟩
  case round =>
    obtain ⟨j, hj, rfl, hI, hV, KW, HWZ, R0w, R1w⟩ := hrel
    obtain ⟨wo, rfl⟩ : ∃ wo : World, wo = wr := ⟨_, rfl⟩
    clear VM KM HWM R0M R1M yb
    by_cases hlt : j < na
    · obtain ⟨b, o, rfl, _, d0⟩ := (ha.toInts.ext KW.out (fun _ _ h => h)).at hlt
      obtain ⟨v, hvv⟩ : ∃ v, iAt args j = v := ⟨_, rfl⟩
      rw [hvv] at d0
      have HVV := Lib.hid hvv
      clear hvv
      have HJ : Hid (j < args.length) := by show _ < _; have := HNL.out; omega
      by_cases hr : 0 ≤ v ∧ v < (nv : Int)
      case neg =>
        have V : Hid (stpT ds sg sc (.mk op num into args ks) = -1) := stp_args _ _ _ _ _ _ _ _ (argsIn_neg (i := j) HJ.out (by rw [HVV.out]; have := HSL.out; omega))
        by_cases hr0 : v < 0
        · clear hr
          go_wp2_with fail
          exact fin_ hQ (stR_neg V.out KW.out)
        · have hr1 : (nv : Int) ≤ v := by omega
          have hr2 : ¬ v < (nv : Int) := by omega
          clear hr
          go_wp2_with fail
          exact fin_ hQ (stR_neg V.out KW.out)
      obtain ⟨hr0, hr1⟩ := hr
      obtain ⟨k, rfl⟩ := Int.eq_ofNat_of_zero_le hr0
      have hkn : k < nv := by omega
      obtain ⟨b2, o2, rfl, _, d2⟩ := (hv.ext KW.out (fun _ _ h => h)).at hkn
      obtain ⟨x, hx⟩ : ∃ x, iAt sc k = x := ⟨_, rfl⟩
      rw [hx] at d2
      have ET : Hid ((tysOf sc args).take (j + 1) = (tysOf sc args).take j ++ [x]) := by
        show _ = _
        have h2 : j < (tysOf sc args).length := by rw [tysOf_len]; exact HJ.out
        rw [List.take_succ_eq_append_getElem h2, ← iAt_eq h2, tysOf_at HJ.out, HVV.out]
        rw [← hx]; rfl
      have hI2 : Hid (∀ l, l < j + 1 → 0 ≤ iAt args l ∧ iAt args l < (sc.length : Int)) := fun l hl => by
        rcases Nat.lt_succ_iff_lt_or_eq.1 hl with h | rfl
        · exact hI.out l h
        · rw [HVV.out]; have := HSL.out; omega
      have hlr : ((tysOf sc args).take j).length = j := by rw [List.length_take, tysOf_len]; have := HJ.out; omega
      have HLR := Lib.hid hlr
      have KL := Keep.al wo (.cells #[.int .i64 x] 3)
      have hxt : IntsL (wo.alloc (.cells #[.int .i64 x] 3)) (fun _ => True) (some ⟨wo.heap.size, 0, none⟩) 1 [x] := (lit_intsD wo (fun _ => True) 3 [x] #[.int .i64 x] 1 trivial rfl rfl (by omega)).toInts
      have hv2 : (wo.alloc (.cells #[.int .i64 x] 3)).ownsRow (w.heap.size + 2) 3 1 u8 j (((tysOf sc args).take j).map (Value.int .i64)) := by
        have h := hV.out.k KL
        unfold VR at h
        rw [hlr] at h
        exact h
      have hzl : w.heap.size + 2 ≤ (wo.alloc (.cells #[.int .i64 x] 3)).heap.size := by have := HWZ.out; simp; omega
      have hKK := Lib.hid (KW.out.trans KL)
      have R0l := Lib.hid (row_ext R0w.out KL (fun h => h))
      have R1l := Lib.hid (row_ext R1w.out KL (fun h => h))
      have VL := Lib.hid (hV.out.k KL).lt
      clear hlr hx KL hV
      go_wp2_with (at_builtin; go_must (refine wpList_appInts _ rfl (.tmp 34) (.tmp 39) rfl (w.heap.size + 2) u8 j ((tysOf sc args).take j) rfl hv2 _ 1 1 [x] (fun _ => True) rfl hxt (by omega) hzl ?_); intro vn w7 ho hgr; have X7 := Lib.hid ((Ext.refl (fun k => w.heap.size + 2 ≤ k) _).grown hgr (fun k hk => .inr (VL.out k hk).1)); have HO := Lib.hid ho; clear ho hgr)
      go_roundw
      case rel => exact ⟨j + 1, by omega, by go_num, hI2, by
        show VR _ _ _ _
        unfold VR
        rw [ET.out, List.length_append, HLR.out]
        exact HO.out, hKK.out.then_ X7.out (fun q hq h => by omega), by show _ ≤ _; have := X7.out.size; omega, row_ext R0l.out X7.out (by omega), row_ext R1l.out X7.out (by omega)⟩
      case measure => simp [intOf]; omega
    · have HJ : Hid (j = na) := by show _ = _; omega
      have HARGS : Hid (argsIn sc args = true) := argsIn_iff.2 (fun i hi => hI.out i (by have := HJ.out; have := HNL.out; omega))
      have hV2 := hV.out
      rw [List.take_of_length_le (by rw [tysOf_len]; have := HJ.out; have := HNL.out; omega)] at hV2
      obtain ⟨tys, hty⟩ : ∃ tys, tysOf sc args = tys := ⟨_, rfl⟩
      have HTY := Lib.hid hty
      rw [hty] at hV2
      have htl : tys.length = na := by rw [← hty, tysOf_len]; exact HNL.out
      have HTA : Hid (allT ds.length tys = true) := by show _ = _; rw [← hty]; exact tysOf_all HAll.out HARGS.out
      obtain ⟨a8, c8, rfl, hc8, ho8⟩ := hV2.slice
      rw [htl] at ho8 hc8
      have QT : Hid (IntsL wo (fun k => (Value.slice a8 na c8).ownBlock = some k) a8 na tys) := ho8.read
      have HTL := Lib.hid htl
      rw [htl]
      clear hV hV2 hty ho8 hI htl
      have QP := Lib.hid (hp.k KW.out)
      have QV := Lib.hid (hv.ext KW.out (fun _ _ h => h))
      have QK := Lib.hid (hk.k KW.out)
      have x0 := R0w.out.cell (i := 0) (by simp)
      have x1 := R0w.out.cell (i := 1) (by simp)
      have y0 := R1w.out.cell (i := 0) (by simp)
      have y1 := R1w.out.cell (i := 1) (by simp)
      have y2 := R1w.out.cell (i := 2) (by simp)
      have y3 := R1w.out.cell (i := 3) (by simp)
      have y4 := R1w.out.cell (i := 4) (by simp)
      simp at x0 x1 y0 y1 y2 y3 y4
      have HBI : Hid (intoOk sc op into = true) := HHI.out
      have q0 : (into != 0) = true := bne_iff_ne.2 H0'.out
      have q1 : (op != 6) = false := by rw [HH6.out]; exact bne_self_eq_false _
      obtain ⟨k, rfl⟩ : ∃ k : Nat, into = (k : Int) + 1 := ⟨(into - 1).toNat, by have := HH6'.out.1; omega⟩
      have e2 : ¬ ((k : Int) + 1 < 1) := by omega
      have hkn : k < nv := by have := HH6'.out.2.1; have := HSL.out; omega
      have e3 : ¬ ((nv : Int) < (k : Int) + 1) := by omega
      obtain ⟨b2, o2, rfl, _, d2⟩ := QV.out.at hkn
      obtain ⟨x, hx⟩ : ∃ x, iAt sc k = x := ⟨_, rfl⟩
      rw [hx] at d2
      have hx0 : x ≠ 0 := by have h1 := HH6'.out.2.2; rw [show ((k : Int) + 1).toNat - 1 = k by omega, hx] at h1; omega
      have hw1 : IntKind.i64.wrap (k : Int) = (k : Int) := by rw [IntWalk.i64_in _ (by omega)]
      have hw2 : (0 : Int) ≤ (k : Int) := by omega
      have hw3 : (k : Int) < (nv : Int) := by omega
      have q4 : (x == 0) = false := beq_eq_false_iff_ne.2 hx0
      clear hx hx0
      clear HJ
      have hc : ¬ (14 ≤ op ∧ op ≤ 17) := by have := HH6.out; omega
      go_upto_region 11 with fail
      go_wp2_with fail
      refine (implIsCounting op _).mono ?_
      rw [decide_eq_false hc]
      rintro e w9 ⟨rfl, rfl⟩
      have HC := Lib.hid hc
      clear hc
      have h7 : op ≠ 7 := by have := HH6.out; omega
      have h8 : op ≠ 8 := by have := HH6.out; omega
      have q7 : (op == 7) = false := beq_eq_false_iff_ne.2 h7
      have q8 : (op == 8) = false := beq_eq_false_iff_ne.2 h8
      have q10 : (op == 10) = false := beq_eq_false_iff_ne.2 (by have := HH6.out; omega)
      have H8 := Lib.hid h8
      have H7 := Lib.hid h7
      clear h8 h7
      by_cases c0 : 0 < nk
      · have q0 : (0 : Int) < (nk : Int) := by omega
        have V : Hid (stpT ds sg sc (.mk op num ((k : Int) + 1) args ks) = -1) := stp_kids _ _ _ _ _ _ _ _ H7.out H8.out (by have := HNK.out; omega)
        go_wp2_with fail
        exact fin_ hQ (stR_neg V.out KW.out)
      have HGL : Hid (¬ 0 < nk) := c0
      have q0 : ¬ (0 : Int) < (nk : Int) := by omega
      have V : Hid (stpT ds sg sc (.mk op num ((k : Int) + 1) args ks) = simpleL ds sg op num tys) := by
        show _ = _
        rw [stp_leaf _ _ _ _ _ _ _ _ HARGS.out HBI.out H7.out H8.out (by have := HNK.out; have h2 := HGL.out; omega), HTY.out]
        exact leafL_simple HC.out (fun h => by have := HH6.out; have := h.1; omega) tys
      clear c0
      go_wp2_with fail
      refine (implSimple ds sg HOK.out op num HFN.out tys _ a0 n0 c0 a1 n1 c1 a8 na c8 _ wo QP.out QT.out (by omega)).mono ?_
      rintro e w3 ⟨t, ok, rfl, hok1, hok2, kk⟩
      have HO1 := Lib.hid hok1
      have HO2 := Lib.hid hok2
      have KE := Lib.hid (KW.out.trans kk)
      clear kk hok1 hok2
      go_wp2_with fail
      exact fin_ hQ (stR_any (by rw [V.out]; exact HO1.out) (fun h => by rw [V.out]; exact HO2.out h) KE.out)
end
end Go.Proofs.YtkapldpmjkdmcaaGreat
/- The program's types of steps. -/
namespace Go.Proofs.YtkapldpmjkdmcaaGreat
open Go.RowKit

section
variable (ds : List DeclL) (sg : List SigL) (hok : sigsOk ds sg = true)
include hok

theorem implStp (s : StepL) (hos : okS s) (IH0 : ∀ j, j < s.kids.length → BlI ds sg (bAt s.kids j).result (bAt s.kids j).steps) : StI ds sg s := by
  obtain ⟨op, num, into, args, ks⟩ := s
  intro a0 n0 c0 a1 n1 c1 av nv cv sc aa na ca ak nk ck w hp hv ha hk hlen hall
  change ∀ j, j < ks.length → BlI ds sg (bAt ks j).result (bAt ks j).steps at IH0
  change Rd w (fun _ => True) (encInts args) _ at ha
  change Rd w (fun _ => True) (encBlocks ks) _ at hk
  rw [nS] at hlen
  cases hi : intoOk sc op into
  · exact implStep_bad ds sg hok op num into args ks hos IH0 a0 n0 c0 a1 n1 c1 av nv cv sc aa na ca ak nk ck w hp hv ha hk hlen hall hi
  · by_cases hsp : (14 ≤ op ∧ op ≤ 17) ∨ op = 7 ∨ op = 8
    · have h0 : into = 0 := by
        rcases of_decide_eq_true hi with h | h
        · exact h
        · omega
      subst h0
      rcases hsp with h | h | h
      · exact implStep_cnt ds sg hok op num args ks hos IH0 a0 n0 c0 a1 n1 c1 av nv cv sc aa na ca ak nk ck w hp hv ha hk hlen hall h
      · exact implStep_7 ds sg hok op num args ks hos IH0 a0 n0 c0 a1 n1 c1 av nv cv sc aa na ca ak nk ck w hp hv ha hk hlen hall h
      · exact implStep_8 ds sg hok op num args ks hos IH0 a0 n0 c0 a1 n1 c1 av nv cv sc aa na ca ak nk ck w hp hv ha hk hlen hall h
    · by_cases h0 : into = 0
      · subst h0
        exact implStep_o ds sg hok op num args ks hos IH0 a0 n0 c0 a1 n1 c1 av nv cv sc aa na ca ak nk ck w hp hv ha hk hlen hall (fun h => hsp (.inl h)) (fun h => hsp (.inr (.inl h))) (fun h => hsp (.inr (.inr h)))
      · have h6 : op = 6 := by
          rcases of_decide_eq_true hi with h | h
          · exact absurd h h0
          · exact h.1
        exact implStep_c ds sg hok op num into args ks hos IH0 a0 n0 c0 a1 n1 c1 av nv cv sc aa na ca ak nk ck w hp hv ha hk hlen hall h6 h0 hi
end
end Go.Proofs.YtkapldpmjkdmcaaGreat
/- The program's types of blocks. -/
namespace Go.Proofs.YtkapldpmjkdmcaaGreat
open Go.RowKit

theorem stp_ops {ds : List DeclL} {sg : List SigL} {sc : List Int} (s : StepL) (h : 0 ≤ stpT ds sg sc s) : (0 ≤ s.op ∧ s.op ≤ 11) ∨ (14 ≤ s.op ∧ s.op ≤ 17) := by
  obtain ⟨op, num, into, args, ks⟩ := s
  show (0 ≤ op ∧ op ≤ 11) ∨ (14 ≤ op ∧ op ≤ 17)
  refine Classical.byContradiction fun hn => ?_
  have ho : op < 0 ∨ op = 7 ∨ op = 8 ∨ op = 12 ∨ op = 13 ∨ 17 < op := by omega
  have e : stpT ds sg sc (.mk op num into args ks) = -1 := by
    cases hi : intoOk sc op into
    · exact stp_into _ _ _ _ _ _ _ _ hi
    · by_cases hk : 0 < ks.length
      · exact stp_kids _ _ _ _ _ _ _ _ (by omega) (by omega) hk
      · rw [stp_rout _ _ _ _ _ _ _ _ hi (by omega) (by omega) (by omega)]
        exact routS_other _ _ _ _ _ ho
  omega
theorem nSs_len2 (ss : List StepL) : ss.length ≤ nSs ss := by
  induction ss with
  | nil => simp
  | cons s ss ih => rw [nSs, nS_eq]; simp; omega

section
variable (ds : List DeclL) (sg : List SigL) (hok : sigsOk ds sg = true)
include hok
set_option maxRecDepth 100000 in
set_option maxHeartbeats 1000000 in
theorem implBlk_of (res : Int) (ss : List StepL) (IH0 : ∀ j, j < ss.length → StI ds sg (sAt ss j)) : BlI ds sg res ss := by
  intro a0 n0 c0 a1 n1 c1 av nv cv sc a n c w hp hv hs hlen hall
  refine calls_k fun Q hQ => ?_
  obtain ⟨e1, hnc, hnm, hat⟩ := steps_at hs
  have HL := Lib.hid e1
  have HA := Lib.hid hat
  have IH := Lib.hid IH0
  have HOK := Lib.hid hok
  have hnl : n ≤ 263000 := by have := nSs_len2 ss; omega
  have hnv : nv ≤ 1052000 := by have := hv.1; omega
  have K0 := (Keep.al w (.cells #[.slice a0 n0 c0, .slice a1 n1 c1] 130)).trans (Keep.al _ (.cells #[.slice a n c, .int .i64 res] 69))
  have R0 := (rowOf w #[.slice a0 n0 c0, .slice a1 n1 c1] 130).alloc (.cells #[.slice a n c, .int .i64 res] 69)
  have R1 := rowOf (w.alloc (.cells #[.slice a0 n0 c0, .slice a1 n1 c1] 130)) #[.slice a n c, .int .i64 res] 69
  simp only [World.size_alloc] at R1
  have R0a := Lib.hid R0
  have R1a := Lib.hid R1
  have hv0 := hv.ext K0 (fun _ _ h => h)
  have HLen := Lib.hid hlen
  have HAll := Lib.hid hall
  have hzm : ((w.alloc (.cells #[.slice a0 n0 c0, .slice a1 n1 c1] 130)).alloc (.cells #[.slice a n c, .int .i64 res] 69)).heap.size = w.heap.size + 2 := by simp
  obtain ⟨Z, hZ⟩ : ∃ Z, runT ds sg res sc ss = Z := ⟨_, rfl⟩
  have HZ := Lib.hid hZ
  rw [hZ] at hQ
  clear e1 hat IH0 hlen hall hs R0 R1 hZ
  go_enter Tryz.func85, Tryz.ntmps85
  go_wp2_with fail
  refine (cloneInts _ _ _ _ _ _ hv0 hnv).mono ?_
  rintro e w1 ⟨v7, rfl, o7, k1⟩
  have hs1 := k1.size
  have hw1 : w.heap.size + 2 ≤ w1.heap.size := by omega
  have V7 : Hid (VR w1 (w.heap.size + 2) v7 sc) := by
    show VR _ _ _ _
    rw [← hzm]; exact o7
  have KA := Lib.hid (K0.trans k1)
  have R0b := Lib.hid (row_ext R0a.out k1 (fun h => h))
  have R1b := Lib.hid (row_ext R1a.out k1 (fun h => h))
  have HDR : Hid (runT ds sg res sc (ss.drop 0) = Z) := by show _ = _; rw [List.drop_zero]; exact HZ.out
  have HBN : Hid (sc.length + 4 * nSs (ss.drop 0) ≤ 1052000) := by show _ ≤ _; rw [List.drop_zero]; exact HLen.out
  have y0 := R1b.out.cell (i := 0) (by simp)
  simp at y0
  clear o7 k1 hv0 K0 R0a R1a hzm hs1
  go_wp2_with fail
  go_loopw [7, 17] (fun sv iv wr => ∃ (j : Nat) (scj : List Int), j ≤ n ∧ iv = .int .i64 j ∧ Hid (VR wr (w.heap.size + 2) sv scj) ∧ Hid (runT ds sg res scj (ss.drop j) = Z) ∧ Hid (scj.length + 4 * nSs (ss.drop j) ≤ 1052000) ∧ Hid (allT ds.length scj = true) ∧ Hid (Keep w wr) ∧ Hid (w.heap.size + 2 ≤ wr.heap.size) ∧ Hid (wr.rowIs w.heap.size 130 2 (fun i => (#[.slice a0 n0 c0, .slice a1 n1 c1] : Array Value).getD i undef)) ∧ Hid (wr.rowIs (w.heap.size + 1) 69 2 (fun i => (#[.slice a n c, .int .i64 res] : Array Value).getD i undef))) (fun _ iv _ => n - (intOf iv).toNat)
  case atStart => exact ⟨0, sc, Nat.zero_le _, rfl, V7, HDR, HBN, HAll, KA, hw1, R0b, R1b⟩
  case round =>
    obtain ⟨j, scj, hj, rfl, VV, HD, HB, HAJ, KW, HWZ, R0w, R1w⟩ := hrel
    obtain ⟨wo, rfl⟩ : ∃ wo : World, wo = wr := ⟨_, rfl⟩
    clear V7 HDR HBN KA R0b R1b y0
    obtain ⟨a7, c7, rfl, hc7, ho7⟩ := VV.out.slice
    have hsl : scj.length ≤ 1052000 := by have := HB.out; omega
    by_cases hlt : j < n
    · have HJ : Hid (j < ss.length) := by show _ < _; rw [HL.out]; exact hlt
      obtain ⟨b, o, rfl, _, a3, n3, c3, a4, n4, c4, d0, d1, d2, d3, d4, r3, r4⟩ := HA.out j hlt
      have HNS := Lib.hid (nSs_drop ss HJ.out)
      have HSB : Hid (scj.length + 4 * nS (sAt ss j) ≤ 1052000) := by show _ ≤ _; have := HB.out; have := HNS.out; omega
      have HRT := Lib.hid (runT_at ds sg res scj HJ.out)
      have KB := Keep.al wo (.cells #[.int .i64 (sAt ss j).op, .int .i64 (sAt ss j).num, .int .i64 (sAt ss j).into, .slice a3 n3 c3, .slice a4 n4 c4] 136)
      have KE := KW.out.trans KB
      have QP := Lib.hid (hp.k KE)
      have QV : Hid (IntsL (wo.alloc (.cells #[.int .i64 (sAt ss j).op, .int .i64 (sAt ss j).num, .int .i64 (sAt ss j).into, .slice a3 n3 c3, .slice a4 n4 c4] 136)) (fun _ => True) a7 scj.length scj) := (ho7.read.mono (D' := fun _ => True) (fun _ _ => trivial)).ext KB (fun _ _ h => h)
      have QA := Lib.hid (r3.k KE)
      have QK := Lib.hid (r4.k KE)
      have g0 := KW.out.cq d0 (fun h => h)
      have g1 := KW.out.cq d1 (fun h => h)
      have g2 := KW.out.cq d2 (fun h => h)
      have g3 := KW.out.cq d3 (fun h => h)
      have g4 := KW.out.cq d4 (fun h => h)
      have VB := Lib.hid (VV.out.k KB)
      have KX := Lib.hid KE
      have R0x := Lib.hid (row_ext R0w.out KB (fun h => h))
      have R1x := Lib.hid (row_ext R1w.out KB (fun h => h))
      have HWX : Hid (w.heap.size + 2 ≤ (wo.alloc (.cells #[.int .i64 (sAt ss j).op, .int .i64 (sAt ss j).num, .int .i64 (sAt ss j).into, .slice a3 n3 c3, .slice a4 n4 c4] 136)).heap.size) := Nat.le_trans HWZ.out KB.size
      have RS := rowOf wo #[.int .i64 (sAt ss j).op, .int .i64 (sAt ss j).num, .int .i64 (sAt ss j).into, .slice a3 n3 c3, .slice a4 n4 c4] 136
      clear d0 d1 d2 d3 d4 r3 r4 KE KB ho7 VV
      go_upto_region 5 with fail
      have RS0 := Lib.hid RS
      clear RS
      generalize hW : wo.alloc (.cells #[.int .i64 (sAt ss j).op, .int .i64 (sAt ss j).num, .int .i64 (sAt ss j).into, .slice a3 n3 c3, .slice a4 n4 c4] 136) = W at *
      clear hW g0 g1 g2 g3 g4
      generalize hs9 : wo.heap.size = s9 at *
      have x0 := R0x.out.cell (i := 0) (by simp)
      have x1 := R0x.out.cell (i := 1) (by simp)
      have z0 := RS0.out.cell (i := 0) (by simp)
      have z1 := RS0.out.cell (i := 1) (by simp)
      have z2 := RS0.out.cell (i := 2) (by simp)
      have z3 := RS0.out.cell (i := 3) (by simp)
      have z4 := RS0.out.cell (i := 4) (by simp)
      simp at x0 x1 z0 z1 z2 z3 z4
      clear RS0
      clear hs9
      go_wp2_with fail
      refine (IH.out j HJ.out _ _ _ _ _ _ a7 _ c7 scj _ _ _ _ _ _ W QP.out QV.out QA.out QK.out HSB.out HAJ.out).mono ?_
      rintro e w2 ⟨t, ok, rfl, hok1, ht1, kk⟩
      have HO1 := Lib.hid hok1
      have HT1 := Lib.hid ht1
      replace KX := Lib.hid (KX.out.trans kk)
      replace VB := Lib.hid (VB.out.k kk)
      replace R0x := Lib.hid (row_ext R0x.out kk (fun h => h))
      replace R1x := Lib.hid (row_ext R1x.out kk (fun h => h))
      replace HWX : Hid (w.heap.size + 2 ≤ w2.heap.size) := Nat.le_trans HWX.out kk.size
      replace z0 := kk.cq z0 (fun h => h)
      clear x0 x1 z1 z2 z3 z4 kk hok1 ht1 QP QV QA QK
      cases ok
      · have V : Hid (Z = -1) := by show _ = _; rw [← HD.out, HRT.out, if_pos (by have := of_decide_eq_false HO1.out.symm; omega)]
        go_wp2_with fail
        exact fin_ hQ ⟨ret_i V.out.symm, KX.out⟩
      have HST : Hid (0 ≤ stpT ds sg scj (sAt ss j)) := by show 0 ≤ stpT ds sg scj (sAt ss j); exact of_decide_eq_true HO1.out.symm
      go_wp2_with fail
      refine (implIsCounting _ _).mono ?_
      by_cases hcn : 14 ≤ (sAt ss j).op ∧ (sAt ss j).op ≤ 17
      · have HD2 : Hid (runT ds sg res scj (ss.drop (j + 1)) = Z) := by
          show _ = _
          rw [← HD.out, HRT.out, if_neg (by have := HST.out; omega), nextS, if_neg (by omega)]
        rw [decide_eq_true hcn]
        rintro e w9 ⟨rfl, rfl⟩
        clear z0 hcn
        go_wp2_with fail
        go_roundw
        case rel => exact ⟨j + 1, scj, by omega, by go_num, VB, HD2, by show _ ≤ _; have := HB.out; have := HNS.out; omega, HAJ, KX, HWX, R0x, R1x⟩
        case measure => simp [intOf]; omega
      · have HOP : Hid (0 ≤ (sAt ss j).op ∧ (sAt ss j).op ≤ 11) := (stp_ops (sAt ss j) HST.out).resolve_right hcn
        have HTE : Hid (t = stpT ds sg scj (sAt ss j)) := HT1.out trivial hcn
        have HTT : Hid (isT ds.length t = true) := by
          have h := stp_range HOK.out (sAt ss j) HAJ.out
          rw [← HTE.out] at h
          rcases h with h | h
          · have := HST.out; rw [← HTE.out] at this; omega
          · exact h
        have HD2 : Hid (runT ds sg res (scj ++ [t]) (ss.drop (j + 1)) = Z) := by
          show _ = _
          rw [← HD.out, HRT.out, if_neg (by have := HST.out; omega), nextS, if_pos HOP.out, HTE.out]
        rw [decide_eq_false hcn]
        rintro e w9 ⟨rfl, rfl⟩
        clear z0 hcn
        have KL := Keep.al w2 (.cells #[.int .i64 t] 3)
        have hxt : IntsL (w2.alloc (.cells #[.int .i64 t] 3)) (fun _ => True) (some ⟨w2.heap.size, 0, none⟩) 1 [t] := (lit_intsD w2 (fun _ => True) 3 [t] #[.int .i64 t] 1 trivial rfl rfl (by omega)).toInts
        have hv2 := VB.out.k KL
        have hzl : w.heap.size + 2 ≤ (w2.alloc (.cells #[.int .i64 t] 3)).heap.size := Nat.le_trans HWX.out KL.size
        have hKK := Lib.hid (KX.out.trans KL)
        have R0l := Lib.hid (row_ext R0x.out KL (fun h => h))
        have R1l := Lib.hid (row_ext R1x.out KL (fun h => h))
        have VL := Lib.hid hv2.lt
        clear KL VB
        go_wp2_with (at_builtin; go_must (refine wpList_appInts _ rfl (.tmp 34) (.tmp 36) rfl (w.heap.size + 2) (.slice a7 scj.length c7) scj.length scj rfl hv2 _ 1 1 [t] (fun _ => True) rfl hxt (by omega) hzl ?_); intro vn w7 ho hgr; have X7 := Lib.hid ((Ext.refl (fun k => w.heap.size + 2 ≤ k) _).grown hgr (fun k hk => .inr (VL.out k hk).1)); have HO := Lib.hid ho; clear ho hgr)
        go_roundw
        case rel => exact ⟨j + 1, scj ++ [t], by omega, by go_num, by
          show VR _ _ _ _
          unfold VR
          rw [List.length_append]
          exact HO.out, HD2, by show _ ≤ _; have := HB.out; have := HNS.out; rw [List.length_append, List.length_singleton]; have := nS_eq (sAt ss j); omega, allT_append HAJ.out (allT_one HTT.out), hKK.out.then_ X7.out (fun q hq h => by omega), by show _ ≤ _; have := X7.out.size; omega, row_ext R0l.out X7.out (by omega), row_ext R1l.out X7.out (by omega)⟩
        case measure => simp [intOf]; omega
    · have HJ : Hid (j = n) := by show _ = _; omega
      have HNIL : Hid ((if 0 ≤ res ∧ res < (scj.length : Int) then iAt scj res.toNat else -1) = Z) := by
        show _ = _
        rw [← HD.out, List.drop_of_length_le (by have := HL.out; have := HJ.out; omega), runT_nil]
      have y1 := R1w.out.cell (i := 1) (by simp)
      simp at y1
      by_cases hr0 : res < 0
      · have V : Hid (Z = -1) := by show _ = _; rw [← HNIL.out, if_neg (by omega)]
        go_wp2_with fail
        exact fin_ hQ ⟨ret_i V.out.symm, KW.out⟩
      by_cases hr1 : (scj.length : Int) ≤ res
      · have V : Hid (Z = -1) := by show _ = _; rw [← HNIL.out, if_neg (by omega)]
        go_wp2_with fail
        exact fin_ hQ ⟨ret_i V.out.symm, KW.out⟩
      obtain ⟨k, rfl⟩ := Int.eq_ofNat_of_zero_le (show 0 ≤ res by omega)
      have hk : k < scj.length := by omega
      obtain ⟨b7, o7, rfl, _, d7⟩ := (show IntsL wo (fun _ => True) a7 scj.length scj from ho7.read.mono (fun _ _ => trivial)).at hk
      have hk0 : (0 : Int) ≤ (k : Int) := by omega
      have hk1 : (k : Int) < (scj.length : Int) := by omega
      have V : Hid (iAt scj k = Z) := by show _ = _; rw [← HNIL.out, if_pos ⟨hk0, hk1⟩, Int.toNat_natCast]
      rw [V.out] at d7
      go_wp2_with fail
      exact fin_ hQ ⟨rfl, KW.out⟩
theorem implBlk_n (N : Nat) : ∀ (res : Int) (ss : List StepL), nSs ss < N → okSs ss → BlI ds sg res ss := by
  induction N with
  | zero => intro res ss h; omega
  | succ N ih =>
    intro res ss hN ho
    refine implBlk_of ds sg hok res ss (fun j hj => implStp ds sg hok _ (okSs_at ho hj) (fun k hk => ih _ _ ?_ ?_))
    · have := nkid_lt ss hj hk
      omega
    · have h := okSs_at ho hj
      generalize sAt ss j = s at h hk ⊢
      obtain ⟨op, num, into, args, ks⟩ := s
      rw [okS] at h
      exact okBs_at h.2.2 hk
theorem implBlk (res : Int) (ss : List StepL) (ho : okSs ss) : BlI ds sg res ss := implBlk_n ds sg hok _ res ss (Nat.lt_succ_self _) ho
end
end Go.Proofs.YtkapldpmjkdmcaaGreat
/- BlockType of both packages. -/
namespace Go.Proofs.YtkapldpmjkdmcaaGreat
open Go.RowKit

def blkTop (ds : List DeclL) (rs : List RoutL) (sc : List Int) (res : Int) (ss : List StepL) : Int :=
  if sigsOk ds (rs.map sigR) = true ∧ allT ds.length sc = true ∧ ¬ stepsL ss < 0 then runT ds (rs.map sigR) res sc ss else -1
theorem stepsL_le {ss : List StepL} (h : ¬ stepsL ss < 0) : nSs ss ≤ 600 := by
  refine Classical.byContradiction fun hn => h ?_
  rw [stepsL_no hn]; omega

end Go.Proofs.YtkapldpmjkdmcaaGreat
/- Ascending lists of integers as sets: insertion, indices of what is true; plain. -/
namespace Go.Proofs.YtkapldpmjkdmcaaGreat
open Go.RowKit

/-- An ascending list with a number at its place, once. -/
def insL : List Int → Int → List Int
  | [], n => [n]
  | x :: xs, n => if n < x then n :: x :: xs else if n = x then x :: xs else x :: insL xs n
def Asc (xs : List Int) : Prop := xs.Pairwise (· < ·)

theorem insL_len (xs : List Int) (n : Int) : (insL xs n).length ≤ xs.length + 1 := by
  induction xs with
  | nil => simp [insL]
  | cons x xs ih =>
    simp only [insL]
    split
    · simp
    · split
      · simp
      · simp only [List.length_cons]; omega
theorem insL_mem (xs : List Int) (n x : Int) : x ∈ insL xs n ↔ x = n ∨ x ∈ xs := by
  induction xs with
  | nil => simp [insL]
  | cons y ys ih =>
    simp only [insL]
    split
    · simp
    · split
      · next h => subst h; simp
      · simp only [List.mem_cons, ih]
        constructor
        · rintro (h | h | h)
          · exact .inr (.inl h)
          · exact .inl h
          · exact .inr (.inr h)
        · rintro (h | h | h)
          · exact .inr (.inl h)
          · exact .inl h
          · exact .inr (.inr h)
theorem insL_asc {xs : List Int} {n : Int} (h : Asc xs) : Asc (insL xs n) := by
  induction xs with
  | nil => simp [insL, Asc]
  | cons y ys ih =>
    obtain ⟨h1, h2⟩ := List.pairwise_cons.1 h
    simp only [insL]
    split
    · next hn =>
      refine List.pairwise_cons.2 ⟨fun z hz => ?_, h⟩
      rcases List.mem_cons.1 hz with rfl | hz
      · exact hn
      · have := h1 z hz; omega
    · split
      · exact h
      · next hn hne =>
        refine List.pairwise_cons.2 ⟨fun z hz => ?_, ih h2⟩
        rcases (insL_mem ys n z).1 hz with rfl | hz
        · omega
        · exact h1 z hz
theorem asc_ext : ∀ {xs ys : List Int}, Asc xs → Asc ys → (∀ x, x ∈ xs ↔ x ∈ ys) → xs = ys
  | [], [], _, _, _ => rfl
  | [], y :: ys, _, _, h => absurd ((h y).2 (by simp)) (by simp)
  | x :: xs, [], _, _, h => absurd ((h x).1 (by simp)) (by simp)
  | x :: xs, y :: ys, hx, hy, h => by
    obtain ⟨hx1, hx2⟩ := List.pairwise_cons.1 hx
    obtain ⟨hy1, hy2⟩ := List.pairwise_cons.1 hy
    have e : x = y := by
      rcases List.mem_cons.1 ((h x).1 (by simp)) with e | hm
      · exact e
      · rcases List.mem_cons.1 ((h y).2 (by simp)) with e | hm'
        · exact e.symm
        · have := hy1 x hm; have := hx1 y hm'; omega
    subst e
    have e2 : xs = ys := asc_ext hx2 hy2 (fun z => by
      constructor
      · intro hz
        rcases List.mem_cons.1 ((h z).1 (by simp [hz])) with e | hm
        · have := hx1 z hz; omega
        · exact hm
      · intro hz
        rcases List.mem_cons.1 ((h z).2 (by simp [hz])) with e | hm
        · have := hy1 z hz; omega
        · exact hm)
    rw [e2]

/-- What holds in the loop of insert behind j elements. -/
def InsR (xs : List Int) (n : Int) (j : Nat) (out : List Int) (done : Bool) : Prop :=
  if done = true then out ++ xs.drop j = insL xs n else out = xs.take j ∧ insL xs n = xs.take j ++ insL (xs.drop j) n
theorem drop_iAt {xs : List Int} {j : Nat} (h : j < xs.length) : xs.drop j = iAt xs j :: xs.drop (j + 1) := by rw [List.drop_eq_getElem_cons h, iAt_eq h]
section
variable {xs : List Int} {n : Int} {j : Nat} {out : List Int}
theorem InsR.same (h : InsR xs n j out false) (hj : j < xs.length) (hx : iAt xs j = n) : InsR xs n (j + 1) (out ++ [iAt xs j]) true := by
  simp only [InsR, Bool.false_eq_true, if_false, if_true] at h ⊢
  obtain ⟨h1, h2⟩ := h
  rw [h2, h1, drop_iAt hj, insL, if_neg (by omega), if_pos hx.symm, List.append_assoc]
  rfl
theorem InsR.over (h : InsR xs n j out false) (hj : j < xs.length) (hx : n < iAt xs j) : InsR xs n (j + 1) (out ++ [n] ++ [iAt xs j]) true := by
  simp only [InsR, Bool.false_eq_true, if_false, if_true] at h ⊢
  obtain ⟨h1, h2⟩ := h
  rw [h2, h1, drop_iAt hj, insL, if_pos hx]
  simp
theorem InsR.rest (h : InsR xs n j out true) (hj : j < xs.length) : InsR xs n (j + 1) (out ++ [iAt xs j]) true := by
  simp only [InsR, if_true] at h ⊢
  rw [← h, drop_iAt hj]
  simp
theorem InsR.done (h : InsR xs n j out true) (hj : xs.length ≤ j) : out = insL xs n := by
  simp only [InsR, if_true] at h
  rw [List.drop_of_length_le hj, List.append_nil] at h
  exact h
end

def bAtL (bs : List Bool) (i : Nat) : Bool := bs.getD i false
theorem bAtL_eq {bs : List Bool} {i : Nat} (h : i < bs.length) : bAtL bs i = bs[i] := by simp [bAtL, List.getElem?_eq_getElem h]
/-- The indices of what is true, ascending, from k on. -/
def idxFrom : Nat → List Bool → List Int
  | _, [] => []
  | k, b :: bs => if b = true then (k : Int) :: idxFrom (k + 1) bs else idxFrom (k + 1) bs
def idxL (bs : List Bool) : List Int := idxFrom 0 bs
theorem idxFrom_mem (k : Nat) (bs : List Bool) (x : Int) : x ∈ idxFrom k bs ↔ ∃ i : Nat, i < bs.length ∧ x = ((k + i : Nat) : Int) ∧ bAtL bs i = true := by
  induction bs generalizing k with
  | nil => simp [idxFrom]
  | cons b bs ih =>
    have hs : (∃ i : Nat, i < (b :: bs).length ∧ x = ((k + i : Nat) : Int) ∧ bAtL (b :: bs) i = true) ↔ (x = (k : Int) ∧ b = true) ∨ ∃ i : Nat, i < bs.length ∧ x = ((k + 1 + i : Nat) : Int) ∧ bAtL bs i = true := by
      constructor
      · rintro ⟨i, hi, hx, hb⟩
        rcases i with _ | i
        · exact .inl ⟨by simpa using hx, by simpa [bAtL] using hb⟩
        · exact .inr ⟨i, by simpa using hi, by rw [hx]; congr 1; omega, by simpa [bAtL] using hb⟩
      · rintro (⟨hx, hb⟩ | ⟨i, hi, hx, hb⟩)
        · exact ⟨0, by simp, by simpa using hx, by simpa [bAtL] using hb⟩
        · exact ⟨i + 1, by simpa using hi, by rw [hx]; congr 1; omega, by simpa [bAtL] using hb⟩
    rw [hs, ← ih (k + 1)]
    simp only [idxFrom]
    split
    · next hb => simp [hb]
    · next hb => simp [hb]
theorem idxL_mem (bs : List Bool) (x : Int) : x ∈ idxL bs ↔ ∃ i : Nat, i < bs.length ∧ x = (i : Int) ∧ bAtL bs i = true := by
  rw [idxL, idxFrom_mem]; simp
theorem idxFrom_asc (k : Nat) (bs : List Bool) : Asc (idxFrom k bs) := by
  induction bs generalizing k with
  | nil => simp [idxFrom, Asc]
  | cons b bs ih =>
    simp only [idxFrom]
    split
    · refine List.pairwise_cons.2 ⟨fun z hz => ?_, ih _⟩
      obtain ⟨i, _, rfl, _⟩ := (idxFrom_mem _ _ _).1 hz
      omega
    · exact ih _
theorem idxL_asc (bs : List Bool) : Asc (idxL bs) := idxFrom_asc 0 bs
end Go.Proofs.YtkapldpmjkdmcaaGreat
/- The functions that an expression names, plain: by insertion, and by marks; and that what has a type names functions that there are. -/
namespace Go.Proofs.YtkapldpmjkdmcaaGreat
open Go.RowKit

/-- A node names a function. -/
def isCal (op : Int) : Bool := decide (op = 9) || decide (op = 10)
/-- The reference's visits: insertion. -/
def cvis (op num : Int) (s : List Int) : List Int := if isCal op then insL s num else s
/-- The program's visits: a mark is set. -/
def bvis (op num : Int) (s : List Bool) : List Bool := if isCal op then s.set num.toNat true else s
def calL (e : ExprL) : List Int := visE cvis e []
/-- A node that names a function names one of n. -/
def calIn (n : Nat) (op num : Int) : Prop := isCal op = true → 0 ≤ num ∧ num < (n : Int)

theorem cvis_len1 (op num : Int) (s : List Int) : (cvis op num s).length ≤ s.length + 1 := by
  unfold cvis; split
  · exact insL_len s num
  · omega
mutual
theorem cvisE_len : ∀ (e : ExprL) (s : List Int), (visE cvis e s).length ≤ s.length + nE e
  | .mk op num ks, s => by
    have h := cvisEs_len ks (cvis op num s)
    have h1 := cvis_len1 op num s
    simp only [visE, nE]; omega
theorem cvisEs_len : ∀ (es : List ExprL) (s : List Int), (visEs cvis es s).length ≤ s.length + nEs es
  | [], s => by simp [visEs]
  | e :: es, s => by
    have h1 := cvisE_len e s
    have h2 := cvisEs_len es (visE cvis e s)
    simp only [visEs, nEs]; omega
end
theorem bvis_len (op num : Int) (s : List Bool) : (bvis op num s).length = s.length := by unfold bvis; split <;> simp
mutual
theorem bvisE_len : ∀ (e : ExprL) (s : List Bool), (visE bvis e s).length = s.length
  | .mk op num ks, s => by rw [visE, bvisEs_len ks, bvis_len]
theorem bvisEs_len : ∀ (es : List ExprL) (s : List Bool), (visEs bvis es s).length = s.length
  | [], s => rfl
  | e :: es, s => by rw [visEs, bvisEs_len es, bvisE_len e]
end
theorem idxL_set {s : List Bool} {x : Int} (h0 : 0 ≤ x) (h1 : x < (s.length : Int)) : idxL (s.set x.toNat true) = insL (idxL s) x := by
  refine asc_ext (idxL_asc _) (insL_asc (idxL_asc _)) (fun y => ?_)
  rw [idxL_mem, insL_mem, idxL_mem]
  constructor
  · rintro ⟨i, hi, rfl, hb⟩
    rw [List.length_set] at hi
    by_cases e : x.toNat = i
    · left; omega
    · right
      refine ⟨i, hi, rfl, ?_⟩
      simpa [bAtL, List.getElem?_set, e] using hb
  · rintro (rfl | ⟨i, hi, rfl, hb⟩)
    · refine ⟨y.toNat, by rw [List.length_set]; omega, by omega, ?_⟩
      rw [bAtL_eq (by rw [List.length_set]; omega)]
      simp
    · refine ⟨i, by rw [List.length_set]; exact hi, rfl, ?_⟩
      by_cases e : x.toNat = i
      · subst e
        rw [bAtL_eq (by rw [List.length_set]; exact hi)]
        simp
      · simpa [bAtL, List.getElem?_set, e] using hb
theorem idxL_bvis {op num : Int} {s : List Bool} (h : calIn s.length op num) : idxL (bvis op num s) = cvis op num (idxL s) := by
  unfold bvis cvis
  split
  · next hc => exact idxL_set (h hc).1 (h hc).2
  · rfl
mutual
theorem idxL_visE : ∀ (e : ExprL) (s : List Bool), allE (calIn s.length) e → idxL (visE bvis e s) = visE cvis e (idxL s)
  | .mk op num ks, s, h => by
    obtain ⟨h1, h2⟩ := h
    rw [visE, visE, ← idxL_bvis h1]
    exact idxL_visEs ks _ (by rw [bvis_len]; exact h2)
theorem idxL_visEs : ∀ (es : List ExprL) (s : List Bool), allEs (calIn s.length) es → idxL (visEs bvis es s) = visEs cvis es (idxL s)
  | [], s, _ => rfl
  | e :: es, s, h => by
    obtain ⟨h1, h2⟩ := h
    rw [visEs, visEs, ← idxL_visE e s h1]
    exact idxL_visEs es _ (by rw [bvisE_len]; exact h2)
end
section
variable {ds : List DeclL} {sg : List SigL} (hok : sigsOk ds sg = true)
include hok
omit hok in
theorem oneT_all {ts : List Int} (h : 0 ≤ oneT ts) {i : Nat} (hi : i < ts.length) : 0 ≤ iAt ts i := by
  by_cases h1 : iAt ts i < 0
  · rw [oneT_neg hi (.inr h1)] at h; omega
  · omega
end
end Go.Proofs.YtkapldpmjkdmcaaGreat
/- Valid programs, plain. -/
namespace Go.Proofs.YtkapldpmjkdmcaaGreat
open Go.RowKit

/-- All numbers in the bodies are in range. -/
def fitP (fs : List FuncL) : Prop := ∀ i, i < fs.length → allE fitN (fAt fs i).body
def bodyOk (ds : List DeclL) (fs : List FuncL) (i : Nat) : Bool := decide (typeTop ds fs (fAt fs i).params (fAt fs i).body = (fAt fs i).result)
/-- A program is valid. -/
def progOk (ds : List DeclL) (fs : List FuncL) : Bool := sigsOk ds (fs.map sigF) && (List.range fs.length).all (bodyOk ds fs)

section
variable {ds : List DeclL} {fs : List FuncL}
end
end Go.Proofs.YtkapldpmjkdmcaaGreat
/- From the reading of arguments that came in to the words of this seat: integers. -/
namespace Go.Proofs.YtkapldpmjkdmcaaGreat
open Go.RowKit Go.ChangeShapes Go.WideShapes Go.Deep

theorem addr_plain {w : World} {x : Addr} {v : Value} (h : w.cell? x = some v) : ∃ b o, x = ⟨b, o, none⟩ := by
  obtain ⟨b, o, s⟩ := x
  cases s with
  | none => exact ⟨b, o, rfl⟩
  | some s =>
    exfalso
    unfold World.cell? at h
    split at h <;> simp at h

theorem int_fits {n : Int} (h : (Lit.int .i64 n).wf = true) : -9223372036854775808 ≤ n ∧ n ≤ 9223372036854775807 := by
  simp [Lit.wf, IntKind.min, IntKind.max, IntKind.signed, IntKind.bits] at h
  omega

section
variable {H : Type} {enc : TypeId × Value → H} {P : Program} {w : World} {base : Nat} {held : Bool} {D : Nat → Prop}

theorem ent_ints {t e : TypeId} {fuel : Nat} {a : Option Addr} {n c : Nat} {x : DataW H × List MemPlace} (ht : P.underlying t = some (.slice e)) (he : P.underlying e = some (.int .i64)) (hc : P.cellsOf e = 1)
    (h : DataW.trod enc P w base (fun _ => true) held fuel t [.slice a n c] = some x) : n ≤ c ∧ ∃ xs, IntsL w (fun _ => True) a n xs ∧ xs.length ≤ 9223372036854775807 := by
  rcases open_ints ht he hc h with ⟨hcs, _⟩ | ⟨ad, len, cap, zs, hcs, _, hl, hm, hz, _, hcell, _⟩
  · simp at hcs
    obtain ⟨rfl, rfl, rfl⟩ := hcs
    exact ⟨Nat.le_refl _, [], ⟨rfl, fun h => absurd h (by omega)⟩, by simp⟩
  · simp at hcs
    obtain ⟨rfl, rfl, rfl⟩ := hcs
    simp at hz
    refine ⟨hl, zs.take n, ⟨by simp; omega, fun hn => ?_⟩, by have := hm; simp only [maxLen] at this; simp; omega⟩
    obtain ⟨b, o, rfl⟩ : ∃ b o, ad = ⟨b, o, none⟩ := by
      have := hcell 0 (by omega)
      rw [show ad.add 0 = ad from by simp [Addr.add]] at this
      exact addr_plain this
    refine ⟨b, o, rfl, trivial, fun i hi => ?_⟩
    have := hcell i (by omega)
    rw [Addr.add_lit] at this
    rw [this]
    simp [iAt, hi]

theorem ent_choose {α : Type} (n : Nat) (p : Nat → α → Prop) (h : ∀ i, i < n → ∃ x, p i x) (d : α) : ∃ l : List α, l.length = n ∧ ∀ i, i < n → p i (l.getD i d) := by
  induction n with
  | zero => exact ⟨[], rfl, fun i hi => absurd hi (by omega)⟩
  | succ n ih =>
    obtain ⟨l, hl, hp⟩ := ih fun i hi => h i (by omega)
    obtain ⟨x, hx⟩ := h n (by omega)
    refine ⟨l ++ [x], by simp [hl], fun i hi => ?_⟩
    rcases Nat.lt_succ_iff_lt_or_eq.1 hi with h1 | rfl
    · have := hp i h1
      simpa [List.getD, List.getElem?_append_left (show i < l.length by omega)] using this
    · simpa [List.getD, ← hl] using hx

end
end Go.Proofs.YtkapldpmjkdmcaaGreat
/- From the reading of arguments that came in to data that can be read: for all types of data. -/
namespace Go.Proofs.YtkapldpmjkdmcaaGreat
open Go.RowKit Go.ChangeShapes Go.WideShapes Go.Deep

section
variable {H : Type} {enc : TypeId × Value → H} {P : Program} {w : World} {base : Nat} {held : Bool}

theorem len1 {α : Type} {l : List α} (h : l.length = 1) : ∃ a, l = [a] := by match l, h with | [a], _ => exact ⟨a, rfl⟩
theorem len2 {α : Type} {l : List α} (h : l.length = 2) : ∃ a b, l = [a, b] := by match l, h with | [a, b], _ => exact ⟨a, b, rfl⟩
theorem len3 {α : Type} {l : List α} (h : l.length = 3) : ∃ a b c, l = [a, b, c] := by match l, h with | [a, b, c], _ => exact ⟨a, b, c, rfl⟩
theorem len4 {α : Type} {l : List α} (h : l.length = 4) : ∃ a b c d, l = [a, b, c, d] := by match l, h with | [a, b, c, d], _ => exact ⟨a, b, c, d, rfl⟩
theorem len5 {α : Type} {l : List α} (h : l.length = 5) : ∃ a b c d e, l = [a, b, c, d, e] := by match l, h with | [a, b, c, d, e], _ => exact ⟨a, b, c, d, e, rfl⟩
theorem ent2_slice {t e : TypeId} {fuel : Nat} {v : Value} {x : DataW H × List MemPlace} (s : Nat) (hs0 : 0 < s) (ht : P.underlying t = some (.slice e)) (hc : P.cellsOf e = s)
    (h : DataW.trod enc P w base (fun _ => true) held fuel t [v] = some x) : ∃ a n c, v = .slice a n c ∧ n ≤ c ∧ n ≤ 9223372036854775807 ∧ (0 < n → ∃ b o, a = some ⟨b, o, none⟩ ∧
      ∀ i, i < n → ∃ cs fuel' y, fuel' < fuel ∧ cs.length = s ∧ (∀ j, j < s → w.cell? ⟨b, o + i * s + j, none⟩ = cs[j]?) ∧ DataW.trod enc P w base (fun _ => true) held fuel' e cs = some y) := by
  rcases DataW.trod_slice ht h with ⟨hcs, _⟩ | ⟨ad, len, cap, elems, rest, n', hf, hcs, _, _, hl, hm, hlen, hel, _, _⟩
  · simp at hcs
    subst hcs
    exact ⟨none, 0, 0, rfl, Nat.le_refl _, by omega, fun h => absurd h (by omega)⟩
  · simp at hcs
    subst hcs
    refine ⟨_, _, _, rfl, hl, by simp only [maxLen] at hm; omega, fun hn => ?_⟩
    have hget : ∀ i, i < len → ∃ cs' y, w.cells? base (ad.add (i * P.cellsOf e)) (P.cellsOf e) = some cs' ∧ DataW.trod enc P w base (fun _ => true) held n' e cs' = some y := by
      intro i hi
      have := hel i hi
      rw [List.getElem?_eq_getElem (by omega), Option.bind_eq_some_iff] at this
      obtain ⟨cs', h1, h2⟩ := this
      exact ⟨cs', _, h1, h2⟩
    obtain ⟨b, o, rfl⟩ : ∃ b o, ad = ⟨b, o, none⟩ := by
      obtain ⟨cs', _, hcs', _⟩ := hget 0 (by omega)
      rw [hc] at hcs'
      obtain ⟨_, hlen, hat⟩ := World.cells?_some hcs'
      have h0 := hat 0 hs0
      rw [show (ad.add (0 * s)).add 0 = ad from by simp [Addr.add], List.getElem?_eq_getElem (by omega)] at h0
      exact addr_plain h0
    refine ⟨b, o, rfl, fun i hi => ?_⟩
    obtain ⟨cs', y, hcs', hy⟩ := hget i hi
    rw [hc] at hcs'
    obtain ⟨_, hlen, hat⟩ := World.cells?_some hcs'
    refine ⟨cs', n', y, by omega, hlen, fun j hj => ?_, hy⟩
    have := hat j hj
    rw [Addr.add_lit, Addr.add_lit] at this
    exact this
theorem ent2_build {s : Nat} {rows : List (List Dat)} {b o n c : Nat} (hs0 : 0 < s) (hn : rows.length = n) (h0 : 0 < n) (hc : n ≤ c) (hm : n ≤ 9223372036854775807)
    (hr : ∀ i, i < n → (rGet rows i).length = s ∧ ∀ j, j < s → ∃ u, w.cell? ⟨b, o + i * s + j, none⟩ = some u ∧ Rd w (fun _ => True) (rAt rows i j) u) : Rd w (fun _ => True) (.arr s rows) (.slice (some ⟨b, o, none⟩) n c) := by
  subst hn
  refine .arr s rows b o c (fun i j => (w.cell? ⟨b, o + i * s + j, none⟩).getD undef) trivial h0 hs0 hc hm (fun i hi => (hr i hi).1) (fun i j hi hj => ?_) (fun i j hi hj => ?_)
  · obtain ⟨u, hu, _⟩ := (hr i hi).2 j hj
    rw [hu]; rfl
  · obtain ⟨u, hu, hr'⟩ := (hr i hi).2 j hj
    show Rd _ _ _ ((w.cell? ⟨b, o + i * s + j, none⟩).getD undef)
    rw [hu]; exact hr'
end

section
variable {H : Type} {enc : TypeId × Value → H} {w : World} {base : Nat} {held : Bool}

theorem ent2_Int (fuel : Nat) (v : Value) (y : DataW H × List MemPlace) (h : DataW.trod enc Tryz.prog w base (fun _ => true) held fuel 52 [v] = some y) : ∃ a n c xs, v = .slice a n c ∧ Rd w (fun _ => True) (encInts xs) (.slice a n c) := by
  obtain ⟨a, n, c, rfl, hnc, hm, hel⟩ := ent2_slice 1 (by omega) Tryz.underlying52 (by kernel_rfl) h
  obtain ⟨_, xs, hxs, _⟩ := ent_ints Tryz.underlying52 Tryz.underlying3 (by kernel_rfl) h
  exact ⟨a, n, c, xs, rfl, hxs.toRd hnc hm⟩

theorem ent2_rowCon (fuel : Nat) (cs : List Value) (x : DataW H × List MemPlace) (ihInt : ∀ fuel' v y, fuel' < fuel → DataW.trod enc Tryz.prog w base (fun _ => true) held fuel' 52 [v] = some y → ∃ a n c xs, v = .slice a n c ∧ Rd w (fun _ => True) (encInts xs) (.slice a n c))
    (h : DataW.trod enc Tryz.prog w base (fun _ => true) held fuel 224 cs = some x) : ∃ d : (List Int), (rowC d).length = 1 ∧ ∀ j, j < 1 → ∃ u, cs[j]? = some u ∧ Rd w (fun _ => True) (dGet (rowC d) j) u := by
  obtain ⟨ys, m, hfu, _, hcl, hyl, hf⟩ := DataW.trod_struct Tryz.underlying224 h
  have h0 := hf 0 _ rfl
  have hN : cs.length = 1 := by rw [hcl]; kernel_rfl
  obtain ⟨v0, rfl⟩ := len1 hN
  have hY : ys.length = 1 := by rw [hyl]; rfl
  obtain ⟨y0, rfl⟩ := len1 hY
  simp at h0
  rw [show Tryz.prog.cellsOf 52 = 1 from by kernel_rfl] at h0
  simp at h0
  obtain ⟨a0, n0, c0, xs0, rfl, r0⟩ := ihInt m _ _ (by omega) h0
  refine ⟨xs0, rfl, fun j hj => ?_⟩
  rcases j with _ | j
  · exact ⟨_, rfl, r0⟩
  · omega
theorem ent2_Con (fuel : Nat) (v : Value) (y : DataW H × List MemPlace) (h : DataW.trod enc Tryz.prog w base (fun _ => true) held fuel 112 [v] = some y) : ∃ a n c xs, v = .slice a n c ∧ Rd w (fun _ => True) (encCons xs) (.slice a n c) := by
  obtain ⟨a, n, c, rfl, hnc, hm, hel⟩ := ent2_slice 1 (by omega) Tryz.underlying112 (by kernel_rfl) h
  rcases Nat.eq_zero_or_pos n with rfl | hn
  · exact ⟨a, 0, c, [], rfl, .nil _ _ _⟩
  obtain ⟨b, o, rfl, hel2⟩ := hel hn
  obtain ⟨l, hl, hp⟩ := ent_choose n (fun i (d : (List Int)) => (rowC d).length = 1 ∧ ∀ j, j < 1 → ∃ u, w.cell? ⟨b, o + i * 1 + j, none⟩ = some u ∧ Rd w (fun _ => True) (dGet (rowC d) j) u) (fun i hi => by
    obtain ⟨cs, fu, y, hfu, hlen, hcell, hy⟩ := hel2 i hi
    obtain ⟨d, h1, h2⟩ := ent2_rowCon fu cs y (fun fu v y _ hq => ent2_Int fu v y hq) hy
    exact ⟨d, h1, fun j hj => by rw [hcell j hj]; exact h2 j hj⟩) ([] : List Int)
  refine ⟨_, n, c, l, rfl, ?_⟩
  refine ent2_build (s := 1) (rows := (l.map rowC)) (by omega) (by rw [cons_len]; exact hl) hn hnc hm (fun i hi => ?_)
  have hg : rGet (l.map rowC) i = rowC (cAt l i) := by rw [rGet_lt (by rw [cons_len]; omega), cAt_get (by omega)]; simp
  rw [hg]
  refine ⟨(hp i hi).1, fun j hj => ?_⟩
  rw [rAt, hg]
  exact (hp i hi).2 j hj

theorem ent2_rowDecl (fuel : Nat) (cs : List Value) (x : DataW H × List MemPlace) (ihCon : ∀ fuel' v y, fuel' < fuel → DataW.trod enc Tryz.prog w base (fun _ => true) held fuel' 112 [v] = some y → ∃ a n c xs, v = .slice a n c ∧ Rd w (fun _ => True) (encCons xs) (.slice a n c))
    (h : DataW.trod enc Tryz.prog w base (fun _ => true) held fuel 114 cs = some x) : ∃ d : DeclL, (rowD d).length = 3 ∧ ∀ j, j < 3 → ∃ u, cs[j]? = some u ∧ Rd w (fun _ => True) (dGet (rowD d) j) u := by
  obtain ⟨ys, m, hfu, _, hcl, hyl, hf⟩ := DataW.trod_struct Tryz.underlying114 h
  have h0 := hf 0 _ rfl
  have h1 := hf 1 _ rfl
  have h2 := hf 2 _ rfl
  have hN : cs.length = 3 := by rw [hcl]; kernel_rfl
  obtain ⟨v0, v1, v2, rfl⟩ := len3 hN
  have hY : ys.length = 3 := by rw [hyl]; rfl
  obtain ⟨y0, y1, y2, rfl⟩ := len3 hY
  simp at h0
  rw [show Tryz.prog.cellsOf 3 = 1 from by kernel_rfl] at h0
  simp at h0
  obtain ⟨z0, e0, _⟩ := DataW.trod_int Tryz.underlying3 h0
  simp at e0
  subst e0
  simp at h1
  rw [show Tryz.prog.cellsOf 3 = 1 from by kernel_rfl] at h1
  simp at h1
  obtain ⟨z1, e1, _⟩ := DataW.trod_int Tryz.underlying3 h1
  simp at e1
  subst e1
  simp at h2
  rw [show Tryz.prog.cellsOf 112 = 1 from by kernel_rfl] at h2
  simp at h2
  obtain ⟨a2, n2, c2, xs2, rfl, r2⟩ := ihCon m _ _ (by omega) h2
  refine ⟨⟨z0, z1, xs2⟩, rfl, fun j hj => ?_⟩
  rcases j with _ | _ | _ | j
  · exact ⟨_, rfl, .num _⟩
  · exact ⟨_, rfl, .num _⟩
  · exact ⟨_, rfl, r2⟩
  · omega
theorem ent2_Decl (fuel : Nat) (v : Value) (y : DataW H × List MemPlace) (h : DataW.trod enc Tryz.prog w base (fun _ => true) held fuel 22 [v] = some y) : ∃ a n c xs, v = .slice a n c ∧ Rd w (fun _ => True) (encDecls xs) (.slice a n c) := by
  obtain ⟨a, n, c, rfl, hnc, hm, hel⟩ := ent2_slice 3 (by omega) Tryz.underlying22 (by kernel_rfl) h
  rcases Nat.eq_zero_or_pos n with rfl | hn
  · exact ⟨a, 0, c, [], rfl, .nil _ _ _⟩
  obtain ⟨b, o, rfl, hel2⟩ := hel hn
  obtain ⟨l, hl, hp⟩ := ent_choose n (fun i (d : DeclL) => (rowD d).length = 3 ∧ ∀ j, j < 3 → ∃ u, w.cell? ⟨b, o + i * 3 + j, none⟩ = some u ∧ Rd w (fun _ => True) (dGet (rowD d) j) u) (fun i hi => by
    obtain ⟨cs, fu, y, hfu, hlen, hcell, hy⟩ := hel2 i hi
    obtain ⟨d, h1, h2⟩ := ent2_rowDecl fu cs y (fun fu v y _ hq => ent2_Con fu v y hq) hy
    exact ⟨d, h1, fun j hj => by rw [hcell j hj]; exact h2 j hj⟩) (default : DeclL)
  refine ⟨_, n, c, l, rfl, ?_⟩
  refine ent2_build (s := 3) (rows := (l.map rowD)) (by omega) (by rw [decls_len]; exact hl) hn hnc hm (fun i hi => ?_)
  have hg : rGet (l.map rowD) i = rowD (dAt l i) := by rw [rGet_lt (by rw [decls_len]; omega), dAt_get (by omega)]; simp
  rw [hg]
  refine ⟨(hp i hi).1, fun j hj => ?_⟩
  rw [rAt, hg]
  exact (hp i hi).2 j hj

end
end Go.Proofs.YtkapldpmjkdmcaaGreat
/- From the reading of an expression that came in to data that can be read, whose numbers are in range. -/
namespace Go.Proofs.YtkapldpmjkdmcaaGreat
open Go.RowKit Go.ChangeShapes Go.WideShapes Go.Deep

section
variable {H : Type} {enc : TypeId × Value → H} {w : World} {base : Nat} {held : Bool}
end
end Go.Proofs.YtkapldpmjkdmcaaGreat
/- From the reading of blocks and normal forms that came in to data that can be read, whose steps' numbers are in range. -/
namespace Go.Proofs.YtkapldpmjkdmcaaGreat
open Go.RowKit Go.ChangeShapes Go.WideShapes Go.Deep

mutual
/-- Numbers of steps are integers. -/
def fitS : StepL → Prop
  | .mk op num _ _ ks => fitN op num ∧ fitBs ks
def fitSs : List StepL → Prop
  | [] => True
  | s :: ss => fitS s ∧ fitSs ss
def fitB : BlockL → Prop
  | .mk ss _ => fitSs ss
def fitBs : List BlockL → Prop
  | [] => True
  | b :: bs => fitB b ∧ fitBs bs
end
def fitRs (rs : List RoutL) : Prop := ∀ i, i < rs.length → fitSs (rtAt rs i).body.steps
theorem fitSs_of {ss : List StepL} (h : ∀ j, j < ss.length → fitS (sAt ss j)) : fitSs ss := by
  induction ss with
  | nil => trivial
  | cons e es ih => exact ⟨h 0 (by simp), ih (fun j hj => by have := h (j + 1) (by simpa using hj); simpa [sAt] using this)⟩
theorem fitBs_of {bs : List BlockL} (h : ∀ j, j < bs.length → fitB (bAt bs j)) : fitBs bs := by
  induction bs with
  | nil => trivial
  | cons e es ih => exact ⟨h 0 (by simp), ih (fun j hj => by have := h (j + 1) (by simpa using hj); simpa [bAt] using this)⟩
mutual
theorem okS_of : ∀ s : StepL, fitS s → szR (rowS s) ≤ 1048576 → okS s
  | .mk op num into args ks, h, hz => by
    have hl : (args.map rowI).length = args.length := by simp
    simp only [rowS, szR, szD, encInts, List.length_map] at hz
    exact ⟨h.1, by omega, okBs_of ks h.2 (by omega)⟩
theorem okSs_of' : ∀ ss : List StepL, fitSs ss → szRR (rowsS ss) ≤ 1048576 → okSs ss
  | [], _, _ => trivial
  | s :: ss, h, hz => by
    rw [rowsS, szRR] at hz
    exact ⟨okS_of s h.1 (by omega), okSs_of' ss h.2 (by omega)⟩
theorem okB_of : ∀ b : BlockL, fitB b → szR (rowB b) ≤ 1048576 → okB b
  | .mk ss r, h, hz => by
    simp only [rowB, szR, szD] at hz
    exact okSs_of' ss h (by omega)
theorem okBs_of : ∀ bs : List BlockL, fitBs bs → szRR (rowsB bs) ≤ 1048576 → okBs bs
  | [], _, _ => trivial
  | b :: bs, h, hz => by
    rw [rowsB, szRR] at hz
    exact ⟨okB_of b h.1 (by omega), okBs_of bs h.2 (by omega)⟩
end
theorem okSs_of {ss : List StepL} (h : fitSs ss) (hz : szD (encSteps ss) ≤ 1048576) : okSs ss :=
  okSs_of' ss h (by rw [encSteps, szD] at hz; omega)
def okRs (rs : List RoutL) : Prop := ∀ i, i < rs.length → okSs (rtAt rs i).body.steps
theorem szRR_rows_le {α : Type} (f : α → List Dat) (l : List α) {x : α} (hx : x ∈ l) : szR (f x) ≤ szRR (l.map f) := by
  induction l with
  | nil => cases hx
  | cons y l ih =>
    rw [List.map_cons, szRR]
    rcases List.mem_cons.1 hx with rfl | h
    · omega
    · have := ih h; omega
theorem okRs_of {rs : List RoutL} (h : fitRs rs) (hz : szD (encRouts rs) ≤ 1048576) : okRs rs := fun i hi => by
  refine okSs_of (h i hi) ?_
  have h1 := szRR_rows_le rowR rs (x := rtAt rs i) (by rw [rtAt_get hi]; exact List.getElem_mem hi)
  rw [encRouts, szD] at hz
  rw [rowR] at h1
  simp only [szR] at h1
  omega

section
variable {H : Type} {enc : TypeId × Value → H} {w : World} {base : Nat} {held : Bool}
theorem ent5_rowStep (fuel : Nat) (cs : List Value) (x : DataW H × List MemPlace) (ihInt : ∀ fuel' v y, fuel' < fuel → DataW.trod enc Tryz.prog w base (fun _ => true) held fuel' 52 [v] = some y → ∃ a n c xs, v = .slice a n c ∧ Rd w (fun _ => True) (encInts xs) (.slice a n c)) (ihBlock : ∀ fuel' v y, fuel' < fuel → DataW.trod enc Tryz.prog w base (fun _ => true) held fuel' 254 [v] = some y → ∃ a n c xs, v = .slice a n c ∧ Rd w (fun _ => True) (encBlocks xs) (.slice a n c) ∧ fitBs xs)
    (h : DataW.trod enc Tryz.prog w base (fun _ => true) held fuel 256 cs = some x) : ∃ d : StepL, (rowS d).length = 5 ∧ fitS d ∧ ∀ j, j < 5 → ∃ u, cs[j]? = some u ∧ Rd w (fun _ => True) (dGet (rowS d) j) u := by
  obtain ⟨ys, m, hfu, _, hcl, hyl, hf⟩ := DataW.trod_struct Tryz.underlying256 h
  have h0 := hf 0 _ rfl
  have h1 := hf 1 _ rfl
  have h2 := hf 2 _ rfl
  have h3 := hf 3 _ rfl
  have h4 := hf 4 _ rfl
  have hN : cs.length = 5 := by rw [hcl]; kernel_rfl
  obtain ⟨v0, v1, v2, v3, v4, rfl⟩ := len5 hN
  have hY : ys.length = 5 := by rw [hyl]; rfl
  obtain ⟨y0, y1, y2, y3, y4, rfl⟩ := len5 hY
  simp at h0
  rw [show Tryz.prog.cellsOf 3 = 1 from by kernel_rfl] at h0
  simp at h0
  obtain ⟨z0, e0, _⟩ := DataW.trod_int Tryz.underlying3 h0
  simp at e0
  subst e0
  simp at h1
  rw [show Tryz.prog.cellsOf 3 = 1 from by kernel_rfl] at h1
  simp at h1
  obtain ⟨z1, e1, wf1⟩ := DataW.trod_int Tryz.underlying3 h1
  simp at e1
  subst e1
  simp at h2
  rw [show Tryz.prog.cellsOf 3 = 1 from by kernel_rfl] at h2
  simp at h2
  obtain ⟨z2, e2, _⟩ := DataW.trod_int Tryz.underlying3 h2
  simp at e2
  subst e2
  simp at h3
  rw [show Tryz.prog.cellsOf 52 = 1 from by kernel_rfl] at h3
  simp at h3
  obtain ⟨a3, n3, c3, xs3, rfl, r3⟩ := ihInt m _ _ (by omega) h3
  simp at h4
  rw [show Tryz.prog.cellsOf 254 = 1 from by kernel_rfl] at h4
  simp at h4
  obtain ⟨a4, n4, c4, xs4, rfl, r4, q4⟩ := ihBlock m _ _ (by omega) h4
  refine ⟨StepL.mk z0 z1 z2 xs3 xs4, rfl, ⟨int_fits wf1.2, q4⟩, fun j hj => ?_⟩
  rcases j with _ | _ | _ | _ | _ | j
  · exact ⟨_, rfl, .num _⟩
  · exact ⟨_, rfl, .num _⟩
  · exact ⟨_, rfl, .num _⟩
  · exact ⟨_, rfl, r3⟩
  · exact ⟨_, rfl, r4⟩
  · omega
theorem ent5_rowBlock (fuel : Nat) (cs : List Value) (x : DataW H × List MemPlace) (ihStep : ∀ fuel' v y, fuel' < fuel → DataW.trod enc Tryz.prog w base (fun _ => true) held fuel' 116 [v] = some y → ∃ a n c xs, v = .slice a n c ∧ Rd w (fun _ => True) (encSteps xs) (.slice a n c) ∧ fitSs xs)
    (h : DataW.trod enc Tryz.prog w base (fun _ => true) held fuel 118 cs = some x) : ∃ d : BlockL, (rowB d).length = 2 ∧ fitB d ∧ ∀ j, j < 2 → ∃ u, cs[j]? = some u ∧ Rd w (fun _ => True) (dGet (rowB d) j) u := by
  obtain ⟨ys, m, hfu, _, hcl, hyl, hf⟩ := DataW.trod_struct Tryz.underlying118 h
  have h0 := hf 0 _ rfl
  have h1 := hf 1 _ rfl
  have hN : cs.length = 2 := by rw [hcl]; kernel_rfl
  obtain ⟨v0, v1, rfl⟩ := len2 hN
  have hY : ys.length = 2 := by rw [hyl]; rfl
  obtain ⟨y0, y1, rfl⟩ := len2 hY
  simp at h0
  rw [show Tryz.prog.cellsOf 116 = 1 from by kernel_rfl] at h0
  simp at h0
  obtain ⟨a0, n0, c0, xs0, rfl, r0, q0⟩ := ihStep m _ _ (by omega) h0
  simp at h1
  rw [show Tryz.prog.cellsOf 3 = 1 from by kernel_rfl] at h1
  simp at h1
  obtain ⟨z1, e1, _⟩ := DataW.trod_int Tryz.underlying3 h1
  simp at e1
  subst e1
  refine ⟨BlockL.mk xs0 z1, rfl, q0, fun j hj => ?_⟩
  rcases j with _ | _ | j
  · exact ⟨_, rfl, r0⟩
  · exact ⟨_, rfl, .num _⟩
  · omega
theorem ent5_SB_n (N : Nat) : (∀ (fuel : Nat), fuel < N → ∀ (v : Value) (y : DataW H × List MemPlace), DataW.trod enc Tryz.prog w base (fun _ => true) held fuel 116 [v] = some y → ∃ a n c xs, v = .slice a n c ∧ Rd w (fun _ => True) (encSteps xs) (.slice a n c) ∧ fitSs xs) ∧
    (∀ (fuel : Nat), fuel < N → ∀ (v : Value) (y : DataW H × List MemPlace), DataW.trod enc Tryz.prog w base (fun _ => true) held fuel 254 [v] = some y → ∃ a n c xs, v = .slice a n c ∧ Rd w (fun _ => True) (encBlocks xs) (.slice a n c) ∧ fitBs xs) := by
  induction N with
  | zero => exact ⟨fun fuel h => by omega, fun fuel h => by omega⟩
  | succ N ihN =>
  obtain ⟨ihS, ihB⟩ := ihN
  refine ⟨?_, ?_⟩
  · intro fuel hN v y h
    obtain ⟨a, n, c, rfl, hnc, hm, hel⟩ := ent2_slice 5 (by omega) Tryz.underlying116 (by kernel_rfl) h
    rcases Nat.eq_zero_or_pos n with rfl | hn
    · exact ⟨a, 0, c, [], rfl, .nil _ _ _, trivial⟩
    obtain ⟨b, o, rfl, hel2⟩ := hel hn
    obtain ⟨l, hl, hp⟩ := ent_choose n (fun i (d : StepL) => (rowS d).length = 5 ∧ fitS d ∧ ∀ j, j < 5 → ∃ u, w.cell? ⟨b, o + i * 5 + j, none⟩ = some u ∧ Rd w (fun _ => True) (dGet (rowS d) j) u) (fun i hi => by
      obtain ⟨cs, fu, y, hfu, hlen, hcell, hy⟩ := hel2 i hi
      obtain ⟨d, h1, hq, h2⟩ := ent5_rowStep fu cs y (fun fu v y _ hq => ent2_Int fu v y hq) (fun fu2 v y hfu2 hq => ihB fu2 (by omega) v y hq) hy
      exact ⟨d, h1, hq, fun j hj => by rw [hcell j hj]; exact h2 j hj⟩) (default : StepL)
    refine ⟨_, n, c, l, rfl, ?_, fitSs_of (fun j hj => by rw [sAt_get hj]; have := (hp j (by omega)).2.1; simpa [List.getD, List.getElem?_eq_getElem hj] using this)⟩
    refine ent2_build (s := 5) (rows := (rowsS l)) (by omega) (by rw [steps_len]; exact hl) hn hnc hm (fun i hi => ?_)
    have hg : rGet (rowsS l) i = rowS (sAt l i) := by rw [rGet_lt (by rw [steps_len]; omega), sAt_get (by omega)]; simp [rowsS_map]
    rw [hg]
    refine ⟨(hp i hi).1, fun j hj => ?_⟩
    rw [rAt, hg]
    exact (hp i hi).2.2 j hj
  · intro fuel hN v y h
    obtain ⟨a, n, c, rfl, hnc, hm, hel⟩ := ent2_slice 2 (by omega) Tryz.underlying254 (by kernel_rfl) h
    rcases Nat.eq_zero_or_pos n with rfl | hn
    · exact ⟨a, 0, c, [], rfl, .nil _ _ _, trivial⟩
    obtain ⟨b, o, rfl, hel2⟩ := hel hn
    obtain ⟨l, hl, hp⟩ := ent_choose n (fun i (d : BlockL) => (rowB d).length = 2 ∧ fitB d ∧ ∀ j, j < 2 → ∃ u, w.cell? ⟨b, o + i * 2 + j, none⟩ = some u ∧ Rd w (fun _ => True) (dGet (rowB d) j) u) (fun i hi => by
      obtain ⟨cs, fu, y, hfu, hlen, hcell, hy⟩ := hel2 i hi
      obtain ⟨d, h1, hq, h2⟩ := ent5_rowBlock fu cs y (fun fu2 v y hfu2 hq => ihS fu2 (by omega) v y hq) hy
      exact ⟨d, h1, hq, fun j hj => by rw [hcell j hj]; exact h2 j hj⟩) (default : BlockL)
    refine ⟨_, n, c, l, rfl, ?_, fitBs_of (fun j hj => by rw [bAt_get hj]; have := (hp j (by omega)).2.1; simpa [List.getD, List.getElem?_eq_getElem hj] using this)⟩
    refine ent2_build (s := 2) (rows := (rowsB l)) (by omega) (by rw [blocks_len]; exact hl) hn hnc hm (fun i hi => ?_)
    have hg : rGet (rowsB l) i = rowB (bAt l i) := by rw [rGet_lt (by rw [blocks_len]; omega), bAt_get (by omega)]; simp [rowsB_map]
    rw [hg]
    refine ⟨(hp i hi).1, fun j hj => ?_⟩
    rw [rAt, hg]
    exact (hp i hi).2.2 j hj
theorem ent5_Step (fuel : Nat) (v : Value) (y : DataW H × List MemPlace) (h : DataW.trod enc Tryz.prog w base (fun _ => true) held fuel 116 [v] = some y) : ∃ a n c xs, v = .slice a n c ∧ Rd w (fun _ => True) (encSteps xs) (.slice a n c) ∧ fitSs xs := ent5_SB_n (fuel + 1) |>.1 fuel (Nat.lt_succ_self _) v y h
theorem ent5_rowRoutine (fuel : Nat) (cs : List Value) (x : DataW H × List MemPlace) (ihInt : ∀ fuel' v y, fuel' < fuel → DataW.trod enc Tryz.prog w base (fun _ => true) held fuel' 52 [v] = some y → ∃ a n c xs, v = .slice a n c ∧ Rd w (fun _ => True) (encInts xs) (.slice a n c)) (ihStep : ∀ fuel' v y, fuel' < fuel → DataW.trod enc Tryz.prog w base (fun _ => true) held fuel' 116 [v] = some y → ∃ a n c xs, v = .slice a n c ∧ Rd w (fun _ => True) (encSteps xs) (.slice a n c) ∧ fitSs xs)
    (h : DataW.trod enc Tryz.prog w base (fun _ => true) held fuel 120 cs = some x) : ∃ d : RoutL, (rowR d).length = 5 ∧ fitSs d.body.steps ∧ ∀ j, j < 5 → ∃ u, cs[j]? = some u ∧ Rd w (fun _ => True) (dGet (rowR d) j) u := by
  obtain ⟨ys, m, hfu, _, hcl, hyl, hf⟩ := DataW.trod_struct Tryz.underlying120 h
  have h0 := hf 0 _ rfl
  have h1 := hf 1 _ rfl
  have h2 := hf 2 _ rfl
  have h3 := hf 3 _ rfl
  have hN : cs.length = 5 := by rw [hcl]; kernel_rfl
  obtain ⟨v0, v1, v2, v3, v4, rfl⟩ := len5 hN
  have hY : ys.length = 4 := by rw [hyl]; rfl
  obtain ⟨y0, y1, y2, y3, rfl⟩ := len4 hY
  simp at h0
  rw [show Tryz.prog.cellsOf 52 = 1 from by kernel_rfl] at h0
  simp at h0
  obtain ⟨a0, n0, c0, xs0, rfl, r0⟩ := ihInt m _ _ (by omega) h0
  simp at h1
  rw [show Tryz.prog.cellsOf 52 = 1 from by kernel_rfl] at h1
  simp at h1
  obtain ⟨a1, n1, c1, xs1, rfl, r1⟩ := ihInt m _ _ (by omega) h1
  simp at h2
  rw [show Tryz.prog.cellsOf 3 = 1 from by kernel_rfl] at h2
  simp at h2
  obtain ⟨z2, e2, _⟩ := DataW.trod_int Tryz.underlying3 h2
  simp at e2
  subst e2
  simp at h3
  rw [show Tryz.prog.cellsOf 118 = 2 from by kernel_rfl] at h3
  simp at h3
  obtain ⟨x3, hx3a, hxq, hx3b⟩ := ent5_rowBlock m _ _ (fun fu v y hfu' hq => ihStep fu v y (by omega) hq) h3
  refine ⟨⟨xs0, xs1, z2, x3⟩, rfl, by cases x3; exact hxq, fun j hj => ?_⟩
  rcases j with _ | _ | _ | _ | _ | j
  · exact ⟨_, rfl, r0⟩
  · exact ⟨_, rfl, r1⟩
  · exact ⟨_, rfl, .num _⟩
  · obtain ⟨u, hu, hr⟩ := hx3b 0 (by omega)
    refine ⟨u, hu, ?_⟩
    rw [show dGet (rowR ⟨xs0, xs1, z2, x3⟩) 3 = dGet (rowB x3) 0 from by cases x3; rfl]
    exact hr
  · obtain ⟨u, hu, hr⟩ := hx3b 1 (by omega)
    refine ⟨u, hu, ?_⟩
    rw [show dGet (rowR ⟨xs0, xs1, z2, x3⟩) 4 = dGet (rowB x3) 1 from by cases x3; rfl]
    exact hr
  · omega
theorem ent5_Routine (fuel : Nat) (v : Value) (y : DataW H × List MemPlace) (h : DataW.trod enc Tryz.prog w base (fun _ => true) held fuel 23 [v] = some y) : ∃ a n c xs, v = .slice a n c ∧ Rd w (fun _ => True) (encRouts xs) (.slice a n c) ∧ fitRs xs := by
  obtain ⟨a, n, c, rfl, hnc, hm, hel⟩ := ent2_slice 5 (by omega) Tryz.underlying23 (by kernel_rfl) h
  rcases Nat.eq_zero_or_pos n with rfl | hn
  · exact ⟨a, 0, c, [], rfl, .nil _ _ _, fun i hi => absurd hi (by simp)⟩
  obtain ⟨b, o, rfl, hel2⟩ := hel hn
  obtain ⟨l, hl, hp⟩ := ent_choose n (fun i (d : RoutL) => (rowR d).length = 5 ∧ fitSs d.body.steps ∧ ∀ j, j < 5 → ∃ u, w.cell? ⟨b, o + i * 5 + j, none⟩ = some u ∧ Rd w (fun _ => True) (dGet (rowR d) j) u) (fun i hi => by
    obtain ⟨cs, fu, y, hfu, hlen, hcell, hy⟩ := hel2 i hi
    obtain ⟨d, h1, hq, h2⟩ := ent5_rowRoutine fu cs y (fun fu v y _ hq => ent2_Int fu v y hq) (fun fu v y _ hq => ent5_Step fu v y hq) hy
    exact ⟨d, h1, hq, fun j hj => by rw [hcell j hj]; exact h2 j hj⟩) (default : RoutL)
  refine ⟨_, n, c, l, rfl, ?_, fun j hj => by rw [rtAt_get hj]; have := (hp j (by omega)).2.1; simpa [List.getD, List.getElem?_eq_getElem hj] using this⟩
  refine ent2_build (s := 5) (rows := (l.map rowR)) (by omega) (by rw [routs_len]; exact hl) hn hnc hm (fun i hi => ?_)
  have hg : rGet (l.map rowR) i = rowR (rtAt l i) := by rw [rGet_lt (by rw [routs_len]; omega), rtAt_get (by omega)]; simp
  rw [hg]
  refine ⟨(hp i hi).1, fun j hj => ?_⟩
  rw [rAt, hg]
  exact (hp i hi).2.2 j hj
set_option maxRecDepth 100000 in
theorem ent5_valNormal {r : Reach} {b0 : Nat} {v : Value} {d : DataW H} {p : List MemPlace} (hv : Value.okWide Tryz.prog w r b0 25 v) (h : DataW.Trod enc Tryz.prog w base (fun _ => true) held 25 v d p) :
    ∃ (ds : List DeclL) (fs : List RoutL) (a : Option Addr) (n c : Nat) (a' : Option Addr) (n' c' : Nat), v = .agg #[.slice a n c, .slice a' n' c'] ∧ Rd w (fun _ => True) (encDecls ds) (.slice a n c) ∧ Rd w (fun _ => True) (encRouts fs) (.slice a' n' c') ∧ fitRs fs := by
  obtain ⟨cs, rfl, hsz⟩ := okWide_struct Tryz.underlying25 hv
  rw [show Tryz.prog.cellsOf 25 = 2 from by kernel_rfl] at hsz
  obtain ⟨fuel, hf⟩ := h
  obtain ⟨u0, u1, e⟩ := len2 (l := cs.toList) (by simpa using hsz)
  replace hf : DataW.trod enc Tryz.prog w base (fun _ => true) held fuel 25 cs.toList = some (d, p) := hf
  rw [e] at hf
  obtain ⟨ys, m, hfu, _, hcl, hyl, hg⟩ := DataW.trod_struct Tryz.underlying25 hf
  have h0 := hg 0 _ rfl
  have h1 := hg 1 _ rfl
  obtain ⟨y0, y1, rfl⟩ := len2 (l := ys) (by rw [hyl]; rfl)
  simp at h0 h1
  rw [show Tryz.prog.cellsOf 22 = 1 from by kernel_rfl] at h0
  rw [show Tryz.prog.cellsOf 23 = 1 from by kernel_rfl] at h1
  simp at h0 h1
  obtain ⟨a, n, c, ds, rfl, r0⟩ := ent2_Decl _ _ _ h0
  obtain ⟨a', n', c', fs, rfl, r1, hq⟩ := ent5_Routine _ _ _ h1
  exact ⟨ds, fs, a, n, c, a', n', c', by rw [← Array.toArray_toList (xs := cs), e], r0, r1, hq⟩
end
end Go.Proofs.YtkapldpmjkdmcaaGreat
/- ValidNormal of both packages. -/
namespace Go.Proofs.YtkapldpmjkdmcaaGreat
open Go.RowKit

def normAt (ds : List DeclL) (rs : List RoutL) (i : Nat) : Bool := decide (¬ stepsL (rtAt rs i).body.steps < 0) && decide (runT ds (rs.map sigR) (rtAt rs i).body.result (rtAt rs i).params (rtAt rs i).body.steps = (rtAt rs i).result)
/-- A normal form is valid. -/
def normOk (ds : List DeclL) (rs : List RoutL) : Bool := sigsOk ds (rs.map sigR) && (List.range rs.length).all (normAt ds rs)
section
variable {ds : List DeclL} {rs : List RoutL}
theorem normOk_sigs (h : sigsOk ds (rs.map sigR) = false) : normOk ds rs = false := by simp [normOk, h]
theorem normOk_at {i : Nat} (hi : i < rs.length) (h : normAt ds rs i = false) : normOk ds rs = false := by
  have e : (List.range rs.length).all (normAt ds rs) = false := nAll_false hi h
  simp only [normOk, e, Bool.and_false]
theorem normOk_yes (h1 : sigsOk ds (rs.map sigR) = true) (h : ∀ i, i < rs.length → normAt ds rs i = true) : normOk ds rs = true := by
  have e : (List.range rs.length).all (normAt ds rs) = true := nAll.2 h
  simp only [normOk, e, h1, Bool.and_self]
theorem normOk_parts (h : normOk ds rs = true) : sigsOk ds (rs.map sigR) = true ∧ ∀ i, i < rs.length → normAt ds rs i = true := by
  simp only [normOk, Bool.and_eq_true] at h
  exact ⟨h.1, nAll.1 h.2⟩
theorem normAt_steps {i : Nat} (h : stepsL (rtAt rs i).body.steps < 0) : normAt ds rs i = false := by
  rw [normAt, decide_eq_false (fun hc => hc h), Bool.false_and]
theorem normAt_ty {i : Nat} (h : ¬ stepsL (rtAt rs i).body.steps < 0) : normAt ds rs i = decide (runT ds (rs.map sigR) (rtAt rs i).body.result (rtAt rs i).params (rtAt rs i).body.steps = (rtAt rs i).result) := by
  rw [normAt, decide_eq_true h, Bool.true_and]
theorem sigR_at (h : sigsOk ds (rs.map sigR) = true) {i : Nat} (hi : i < rs.length) : (rtAt rs i).params.length ≤ 3 ∧ allT ds.length (rtAt rs i).params = true ∧ 0 ≤ (rtAt rs i).result := by
  have hs := (sigsOk_parts h).2.2.2 i (by simpa using hi)
  rw [sgAt_sigR rs hi] at hs
  obtain ⟨h1, h2, h3, _⟩ := sigOk_parts hs
  exact ⟨h1, h2, (isT_iff.1 h3).1⟩
end

set_option maxRecDepth 100000 in
set_option maxHeartbeats 1500000 in
theorem specValidNormal0 (ds : List DeclL) (rs : List RoutL) (a0 : Option Addr) (n0 c0 : Nat) (a1 : Option Addr) (n1 c1 : Nat) (D0 D1 : Nat → Prop) (w : World) (r0 : Rd w D0 (encDecls ds) (.slice a0 n0 c0)) (r1 : Rd w D1 (encRouts rs) (.slice a1 n1 c1)) :
    Calls Tryz.prog 34 #[.agg #[.slice a0 n0 c0, .slice a1 n1 c1]] w fun e w' => e = .returned (.bool (normOk ds rs)) ∧ Keep w w' := by
  refine calls_k fun Q hQ => ?_
  have K0 := Keep.al w (.cells #[.slice a0 n0 c0, .slice a1 n1 c1] 30)
  have R0a := Lib.hid (rowOf w #[.slice a0 n0 c0, .slice a1 n1 c1] 30)
  obtain ⟨e1, hnc, hm, hat⟩ := routs_at r1.t
  have HL := Lib.hid e1
  have HA := Lib.hid hat
  have HD0 := Lib.hid r0.t
  have HR0 := Lib.hid r1.t
  have KW := Lib.hid K0
  clear K0 r0 r1 e1 hat
  go_enter Tryz.func34, Tryz.ntmps34
  go_upto_region 1 with fail
  have QD := Lib.hid (HD0.out.k KW.out)
  have QR := Lib.hid (HR0.out.k KW.out)
  generalize hW : w.alloc (.cells #[.slice a0 n0 c0, .slice a1 n1 c1] 30) = W at *
  clear hW
  have x0 := R0a.out.cell (i := 0) (by simp)
  have x1 := R0a.out.cell (i := 1) (by simp)
  simp at x0 x1
  cases hs : sigsOk ds (rs.map sigR)
  · have V : Hid (normOk ds rs = false) := normOk_sigs hs
    go_wp2_with fail
    refine (specValidNormalSigs ds rs _ _ _ _ _ _ _ _ _ QD.out QR.out).mono ?_
    rw [hs]
    rintro e w2 ⟨rfl, kk⟩
    replace KW := Lib.hid (KW.out.trans kk)
    clear hs kk x0 x1
    go_wp2_with fail
    exact fin_ hQ ⟨ret_b V.out.symm, KW.out⟩
  have V1 := Lib.hid hs
  go_wp2_with fail
  refine (specValidNormalSigs ds rs _ _ _ _ _ _ _ _ _ QD.out QR.out).mono ?_
  rw [hs]
  rintro e w2 ⟨rfl, kk⟩
  replace KW := Lib.hid (KW.out.trans kk)
  replace R0a := Lib.hid (row_ext R0a.out kk (fun h => h))
  clear hs kk x0 x1 QD QR
  go_wp2_with fail
  go_loopw [3] (fun iv wr => ∃ j : Nat, j ≤ n1 ∧ iv = .int .i64 j ∧ Hid (∀ l, l < j → normAt ds rs l = true) ∧ Hid (Keep w wr) ∧ Hid (wr.rowIs w.heap.size 30 2 (fun i => (#[.slice a0 n0 c0, .slice a1 n1 c1] : Array Value).getD i undef))) (fun i _ => n1 - (intOf i).toNat)
  case atStart => exact ⟨0, Nat.zero_le _, rfl, fun j hj => absurd hj (by omega), KW.out, R0a.out⟩
  case round =>
    obtain ⟨wo, rfl⟩ : ∃ wo : World, wo = wr := ⟨_, rfl⟩
    obtain ⟨j, hj, rfl, H, KX, R0x⟩ := hrel
    have x0 := R0x.out.cell (i := 0) (by simp)
    have x1 := R0x.out.cell (i := 1) (by simp)
    simp at x0 x1
    by_cases hlt : j < n1
    case neg =>
      have V : Hid (normOk ds rs = true) := normOk_yes V1.out (fun i hi => H.out i (by have := HL.out; omega))
      go_wp2_with fail
      exact fin_ hQ ⟨ret_b V.out.symm, KX.out⟩
    have HJ : Hid (j < rs.length) := by have := HL.out; show _ < _; omega
    obtain ⟨b, o, rfl, _, a5, n5, c5, a6, n6, c6, a3, n3, c3, d0, d1, d2, d3, d4, r3, _, r4⟩ := HA.out j hlt
    have g0 := KX.out.cq d0 (fun h => h)
    have g1 := KX.out.cq d1 (fun h => h)
    have g2 := KX.out.cq d2 (fun h => h)
    have g3 := KX.out.cq d3 (fun h => h)
    have g4 := KX.out.cq d4 (fun h => h)
    have PT := sigR_at V1.out HJ.out
    have AT := Lib.hid PT.2.1
    have PL := Lib.hid PT.1
    have KB := Keep.al wo (.cells #[.slice a5 n5 c5, .slice a6 n6 c6, .int .i64 (rtAt rs j).result, .slice a3 n3 c3, .int .i64 (rtAt rs j).body.result] 71)
    have KY := Lib.hid (KX.out.trans KB)
    have QP := Lib.hid (r3.k KY.out).kd
    have QB := Lib.hid (r4.k KY.out).kd
    have QN := Lib.hid (NR.kd ⟨HD0.out.k KY.out, HR0.out.k KY.out⟩)
    have R0y := Lib.hid (row_ext R0x.out KB (fun h => h))
    have RBy := Lib.hid (rowOf wo #[.slice a5 n5 c5, .slice a6 n6 c6, .int .i64 (rtAt rs j).result, .slice a3 n3 c3, .int .i64 (rtAt rs j).body.result] 71)
    clear d0 d1 d2 d3 d4 r3 r4 PT
    obtain ⟨N, hN⟩ : ∃ N, stepsL (rtAt rs j).body.steps = N := ⟨_, rfl⟩
    have HN := Lib.hid hN
    clear hN
    go_upto_region 7 with fail
    generalize hW : wo.alloc (.cells #[.slice a5 n5 c5, .slice a6 n6 c6, .int .i64 (rtAt rs j).result, .slice a3 n3 c3, .int .i64 (rtAt rs j).body.result] 71) = W at *
    clear hW x0 x1 g0 g1 g2 g3 g4
    generalize hs4 : wo.heap.size = s4 at *
    clear hs4 KB
    have x0 := R0y.out.cell (i := 0) (by simp)
    have x1 := R0y.out.cell (i := 1) (by simp)
    simp at x0 x1
    have y0 := RBy.out.cell (i := 0) (by simp)
    have y1 := RBy.out.cell (i := 1) (by simp)
    have y2 := RBy.out.cell (i := 2) (by simp)
    have y3 := RBy.out.cell (i := 3) (by simp)
    have y4 := RBy.out.cell (i := 4) (by simp)
    simp at y0 y1 y2 y3 y4
    have pc := Ext.refl0 W
    by_cases hn : N < 0
    · have HN1 : Hid (stepsL (rtAt rs j).body.steps = -1) := by
        show _ = _
        refine stepsL_no (fun hc => ?_)
        have h2 := HN.out
        rw [stepsL_yes hc] at h2
        omega
      have V : Hid (normOk ds rs = false) := normOk_at HJ.out (normAt_steps (by rw [HN.out]; exact hn))
      clear hn
      refine wp_region_held_drew (S := fun w' => w'.cell? ⟨s4, 0, none⟩ = some (.slice a5 n5 c5) ∧ w'.cell? ⟨s4, 1, none⟩ = some (.slice a6 n6 c6) ∧ w'.cell? ⟨s4, 2, none⟩ = some (.int .i64 (rtAt rs j).result) ∧ w'.cell? ⟨s4, 3, none⟩ = some (.slice a3 n3 c3) ∧ w'.cell? ⟨s4, 4, none⟩ = some (.int .i64 (rtAt rs j).body.result) ∧ w'.cell? ⟨w.heap.size, 0, none⟩ = some (.slice a0 n0 c0) ∧ w'.cell? ⟨w.heap.size, 1, none⟩ = some (.slice (some ⟨b, o, none⟩) n1 c1)) (by kernel_rfl) ⟨Keep.at pc y0, Keep.at pc y1, Keep.at pc y2, Keep.at pc y3, Keep.at pc y4, Keep.at pc x0, Keep.at pc x1⟩ (fun hHeld => ?_)
      refine wT 0 hHeld ?_
      try go_frame
      refine wT 1 hHeld ?_
      try go_frame
      refine wO 2 (fun K hK => ?_)
      go_simp
      refine (specStepsOf0 (rtAt rs j).body.steps _ _ _ _ _ _ (QB.out.k pc)).mono ?_
      rw [HN1.out]
      rintro e w3 ⟨rfl, p3⟩
      replace pc := Ext.trans pc p3
      refine hK.out _ _ ⟨Keep.at pc y0, Keep.at pc y1, Keep.at pc y2, Keep.at pc y3, Keep.at pc y4, Keep.at pc x0, Keep.at pc x1⟩ (fun hHeld => ?_)
      clear hK K
      try go_frame
      refine wT 3 hHeld ?_
      try go_frame
      refine wT 4 hHeld ?_
      try go_frame
      refine wS 5 hHeld ?_
      try go_frame
      refine wS 6 hHeld ?_
      try go_frame
      refine wS 7 hHeld ?_
      try go_frame
      refine wS 8 hHeld ?_
      try go_frame
      refine wS 9 hHeld ?_
      try go_frame
      refine wS 10 hHeld ?_
      try go_frame
      refine wS 11 hHeld ?_
      try go_frame
      refine wS 12 hHeld ?_
      try go_frame
      refine wS 13 hHeld ?_
      try go_frame
      refine wT 14 hHeld ?_
      try go_frame
      refine wpAnyH_done (by kernel_rfl) ?_ _
      go_wp2_with fail
      exact fin_ hQ ⟨ret_b V.out.symm, KY.out.trans (Keep.dt pc)⟩
    have NN : Hid (normAt ds rs j = decide (runT ds (rs.map sigR) (rtAt rs j).body.result (rtAt rs j).params (rtAt rs j).body.steps = (rtAt rs j).result)) := normAt_ty (by rw [HN.out]; exact hn)
    have hn' : decide (N < 0) = false := decide_eq_false hn
    have hn0 : 0 ≤ N := by omega
    have HBD : Hid ((rtAt rs j).params.length + 4 * nSs (rtAt rs j).body.steps ≤ 1052000) := by
      show _ ≤ _
      have h1 := PL.out
      have h2 := stepsL_le (ss := (rtAt rs j).body.steps) (by rw [HN.out]; exact hn)
      omega
    obtain ⟨z, hz⟩ : ∃ z, runT ds (rs.map sigR) (rtAt rs j).body.result (rtAt rs j).params (rtAt rs j).body.steps = z := ⟨_, rfl⟩
    have HZ := Lib.hid hz
    clear hz hn
    by_cases ht : z = (rtAt rs j).result
    · have VB : Hid (normAt ds rs j = true) := by show _ = _; rw [NN.out, HZ.out]; exact decide_eq_true ht
      have ht' : (z != (rtAt rs j).result) = false := by simpa using ht
      clear ht
      go_region_held3 (fun w' => w'.cell? ⟨s4, 0, none⟩ = some (.slice a5 n5 c5) ∧ w'.cell? ⟨s4, 1, none⟩ = some (.slice a6 n6 c6) ∧ w'.cell? ⟨s4, 2, none⟩ = some (.int .i64 (rtAt rs j).result) ∧ w'.cell? ⟨s4, 3, none⟩ = some (.slice a3 n3 c3) ∧ w'.cell? ⟨s4, 4, none⟩ = some (.int .i64 (rtAt rs j).body.result) ∧ w'.cell? ⟨w.heap.size, 0, none⟩ = some (.slice a0 n0 c0) ∧ w'.cell? ⟨w.heap.size, 1, none⟩ = some (.slice (some ⟨b, o, none⟩) n1 c1))
        (first | exact ⟨Keep.at pc y0, Keep.at pc y1, Keep.at pc y2, Keep.at pc y3, Keep.at pc y4, Keep.at pc x0, Keep.at pc x1⟩ | go_keep)
        (first
          | (go_at_call 77; refine (specStepsOf0 (rtAt rs j).body.steps _ _ _ _ _ _ (QB.out.k pc)).mono ?_; rw [HN.out]; rintro e w3 ⟨rfl, p3⟩; replace pc := Ext.trans pc p3)
          | (go_at_call 78; refine (specBlk ds rs V1.out _ (rtAt rs j).body.steps _ _ _ _ _ _ _ _ _ (rtAt rs j).params _ _ _ _ (NR.k QN.out pc) (QP.out.k pc) (QB.out.k pc) HBD.out AT.out).mono ?_; rw [HZ.out]; rintro e w5 ⟨rfl, p5⟩; replace pc := Ext.trans pc p5))
      have KE := Lib.hid (KY.out.trans (Keep.dt pc))
      have R0z := Lib.hid (row_ext R0y.out (Keep.dt pc) (fun h => h))
      clear pc y0 y1 y2 y3 y4 x0 x1
      go_wp2_with fail
      go_roundw
      case rel => exact ⟨j + 1, by omega, by go_num, fun l hl => by
        rcases Nat.lt_succ_iff_lt_or_eq.1 hl with h | rfl
        · exact H.out l h
        · exact VB.out, KE.out, R0z.out⟩
      case measure => simp [intOf]; omega
    · have V : Hid (normOk ds rs = false) := normOk_at HJ.out (show normAt ds rs j = false by rw [NN.out, HZ.out]; exact decide_eq_false ht)
      have ht' : (z != (rtAt rs j).result) = true := by simpa using ht
      clear ht
      go_region_held3 (fun w' => w'.cell? ⟨s4, 0, none⟩ = some (.slice a5 n5 c5) ∧ w'.cell? ⟨s4, 1, none⟩ = some (.slice a6 n6 c6) ∧ w'.cell? ⟨s4, 2, none⟩ = some (.int .i64 (rtAt rs j).result) ∧ w'.cell? ⟨s4, 3, none⟩ = some (.slice a3 n3 c3) ∧ w'.cell? ⟨s4, 4, none⟩ = some (.int .i64 (rtAt rs j).body.result) ∧ w'.cell? ⟨w.heap.size, 0, none⟩ = some (.slice a0 n0 c0) ∧ w'.cell? ⟨w.heap.size, 1, none⟩ = some (.slice (some ⟨b, o, none⟩) n1 c1))
        (first | exact ⟨Keep.at pc y0, Keep.at pc y1, Keep.at pc y2, Keep.at pc y3, Keep.at pc y4, Keep.at pc x0, Keep.at pc x1⟩ | go_keep)
        (first
          | (go_at_call 77; refine (specStepsOf0 (rtAt rs j).body.steps _ _ _ _ _ _ (QB.out.k pc)).mono ?_; rw [HN.out]; rintro e w3 ⟨rfl, p3⟩; replace pc := Ext.trans pc p3)
          | (go_at_call 78; refine (specBlk ds rs V1.out _ (rtAt rs j).body.steps _ _ _ _ _ _ _ _ _ (rtAt rs j).params _ _ _ _ (NR.k QN.out pc) (QP.out.k pc) (QB.out.k pc) HBD.out AT.out).mono ?_; rw [HZ.out]; rintro e w5 ⟨rfl, p5⟩; replace pc := Ext.trans pc p5))
      go_wp2_with fail
      exact fin_ hQ ⟨ret_b V.out.symm, KY.out.trans (Keep.dt pc)⟩


set_option maxRecDepth 100000 in
set_option maxHeartbeats 1500000 in
theorem implValidNormal (ds : List DeclL) (rs : List RoutL) (a0 : Option Addr) (n0 c0 : Nat) (a1 : Option Addr) (n1 c1 : Nat) (D0 D1 : Nat → Prop) (w : World) (r0 : Rd w D0 (encDecls ds) (.slice a0 n0 c0)) (r1 : Rd w D1 (encRouts rs) (.slice a1 n1 c1)) (ho : okRs rs) :
    Calls Tryz.prog 38 #[.agg #[.slice a0 n0 c0, .slice a1 n1 c1]] w fun e w' => e = .returned (.bool (normOk ds rs)) ∧ Keep w w' := by
  have HFT := Lib.hid ho
  clear ho
  refine calls_k fun Q hQ => ?_
  have K0 := Keep.al w (.cells #[.slice a0 n0 c0, .slice a1 n1 c1] 30)
  have R0a := Lib.hid (rowOf w #[.slice a0 n0 c0, .slice a1 n1 c1] 30)
  obtain ⟨e1, hnc, hm, hat⟩ := routs_at r1.t
  have HL := Lib.hid e1
  have HA := Lib.hid hat
  have HD0 := Lib.hid r0.t
  have HR0 := Lib.hid r1.t
  have KW := Lib.hid K0
  clear K0 r0 r1 e1 hat
  go_enter Tryz.func38, Tryz.ntmps38
  go_upto_region 1 with fail
  have QD := Lib.hid (HD0.out.k KW.out)
  have QR := Lib.hid (HR0.out.k KW.out)
  generalize hW : w.alloc (.cells #[.slice a0 n0 c0, .slice a1 n1 c1] 30) = W at *
  clear hW
  have x0 := R0a.out.cell (i := 0) (by simp)
  have x1 := R0a.out.cell (i := 1) (by simp)
  simp at x0 x1
  go_wp2_with fail
  refine (implNormalSigs ds rs _ _ _ _ _ _ _ _ _ QD.out QR.out).mono ?_
  rintro e w2 ⟨b0, m0, d0, b1, m1, d1, ok, rfl, hok, hsr, kk⟩
  have HS := Lib.hid hok
  have K2 := Keep.al w2 (.cells #[.slice b0 m0 d0, .slice b1 m1 d1] 130)
  have RSa := Lib.hid (rowOf w2 #[.slice b0 m0 d0, .slice b1 m1 d1] 130)
  have HSK : Hid (ok = true → SR (w2.alloc (.cells #[.slice b0 m0 d0, .slice b1 m1 d1] 130)) (fun _ => True) ds (rs.map sigR) b0 m0 d0 b1 m1 d1) := fun h => (hsr h).k K2
  replace kk := kk.trans K2
  replace KW := Lib.hid (KW.out.trans kk)
  replace R0a := Lib.hid (row_ext R0a.out kk (fun h => h))
  clear hok hsr kk K2 x0 x1 QD QR
  go_upto_region 2 with fail
  generalize hW : w2.alloc (.cells #[.slice b0 m0 d0, .slice b1 m1 d1] 130) = W3 at *
  clear hW
  generalize hsx : w2.heap.size = s7 at *
  clear hsx
  cases ok
  · have V : Hid (normOk ds rs = false) := normOk_sigs HS.out.symm
    go_wp2_with fail
    exact fin_ hQ ⟨ret_b V.out.symm, KW.out⟩
  have V1 : Hid (sigsOk ds (rs.map sigR) = true) := HS.out.symm
  have HSQ : Hid (SR W3 (fun _ => True) ds (rs.map sigR) b0 m0 d0 b1 m1 d1) := HSK.out rfl
  clear HSK HS
  have x0 := R0a.out.cell (i := 0) (by simp)
  have x1 := R0a.out.cell (i := 1) (by simp)
  simp at x0 x1
  go_wp2_with fail
  go_loopw [17] (fun iv wr => ∃ j : Nat, j ≤ n1 ∧ iv = .int .i64 j ∧ Hid (∀ l, l < j → normAt ds rs l = true) ∧ Hid (Keep w wr) ∧ Hid (wr.rowIs w.heap.size 30 2 (fun i => (#[.slice a0 n0 c0, .slice a1 n1 c1] : Array Value).getD i undef)) ∧ Hid (wr.rowIs s7 130 2 (fun i => (#[.slice b0 m0 d0, .slice b1 m1 d1] : Array Value).getD i undef)) ∧ Hid (SR wr (fun _ => True) ds (rs.map sigR) b0 m0 d0 b1 m1 d1)) (fun i _ => n1 - (intOf i).toNat)
  case atStart => exact ⟨0, Nat.zero_le _, rfl, fun j hj => absurd hj (by omega), KW.out, R0a.out, RSa.out, HSQ.out⟩
  case round =>
    obtain ⟨wo, rfl⟩ : ∃ wo : World, wo = wr := ⟨_, rfl⟩
    obtain ⟨j, hj, rfl, H, KX, R0x, RSx, HSX⟩ := hrel
    have x0 := R0x.out.cell (i := 0) (by simp)
    have x1 := R0x.out.cell (i := 1) (by simp)
    simp at x0 x1
    by_cases hlt : j < n1
    case neg =>
      have V : Hid (normOk ds rs = true) := normOk_yes V1.out (fun i hi => H.out i (by have := HL.out; omega))
      go_wp2_with fail
      exact fin_ hQ ⟨ret_b V.out.symm, KX.out⟩
    have HJ : Hid (j < rs.length) := by have := HL.out; show _ < _; omega
    obtain ⟨b, o, rfl, _, a5, n5, c5, a6, n6, c6, a3, n3, c3, d0, d1, d2, d3, d4, r3, _, r4⟩ := HA.out j hlt
    have g0 := KX.out.cq d0 (fun h => h)
    have g1 := KX.out.cq d1 (fun h => h)
    have g2 := KX.out.cq d2 (fun h => h)
    have g3 := KX.out.cq d3 (fun h => h)
    have g4 := KX.out.cq d4 (fun h => h)
    have PT := sigR_at V1.out HJ.out
    have AT := Lib.hid PT.2.1
    have PL := Lib.hid PT.1
    have KB := Keep.al wo (.cells #[.slice a5 n5 c5, .slice a6 n6 c6, .int .i64 (rtAt rs j).result, .slice a3 n3 c3, .int .i64 (rtAt rs j).body.result] 71)
    have KY := Lib.hid (KX.out.trans KB)
    have QP := Lib.hid (r3.k KY.out).kd
    have QB := Lib.hid (r4.k KY.out).kd
    have QS := Lib.hid (HSX.out.k (KB.trans (Ext.refl (fun _ => False) _).drew))
    have HSY := Lib.hid (HSX.out.k KB)
    have RSy := Lib.hid (row_ext RSx.out KB (fun h => h))
    have HO := Lib.hid (HFT.out j HJ.out)
    have R0y := Lib.hid (row_ext R0x.out KB (fun h => h))
    have RBy := Lib.hid (rowOf wo #[.slice a5 n5 c5, .slice a6 n6 c6, .int .i64 (rtAt rs j).result, .slice a3 n3 c3, .int .i64 (rtAt rs j).body.result] 71)
    clear d0 d1 d2 d3 d4 r3 r4 PT
    obtain ⟨N, hN⟩ : ∃ N, stepsL (rtAt rs j).body.steps = N := ⟨_, rfl⟩
    have HN := Lib.hid hN
    clear hN
    go_upto_region 7 with fail
    generalize hW : wo.alloc (.cells #[.slice a5 n5 c5, .slice a6 n6 c6, .int .i64 (rtAt rs j).result, .slice a3 n3 c3, .int .i64 (rtAt rs j).body.result] 71) = W at *
    clear hW g0 g1 g2 g3 g4
    generalize hs4 : wo.heap.size = s4 at *
    clear hs4 KB
    have y0 := RBy.out.cell (i := 0) (by simp)
    have y1 := RBy.out.cell (i := 1) (by simp)
    have y2 := RBy.out.cell (i := 2) (by simp)
    have y3 := RBy.out.cell (i := 3) (by simp)
    have y4 := RBy.out.cell (i := 4) (by simp)
    simp at y0 y1 y2 y3 y4
    have z0 := RSy.out.cell (i := 0) (by simp)
    have z1 := RSy.out.cell (i := 1) (by simp)
    simp at z0 z1
    have pc := Ext.refl0 W
    by_cases hn : N < 0
    · have HN1 : Hid (stepsL (rtAt rs j).body.steps = -1) := by
        show _ = _
        refine stepsL_no (fun hc => ?_)
        have h2 := HN.out
        rw [stepsL_yes hc] at h2
        omega
      have V : Hid (normOk ds rs = false) := normOk_at HJ.out (normAt_steps (by rw [HN.out]; exact hn))
      clear hn
      refine wp_region_held_drew (S := fun w' => w'.cell? ⟨s4, 0, none⟩ = some (.slice a5 n5 c5) ∧ w'.cell? ⟨s4, 1, none⟩ = some (.slice a6 n6 c6) ∧ w'.cell? ⟨s4, 2, none⟩ = some (.int .i64 (rtAt rs j).result) ∧ w'.cell? ⟨s4, 3, none⟩ = some (.slice a3 n3 c3) ∧ w'.cell? ⟨s4, 4, none⟩ = some (.int .i64 (rtAt rs j).body.result) ∧ w'.cell? ⟨s7, 0, none⟩ = some (.slice b0 m0 d0) ∧ w'.cell? ⟨s7, 1, none⟩ = some (.slice b1 m1 d1)) (by kernel_rfl) ⟨Keep.at pc y0, Keep.at pc y1, Keep.at pc y2, Keep.at pc y3, Keep.at pc y4, Keep.at pc z0, Keep.at pc z1⟩ (fun hHeld => ?_)
      refine wT 0 hHeld ?_
      try go_frame
      refine wT 1 hHeld ?_
      try go_frame
      refine wO 2 (fun K hK => ?_)
      go_simp
      refine (implStepsOf (rtAt rs j).body.steps _ _ _ _ _ _ (QB.out.k pc)).mono ?_
      rw [HN1.out]
      rintro e w3 ⟨rfl, p3⟩
      replace pc := Ext.trans pc p3
      refine hK.out _ _ ⟨Keep.at pc y0, Keep.at pc y1, Keep.at pc y2, Keep.at pc y3, Keep.at pc y4, Keep.at pc z0, Keep.at pc z1⟩ (fun hHeld => ?_)
      clear hK K
      try go_frame
      refine wT 3 hHeld ?_
      try go_frame
      refine wT 4 hHeld ?_
      try go_frame
      refine wS 5 hHeld ?_
      try go_frame
      refine wS 6 hHeld ?_
      try go_frame
      refine wS 7 hHeld ?_
      try go_frame
      refine wS 8 hHeld ?_
      try go_frame
      refine wS 9 hHeld ?_
      try go_frame
      refine wS 10 hHeld ?_
      try go_frame
      refine wS 11 hHeld ?_
      try go_frame
      refine wS 12 hHeld ?_
      try go_frame
      refine wS 13 hHeld ?_
      try go_frame
      refine wT 14 hHeld ?_
      try go_frame
      refine wpAnyH_done (by kernel_rfl) ?_ _
      go_wp2_with fail
      exact fin_ hQ ⟨ret_b V.out.symm, KY.out.trans (Keep.dt pc)⟩
    have NN : Hid (normAt ds rs j = decide (runT ds (rs.map sigR) (rtAt rs j).body.result (rtAt rs j).params (rtAt rs j).body.steps = (rtAt rs j).result)) := normAt_ty (by rw [HN.out]; exact hn)
    have hn' : decide (N < 0) = false := decide_eq_false hn
    have hn0 : 0 ≤ N := by omega
    have HBD : Hid ((rtAt rs j).params.length + 4 * nSs (rtAt rs j).body.steps ≤ 1052000) := by
      show _ ≤ _
      have h1 := PL.out
      have h2 := stepsL_le (ss := (rtAt rs j).body.steps) (by rw [HN.out]; exact hn)
      omega
    obtain ⟨z, hz⟩ : ∃ z, runT ds (rs.map sigR) (rtAt rs j).body.result (rtAt rs j).params (rtAt rs j).body.steps = z := ⟨_, rfl⟩
    have HZ := Lib.hid hz
    clear hz hn
    by_cases ht : z = (rtAt rs j).result
    · have VB : Hid (normAt ds rs j = true) := by show _ = _; rw [NN.out, HZ.out]; exact decide_eq_true ht
      have ht' : (z != (rtAt rs j).result) = false := by simpa using ht
      clear ht
      go_region_held3 (fun w' => w'.cell? ⟨s4, 0, none⟩ = some (.slice a5 n5 c5) ∧ w'.cell? ⟨s4, 1, none⟩ = some (.slice a6 n6 c6) ∧ w'.cell? ⟨s4, 2, none⟩ = some (.int .i64 (rtAt rs j).result) ∧ w'.cell? ⟨s4, 3, none⟩ = some (.slice a3 n3 c3) ∧ w'.cell? ⟨s4, 4, none⟩ = some (.int .i64 (rtAt rs j).body.result) ∧ w'.cell? ⟨s7, 0, none⟩ = some (.slice b0 m0 d0) ∧ w'.cell? ⟨s7, 1, none⟩ = some (.slice b1 m1 d1))
        (first | exact ⟨Keep.at pc y0, Keep.at pc y1, Keep.at pc y2, Keep.at pc y3, Keep.at pc y4, Keep.at pc z0, Keep.at pc z1⟩ | go_keep)
        (first
          | (go_at_call 30; refine (implStepsOf (rtAt rs j).body.steps _ _ _ _ _ _ (QB.out.k pc)).mono ?_; rw [HN.out]; rintro e w3 ⟨rfl, p3⟩; replace pc := Ext.trans pc p3)
          | (go_at_call 85; refine (implBlk ds (rs.map sigR) V1.out _ (rtAt rs j).body.steps HO.out _ _ _ _ _ _ _ _ _ (rtAt rs j).params _ _ _ _ (QS.out.k pc) (QP.out.k pc).toInts (QB.out.k pc) HBD.out AT.out).mono ?_; rw [HZ.out]; rintro e w5 ⟨rfl, p5⟩; replace pc := Ext.trans pc p5))
      have KE := Lib.hid (KY.out.trans (Keep.dt pc))
      have R0z := Lib.hid (row_ext R0y.out (Keep.dt pc) (fun h => h))
      have RSz := Lib.hid (row_ext RSy.out (Keep.dt pc) (fun h => h))
      have HSZ := Lib.hid (HSY.out.k (Keep.dt pc))
      clear pc y0 y1 y2 y3 y4 z0 z1
      go_wp2_with fail
      go_roundw
      case rel => exact ⟨j + 1, by omega, by go_num, fun l hl => by
        rcases Nat.lt_succ_iff_lt_or_eq.1 hl with h | rfl
        · exact H.out l h
        · exact VB.out, KE.out, R0z.out, RSz.out, HSZ.out⟩
      case measure => simp [intOf]; omega
    · have V : Hid (normOk ds rs = false) := normOk_at HJ.out (show normAt ds rs j = false by rw [NN.out, HZ.out]; exact decide_eq_false ht)
      have ht' : (z != (rtAt rs j).result) = true := by simpa using ht
      clear ht
      go_region_held3 (fun w' => w'.cell? ⟨s4, 0, none⟩ = some (.slice a5 n5 c5) ∧ w'.cell? ⟨s4, 1, none⟩ = some (.slice a6 n6 c6) ∧ w'.cell? ⟨s4, 2, none⟩ = some (.int .i64 (rtAt rs j).result) ∧ w'.cell? ⟨s4, 3, none⟩ = some (.slice a3 n3 c3) ∧ w'.cell? ⟨s4, 4, none⟩ = some (.int .i64 (rtAt rs j).body.result) ∧ w'.cell? ⟨s7, 0, none⟩ = some (.slice b0 m0 d0) ∧ w'.cell? ⟨s7, 1, none⟩ = some (.slice b1 m1 d1))
        (first | exact ⟨Keep.at pc y0, Keep.at pc y1, Keep.at pc y2, Keep.at pc y3, Keep.at pc y4, Keep.at pc z0, Keep.at pc z1⟩ | go_keep)
        (first
          | (go_at_call 30; refine (implStepsOf (rtAt rs j).body.steps _ _ _ _ _ _ (QB.out.k pc)).mono ?_; rw [HN.out]; rintro e w3 ⟨rfl, p3⟩; replace pc := Ext.trans pc p3)
          | (go_at_call 85; refine (implBlk ds (rs.map sigR) V1.out _ (rtAt rs j).body.steps HO.out _ _ _ _ _ _ _ _ _ (rtAt rs j).params _ _ _ _ (QS.out.k pc) (QP.out.k pc).toInts (QB.out.k pc) HBD.out AT.out).mono ?_; rw [HZ.out]; rintro e w5 ⟨rfl, p5⟩; replace pc := Ext.trans pc p5))
      go_wp2_with fail
      exact fin_ hQ ⟨ret_b V.out.symm, KY.out.trans (Keep.dt pc)⟩
end Go.Proofs.YtkapldpmjkdmcaaGreat
/- Normal forms of expressions, plain: the steps and the variable of an expression; their number; the integers that they hold. -/
namespace Go.Proofs.YtkapldpmjkdmcaaGreat
open Go.RowKit

/-- Some numbers in order. -/
def numsL (n m : Nat) : List Int := (List.range m).map (fun i => ((n + i : Nat) : Int))
mutual
/-- The steps of an expression in a scope of n variables, those of the expression being env, and the variable that stands for it. -/
def lowE (ds : List DeclL) : ExprL → List Int → Nat → List StepL × Int
  | .mk op num ks, env, n =>
    if op = 12 then ([], iAt env num.toNat)
    else if op = 13 then lowLet ds ks env n
    else if op = 7 ∨ op = 8 then lowChoice ds op num ks env n
    else ((lowA ds ks env n).1 ++ [.mk op num 0 (lowA ds ks env n).2 []], ((n + (lowA ds ks env n).1.length : Nat) : Int))
def lowA (ds : List DeclL) : List ExprL → List Int → Nat → List StepL × List Int
  | [], _, _ => ([], [])
  | e :: es, env, n => ((lowE ds e env n).1 ++ (lowA ds es env (n + (lowE ds e env n).1.length)).1, (lowE ds e env n).2 :: (lowA ds es env (n + (lowE ds e env n).1.length)).2)
def lowLet (ds : List DeclL) : List ExprL → List Int → Nat → List StepL × Int
  | [], _, _ => ([], 0)
  | e :: es, env, n => ((lowE ds e env n).1 ++ (lowHd ds es (env ++ [(lowE ds e env n).2]) (n + (lowE ds e env n).1.length)).1, (lowHd ds es (env ++ [(lowE ds e env n).2]) (n + (lowE ds e env n).1.length)).2)
def lowHd (ds : List DeclL) : List ExprL → List Int → Nat → List StepL × Int
  | [], _, _ => ([], 0)
  | e :: _, env, n => lowE ds e env n
def lowChoice (ds : List DeclL) (op num : Int) : List ExprL → List Int → Nat → List StepL × Int
  | [], _, _ => ([], 0)
  | e :: es, env, n => ((lowE ds e env n).1 ++ [.mk op num 0 [(lowE ds e env n).2] (lowK ds es (if op = 8 then armsL ds num else [[], []]) env (n + (lowE ds e env n).1.length))], ((n + (lowE ds e env n).1.length : Nat) : Int))
def lowK (ds : List DeclL) : List ExprL → List (List Int) → List Int → Nat → List BlockL
  | [], _, _, _ => []
  | e :: es, fs, env, n => .mk (lowE ds e (env ++ numsL n (fs.headD []).length) (n + (fs.headD []).length)).1 (lowE ds e (env ++ numsL n (fs.headD []).length) (n + (fs.headD []).length)).2 :: lowK ds es fs.tail env n
end

section
variable (ds : List DeclL) {num : Int} {ks : List ExprL} (env : List Int) (n : Nat)
/-- The fields of the kids of a choice. -/
def kidsF (ds : List DeclL) (op num : Int) : List (List Int) := if op = 8 then armsL ds num else [[], []]
theorem lowA_len (es : List ExprL) (n : Nat) : (lowA ds es env n).2.length = es.length := by
  induction es generalizing n with
  | nil => simp [lowA]
  | cons x xs ih => rw [lowA]; simp [ih]
/-- The block of kid i. -/
def kidB (ds : List DeclL) (fs : List (List Int)) (env : List Int) (n : Nat) (es : List ExprL) (i : Nat) : BlockL := .mk (lowE ds (eAt es i) (env ++ numsL n (cAt fs i).length) (n + (cAt fs i).length)).1 (lowE ds (eAt es i) (env ++ numsL n (cAt fs i).length) (n + (cAt fs i).length)).2
end

/-! ### How many steps, and how many integers -/
theorem nSs_lenN (ss : List StepL) : ss.length ≤ nSs ss := by
  induction ss with
  | nil => simp
  | cons e es ih => have := nS_eq e; simp only [List.length_cons, nSs]; omega
theorem cntS_app (a b : List StepL) : cntRR (rowsS (a ++ b)) = cntRR (rowsS a) + cntRR (rowsS b) := by rw [rowsS_map, rowsS_map, rowsS_map, List.map_append, cntRR_append]
theorem cnt_intsL (xs : List Int) : cntD (encInts xs) = xs.length := by
  rw [encInts, cntD]
  induction xs with
  | nil => rfl
  | cons x xs ih => simp only [List.map_cons, cntRR, rowI, cntR, cntD, ih, List.length_cons]; omega
mutual
/-- An expression has at least as many nodes as its steps, and those of all blocks in them. -/
theorem lowE_nSs (ds : List DeclL) : ∀ (e : ExprL) (env : List Int) (n : Nat), nSs (lowE ds e env n).1 ≤ nE e
  | .mk op num ks, env, n => by
    rw [lowE, nE]
    split
    · simp [nSs]
    split
    · have := lowLet_nSs ds ks env n; omega
    split
    · exact lowChoice_nSs ds op num ks env n
    · have := lowA_nSs ds ks env n
      rw [nSs_append]; simp only [nSs, nS, nBs]; omega
theorem lowA_nSs (ds : List DeclL) : ∀ (es : List ExprL) (env : List Int) (n : Nat), nSs (lowA ds es env n).1 ≤ nEs es
  | [], env, n => by simp [lowA, nSs]
  | e :: es, env, n => by
    have h1 := lowE_nSs ds e env n
    have h2 := lowA_nSs ds es env (n + (lowE ds e env n).1.length)
    rw [lowA, nEs]
    simp only [nSs_append]; omega
theorem lowLet_nSs (ds : List DeclL) : ∀ (es : List ExprL) (env : List Int) (n : Nat), nSs (lowLet ds es env n).1 ≤ nEs es
  | [], env, n => by simp [lowLet, nSs]
  | e :: es, env, n => by
    have h1 := lowE_nSs ds e env n
    have h2 := lowHd_nSs ds es (env ++ [(lowE ds e env n).2]) (n + (lowE ds e env n).1.length)
    rw [lowLet, nEs]
    simp only [nSs_append]; omega
theorem lowHd_nSs (ds : List DeclL) : ∀ (es : List ExprL) (env : List Int) (n : Nat), nSs (lowHd ds es env n).1 ≤ nEs es
  | [], env, n => by simp [lowHd, nSs]
  | e :: es, env, n => by
    have h1 := lowE_nSs ds e env n
    rw [lowHd, nEs]; omega
theorem lowChoice_nSs (ds : List DeclL) (op num : Int) : ∀ (es : List ExprL) (env : List Int) (n : Nat), nSs (lowChoice ds op num es env n).1 ≤ nEs es + 1
  | [], env, n => by simp [lowChoice, nSs]
  | e :: es, env, n => by
    have h1 := lowE_nSs ds e env n
    have h2 := lowK_nBs ds es (if op = 8 then armsL ds num else [[], []]) env (n + (lowE ds e env n).1.length)
    rw [lowChoice, nEs]
    simp only [nSs_append, nSs, nS]; omega
theorem lowK_nBs (ds : List DeclL) : ∀ (es : List ExprL) (fs : List (List Int)) (env : List Int) (n : Nat), nBs (lowK ds es fs env n) ≤ nEs es
  | [], fs, env, n => by simp [lowK, nBs]
  | e :: es, fs, env, n => by
    have h1 := lowE_nSs ds e (env ++ numsL n (fs.headD []).length) (n + (fs.headD []).length)
    have h2 := lowK_nBs ds es fs.tail env n
    rw [lowK, nEs, nBs, nB]; omega
end
mutual
theorem lowE_cnt (ds : List DeclL) : ∀ (e : ExprL) (env : List Int) (n : Nat), cntRR (rowsS (lowE ds e env n).1) + 2 ≤ 5 * nE e
  | .mk op num ks, env, n => by
    rw [lowE, nE]
    split
    · simp [rowsS, cntRR]; omega
    split
    · have := lowLet_cnt ds ks env n; omega
    split
    · have := lowChoice_cnt ds op num ks env n; omega
    · have := lowA_cnt ds ks env n
      have h3 := cnt_intsL (lowA ds ks env n).2
      have h4 := lowA_len ds env ks n
      rw [cntS_app]; simp only [rowsS, rowS, cntRR, cntR, cntD, rowsB, h3]; omega
theorem lowA_cnt (ds : List DeclL) : ∀ (es : List ExprL) (env : List Int) (n : Nat), cntRR (rowsS (lowA ds es env n).1) + 2 * es.length ≤ 5 * nEs es
  | [], env, n => by simp [lowA, rowsS, cntRR]
  | e :: es, env, n => by
    have h1 := lowE_cnt ds e env n
    have h2 := lowA_cnt ds es env (n + (lowE ds e env n).1.length)
    rw [lowA, nEs]
    simp only [cntS_app, List.length_cons]; omega
theorem lowLet_cnt (ds : List DeclL) : ∀ (es : List ExprL) (env : List Int) (n : Nat), cntRR (rowsS (lowLet ds es env n).1) ≤ 5 * nEs es
  | [], env, n => by simp [lowLet, rowsS, cntRR]
  | e :: es, env, n => by
    have h1 := lowE_cnt ds e env n
    have h2 := lowHd_cnt ds es (env ++ [(lowE ds e env n).2]) (n + (lowE ds e env n).1.length)
    rw [lowLet, nEs]
    simp only [cntS_app]; omega
theorem lowHd_cnt (ds : List DeclL) : ∀ (es : List ExprL) (env : List Int) (n : Nat), cntRR (rowsS (lowHd ds es env n).1) ≤ 5 * nEs es
  | [], env, n => by simp [lowHd, rowsS, cntRR]
  | e :: es, env, n => by
    have h1 := lowE_cnt ds e env n
    rw [lowHd, nEs]; omega
theorem lowChoice_cnt (ds : List DeclL) (op num : Int) : ∀ (es : List ExprL) (env : List Int) (n : Nat), cntRR (rowsS (lowChoice ds op num es env n).1) ≤ 5 * nEs es + 2
  | [], env, n => by simp [lowChoice, rowsS, cntRR]
  | e :: es, env, n => by
    have h1 := lowE_cnt ds e env n
    have h2 := lowK_cnt ds es (if op = 8 then armsL ds num else [[], []]) env (n + (lowE ds e env n).1.length)
    have h3 := cnt_intsL [(lowE ds e env n).2]
    rw [lowChoice, nEs]
    simp only [cntS_app, rowsS, rowS, cntRR, cntR, cntD, h3, List.length_singleton]; omega
theorem lowK_cnt (ds : List DeclL) : ∀ (es : List ExprL) (fs : List (List Int)) (env : List Int) (n : Nat), cntRR (rowsB (lowK ds es fs env n)) ≤ 5 * nEs es
  | [], fs, env, n => by simp [lowK, rowsB, cntRR]
  | e :: es, fs, env, n => by
    have h1 := lowE_cnt ds e (env ++ numsL n (fs.headD []).length) (n + (fs.headD []).length)
    have h2 := lowK_cnt ds es fs.tail env n
    rw [lowK, nEs]
    simp only [rowsB, rowB, cntRR, cntR, cntD]; omega
end

/-! ### Kids of what has a type -/
section
variable {ds : List DeclL} {sg : List SigL} {num : Int} {ks : List ExprL} {vars : List Int}
end
/-! ### Programs -/
/-- The normal form of a function. -/
def nrmF (ds : List DeclL) (f : FuncL) : RoutL := ⟨f.params, [], f.result, .mk (lowE ds f.body (numsL 0 f.params.length) f.params.length).1 (lowE ds f.body (numsL 0 f.params.length) f.params.length).2⟩
end Go.Proofs.YtkapldpmjkdmcaaGreat
/- Normal forms without counting steps, plain. -/
namespace Go.Proofs.YtkapldpmjkdmcaaGreat
open Go.RowKit

mutual
/-- The steps that do not count, with Into 0. -/
def plSs : List StepL → List StepL
  | [] => []
  | s :: ss => if 14 ≤ s.op ∧ s.op ≤ 17 then plSs ss else plS s :: plSs ss
def plS : StepL → StepL
  | .mk op num _ args ks => .mk op num 0 args (plBs ks)
def plB : BlockL → BlockL
  | .mk ss r => .mk (plSs ss) r
def plBs : List BlockL → List BlockL
  | [] => []
  | b :: bs => plB b :: plBs bs
end
theorem plSs_append (a b : List StepL) : plSs (a ++ b) = plSs a ++ plSs b := by
  induction a with
  | nil => simp [plSs]
  | cons s ss ih => rw [List.cons_append, plSs, plSs, ih]; split <;> simp
theorem plSs_take {ss : List StepL} {j : Nat} (h : j < ss.length) : plSs (ss.take (j + 1)) = plSs (ss.take j) ++ (if 14 ≤ (sAt ss j).op ∧ (sAt ss j).op ≤ 17 then [] else [plS (sAt ss j)]) := by
  rw [List.take_succ_eq_append_getElem h, sAt_get h, plSs_append, plSs, plSs]
theorem plSs_len (ss : List StepL) : (plSs ss).length ≤ ss.length := by
  induction ss with
  | nil => simp [plSs]
  | cons s ss ih => rw [plSs]; split <;> simp only [List.length_cons] <;> omega
theorem plBs_map (bs : List BlockL) : plBs bs = bs.map plB := by
  induction bs with
  | nil => simp [plBs]
  | cons b bs ih => rw [plBs, ih]; rfl
theorem plBs_take {bs : List BlockL} {j : Nat} (h : j < bs.length) : plBs (bs.take (j + 1)) = plBs (bs.take j) ++ [plB (bAt bs j)] := by
  rw [plBs_map, plBs_map, List.take_succ_eq_append_getElem h, bAt_get h, List.map_append]; rfl
theorem plB_eq (b : BlockL) : plB b = .mk (plSs b.steps) b.result := by cases b; rw [plB]; rfl
theorem plS_eq (s : StepL) : plS s = .mk s.op s.num 0 s.args (plBs s.kids) := by cases s; rw [plS]; rfl
/-- A routine, its body plain. -/
def plR (r : RoutL) : RoutL := ⟨r.params, r.lent, r.result, plB r.body⟩
theorem plR_row (r : RoutL) : rowR (plR r) = [encInts r.params, encInts r.lent, .num r.result, encSteps (plSs r.body.steps), .num r.body.result] := by
  rw [rowR, plR, plB_eq]; rfl

mutual
theorem plS_cnt : ∀ s : StepL, cntR (rowS (plS s)) ≤ cntR (rowS s)
  | .mk op num into args ks => by
    have := plBs_cnt ks
    rw [plS]; simp only [rowS, cntR, cntD]; omega
theorem plSs_cnt : ∀ ss : List StepL, cntRR (rowsS (plSs ss)) ≤ cntRR (rowsS ss)
  | [] => by rw [plSs]; exact Nat.le_refl _
  | s :: ss => by
    have h1 := plS_cnt s
    have h2 := plSs_cnt ss
    rw [plSs]
    split <;> simp only [rowsS, cntRR] <;> omega
theorem plB_cnt : ∀ b : BlockL, cntR (rowB (plB b)) ≤ cntR (rowB b)
  | .mk ss r => by
    have := plSs_cnt ss
    rw [plB]; simp only [rowB, cntR, cntD]; omega
theorem plBs_cnt : ∀ bs : List BlockL, cntRR (rowsB (plBs bs)) ≤ cntRR (rowsB bs)
  | [] => by rw [plBs]; exact Nat.le_refl _
  | b :: bs => by
    have h1 := plB_cnt b
    have h2 := plBs_cnt bs
    rw [plBs]
    simp only [rowsB, cntRR]; omega
end
theorem plRs_cnt (rs : List RoutL) : cntD (encRouts (rs.map plR)) ≤ cntD (encRouts rs) := by
  rw [encRouts, encRouts, cntD, cntD, List.map_map]
  induction rs with
  | nil => exact Nat.le_refl _
  | cons r rs ih =>
    have h1 := plSs_cnt r.body.steps
    have h2 : rowR r = [encInts r.params, encInts r.lent, .num r.result, encSteps r.body.steps, .num r.body.result] := rfl
    simp only [List.map_cons, Function.comp, cntRR, plR_row, h2, cntR, encSteps, cntD] at ih ⊢
    omega

/-! ### What has a type has steps of operations that there are -/
mutual
def plOk : StepL → Prop
  | .mk op _ _ args ks => ((0 ≤ op ∧ op ≤ 11) ∨ (14 ≤ op ∧ op ≤ 17)) ∧ args.length ≤ 1048576 ∧ ks.length ≤ 3 ∧ plOkBs ks
def plOkSs : List StepL → Prop
  | [] => True
  | s :: ss => plOk s ∧ plOkSs ss
def plOkB : BlockL → Prop
  | .mk ss _ => plOkSs ss
def plOkBs : List BlockL → Prop
  | [] => True
  | b :: bs => plOkB b ∧ plOkBs bs
end
theorem plOkSs_at {ss : List StepL} (h : plOkSs ss) {j : Nat} (hj : j < ss.length) : plOk (sAt ss j) := by
  induction ss generalizing j with
  | nil => simp at hj
  | cons s ss ih =>
    rw [plOkSs] at h
    rcases j with _ | j
    · exact h.1
    · have := ih h.2 (j := j) (by simpa using hj)
      simpa [sAt] using this
theorem plOkBs_at {bs : List BlockL} (h : plOkBs bs) {j : Nat} (hj : j < bs.length) : plOkSs (bAt bs j).steps := by
  induction bs generalizing j with
  | nil => simp at hj
  | cons b bs ih =>
    rw [plOkBs] at h
    rcases j with _ | j
    · have h1 := h.1
      have e : bAt (b :: bs) 0 = b := by simp [bAt]
      rw [e]
      cases b
      rw [plOkB] at h1; exact h1
    · have := ih h.2 (j := j) (by simpa using hj)
      simpa [bAt] using this
theorem plOkBs_of {bs : List BlockL} (h : ∀ j, j < bs.length → plOkSs (bAt bs j).steps) : plOkBs bs := by
  induction bs with
  | nil => rw [plOkBs]; trivial
  | cons b bs ih =>
    rw [plOkBs]
    refine ⟨?_, ih (fun j hj => by have := h (j + 1) (by simpa using hj); simpa [bAt] using this)⟩
    have := h 0 (by simp)
    have e : bAt (b :: bs) 0 = b := by simp [bAt]
    rw [e] at this
    cases b
    rw [plOkB]; exact this
theorem leaf_ops {ds : List DeclL} {sg : List SigL} {op num : Int} {tys : List Int} (h : 0 ≤ leafL ds sg op num tys) : (0 ≤ op ∧ op ≤ 11) ∨ (14 ≤ op ∧ op ≤ 17) := by
  unfold leafL at h
  split at h
  · next h1 => exact .inr h1
  split at h
  · omega
  · refine Decidable.byContradiction fun hn => ?_
    rw [simpleL] at h
    rw [if_neg (by omega), if_neg (by omega), if_neg (by omega), if_neg (by omega), if_neg (by omega), if_neg (by omega), if_neg (by omega)] at h
    omega
section
variable {ds : List DeclL} {sg : List SigL} (hok : sigsOk ds sg = true)
include hok
theorem plOk_n (N : Nat) : ∀ (r : Int) (ss : List StepL), nSs ss < N → okSs ss → ∀ sc, 0 ≤ runT ds sg r sc ss → plOkSs ss := by
  induction N with
  | zero => intro r ss h; omega
  | succ N ih =>
  intro r ss
  induction ss with
  | nil => intro _ _ _ _; rw [plOkSs]; trivial
  | cons s ss ih2 =>
    intro hn ho sc ht
    rw [okSs] at ho
    rw [nSs] at hn
    rw [runT_cons] at ht
    split at ht
    · omega
    next h0 =>
    rw [plOkSs]
    refine ⟨?_, ih2 (by omega) ho.2 _ ht⟩
    obtain ⟨op, num, into, args, ks⟩ := s
    have ho1 := ho.1
    rw [okS] at ho1
    have hk : ∀ j, j < ks.length → nSs (bAt ks j).steps < N := fun j hj => by have := nB_le ks hj; rw [nS] at hn; have := nB_eq (bAt ks j); omega
    have kid : ∀ fs, 0 ≤ oneT (armT ds sg sc ks fs) → plOkBs ks := fun fs hs => plOkBs_of (fun j hj => by
      have h1 := oneT_all hs (i := j) (by rw [armT_len]; exact hj)
      rw [armT_at _ _ _ hj, blkT_eq] at h1
      exact ih _ _ (hk j hj) (okBs_at ho1.2.2 hj) _ h1)
    rw [plOk]
    rw [stpT] at h0
    split at h0
    · omega
    split at h0
    · next h7 =>
      split at h0
      · next h8 => exact ⟨by omega, ho1.2.1, by omega, kid _ (Int.not_lt.1 h0)⟩
      · omega
    split at h0
    · next h7 =>
      split at h0
      · next h8 =>
        have h9 := consL_len (Few.of_ok (sigsOk_parts hok).1) num
        have h10 := armsL_len ds num
        exact ⟨by omega, ho1.2.1, by omega, kid _ (Int.not_lt.1 h0)⟩
      · omega
    split at h0
    · omega
    · next hk0 =>
      have e : ks = [] := List.eq_nil_of_length_eq_zero (by omega)
      subst e
      refine ⟨leaf_ops (Int.not_lt.1 h0), ho1.2.1, by simp, ?_⟩
      rw [plOkBs]; trivial
end
theorem plOk_of {ds : List DeclL} {rs : List RoutL} (h : normOk ds rs = true) (ho : okRs rs) {i : Nat} (hi : i < rs.length) : plOkSs (rtAt rs i).body.steps ∧ nSs (rtAt rs i).body.steps ≤ 600 := by
  obtain ⟨hok, ha⟩ := normOk_parts h
  have h1 := ha i hi
  have h2 := (sigR_at hok hi).2.2
  by_cases hs : stepsL (rtAt rs i).body.steps < 0
  · rw [normAt_steps hs] at h1; cases h1
  · rw [normAt_ty hs] at h1
    have h3 := of_decide_eq_true h1
    refine ⟨plOk_n hok _ _ _ (Nat.lt_succ_self _) (ho i hi) _ (by rw [h3]; exact h2), ?_⟩
    rw [stepsL] at hs
    first | omega | (split at hs <;> omega)
end Go.Proofs.YtkapldpmjkdmcaaGreat
