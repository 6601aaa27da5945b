/- The program's types of steps: constructors that are put into a cell. -/
import Derived.Test.YtmekdccgjgfiaaaQBC
import Derived.Test.YtmekdccgjgfiaaaQBD
import Derived.Test.YtmekdccgjgfiaaaQBE
import Derived.Test.YtmekdccgjgfiaaaQAO
import Derived.Test.YtmekdccgjgfiaaaQAW
import Derived.Test.YtmekdccgjgfiaaaQAB
import Derived.Deep.Slices
import Derived.ChangeSame
import Derived.ChangeSlices
import Derived.ChangeArms
namespace Go.Proofs.Ytmekdccgjgfiaaa
open Go.RowKit

section
variable (ds : List DeclL) (sg : List SigL) (hok : sigsOk ds sg = true)
include hok

set_option maxRecDepth 100000 in
set_option maxHeartbeats 1500000 in
theorem implStep_c (op num into : Int) (args : List Int) (ks : List BlockL) (hos : okS (.mk op num into args ks)) (IH0 : ∀ j, j < ks.length → BlI ds sg (bAt ks j).result (bAt ks j).steps) (a0 : Option Addr) (n0 c0 : Nat) (a1 : Option Addr) (n1 c1 : Nat) (av : Option Addr) (nv cv : Nat) (sc : List Int) (aa : Option Addr) (na ca : Nat) (ak : Option Addr) (nk ck : Nat) (w : World) (hp : SR w (fun _ => True) ds sg a0 n0 c0 a1 n1 c1) (hv : IntsL w (fun _ => True) av nv sc) (ha : Rd w (fun _ => True) (encInts args) (.slice aa na ca)) (hk : Rd w (fun _ => True) (encBlocks ks) (.slice ak nk ck)) (hlen : sc.length + 4 * (nBs ks + 1) ≤ 1052000) (hall : allT ds.length sc = true) (h6 : op = 6) (h0 : into ≠ 0) (hi : intoOk sc op into = true) :
    Calls Try.prog 53 #[.agg #[.slice a0 n0 c0, .slice a1 n1 c1], .slice av nv cv, .agg #[.int .i64 op, .int .i64 num, .int .i64 into, .slice aa na ca, .slice ak nk ck]] w (StR ds sg sc (.mk op num into args ks) w) := by
  have HHI := Lib.hid hi
  have HH6 := Lib.hid h6
  have H0' := Lib.hid h0
  have HH6' : Hid (1 ≤ into ∧ into ≤ (sc.length : Int) ∧ 0 < iAt sc (into.toNat - 1)) := by
    rcases of_decide_eq_true hi with h | h
    · exact absurd h h0
    · exact ⟨by omega, by omega, by have := h.2.2.2; omega⟩
  clear hi h6 h0
  refine calls_k fun Q hQ => ?_
  rw [okS] at hos
  have ht := (sigsOk_parts hok).1
  have hf := Few.of_ok ht
  have hn0 : n0 ≤ 4 := by have := (decls_at hp.1).1; have := typesOk_len ht; omega
  have hn1 : n1 ≤ 4 := by have := (sigs_at hp.2).1; have := (sigsOk_parts hok).2.2.1; omega
  have hnv : nv ≤ 1052000 := by have := hv.1; omega
  have hna : na ≤ 1048576 := by have := (ints_at ha).1; have := hos.2.1; omega
  have HNL : Hid (args.length = na) := (ints_at ha).1
  have HSL : Hid (sc.length = nv) := hv.1
  have HNK : Hid (ks.length = nk) := (blocks_at hk).1
  have hnk : nk ≤ 9223372036854775807 := (blocks_at hk).2.2.1
  have HFN := Lib.hid hos.1
  have HOK := Lib.hid hok
  have HAll := Lib.hid hall
  have HLen := Lib.hid hlen
  have HT := Lib.hid ht
  have HF := Lib.hid hf
  have IH := Lib.hid IH0
  have K0 := Lib.hid ((Keep.al w (.cells #[.slice a0 n0 c0, .slice a1 n1 c1] 59)).trans (Keep.al _ (.cells #[.int .i64 op, .int .i64 num, .int .i64 into, .slice aa na ca, .slice ak nk ck] 89)))
  have R0 := (rowOf w #[.slice a0 n0 c0, .slice a1 n1 c1] 59).alloc (.cells #[.int .i64 op, .int .i64 num, .int .i64 into, .slice aa na ca, .slice ak nk ck] 89)
  have R1 := rowOf (w.alloc (.cells #[.slice a0 n0 c0, .slice a1 n1 c1] 59)) #[.int .i64 op, .int .i64 num, .int .i64 into, .slice aa na ca, .slice ak nk ck] 89
  simp only [World.size_alloc] at R1
  have R0a := Lib.hid R0
  have R1a := Lib.hid R1
  have ya := R1.cell (i := 3) (by simp)
  simp at ya
  have hzm : w.heap.size + 2 ≤ ((w.alloc (.cells #[.slice a0 n0 c0, .slice a1 n1 c1] 59)).alloc (.cells #[.int .i64 op, .int .i64 num, .int .i64 into, .slice aa na ca, .slice ak nk ck] 89)).heap.size := by simp
  clear hok hall ht IH0 hf hos R0 R1
  go_enter Try.func53, Try.ntmps53
  obtain ⟨iI, hiI, hz0I, hz1I, hz2I⟩ := info_parts (show (Try.prog.info? 3).map (fun i => (i.zero, i.size, i.bytes)) = some (some (.int .i64 0), 1, 8) by kernel_rfl)
  go_wp2_with (at_make; go_must (refine wpList_make_own _ rfl _ _ 26 rfl (w.heap.size + 2) 3 iI (.int .i64 0) 1 Try.underlying26 hiI hz0I hz1I .i64 .i64 na na rfl rfl rfl (by rw [hz2I]; omega) (by simp only [maxLen]; omega) hzm ?_); intro wm how hgw; have KG := Ext.grown (Ext.refl (fun _ => False) _) hgw (fun k hk => by cases hk); have VM : Hid (VR wm (w.heap.size + 2) (.slice (some ⟨w.heap.size + 1 + 1, 0, none⟩) 0 na) ((tysOf sc args).take 0)) := (by have h := how; simp only [World.size_alloc] at h; exact h); have KM := Lib.hid (K0.out.trans KG); have HWM : Hid (w.heap.size + 2 ≤ wm.heap.size) := Nat.le_trans hzm KG.size; have R0M := Lib.hid (row_ext R0a.out KG (fun h => h)); have R1M := Lib.hid (row_ext R1a.out KG (fun h => h)); have yb := R1M.out.cell (i := 3) (by simp); simp at yb; clear how hgw KG ya)
  go_loopw [8, 22] (fun sv iv wr => ∃ (j : Nat), j ≤ na ∧ iv = .int .i64 j ∧ Hid (∀ l, l < j → 0 ≤ iAt args l ∧ iAt args l < (sc.length : Int)) ∧ Hid (VR wr (w.heap.size + 2) sv ((tysOf sc args).take j)) ∧ Hid (Keep w wr) ∧ Hid (w.heap.size + 2 ≤ wr.heap.size) ∧ Hid (wr.rowIs w.heap.size 59 2 (fun i => (#[.slice a0 n0 c0, .slice a1 n1 c1] : Array Value).getD i undef)) ∧ Hid (wr.rowIs (w.heap.size + 1) 89 5 (fun i => (#[.int .i64 op, .int .i64 num, .int .i64 into, .slice aa na ca, .slice ak nk ck] : Array Value).getD i undef))) (fun _ iv _ => na - (intOf iv).toNat)
  case atStart => exact ⟨0, Nat.zero_le _, rfl, (show ∀ l, l < 0 → _ from fun l hl => absurd hl (by omega)), VM, KM, HWM, R0M, R1M⟩
  case round =>
    obtain ⟨j, hj, rfl, hI, hV, KW, HWZ, R0w, R1w⟩ := hrel
    obtain ⟨wo, rfl⟩ : ∃ wo : World, wo = wr := ⟨_, rfl⟩
    clear VM KM HWM R0M R1M yb
    by_cases hlt : j < na
    · obtain ⟨b, o, rfl, _, d0⟩ := (ha.toInts.ext KW.out (fun _ _ h => h)).at hlt
      obtain ⟨v, hvv⟩ : ∃ v, iAt args j = v := ⟨_, rfl⟩
      rw [hvv] at d0
      have HVV := Lib.hid hvv
      clear hvv
      have HJ : Hid (j < args.length) := by show _ < _; have := HNL.out; omega
      by_cases hr : 0 ≤ v ∧ v < (nv : Int)
      case neg =>
        have V : Hid (stpT ds sg sc (.mk op num into args ks) = -1) := stp_args _ _ _ _ _ _ _ _ (argsIn_neg (i := j) HJ.out (by rw [HVV.out]; have := HSL.out; omega))
        by_cases hr0 : v < 0
        · clear hr
          go_wp2_with fail
          exact fin_ hQ (stR_neg V.out KW.out)
        · have hr1 : (nv : Int) ≤ v := by omega
          have hr2 : ¬ v < (nv : Int) := by omega
          clear hr
          go_wp2_with fail
          exact fin_ hQ (stR_neg V.out KW.out)
      obtain ⟨hr0, hr1⟩ := hr
      obtain ⟨k, rfl⟩ := Int.eq_ofNat_of_zero_le hr0
      have hkn : k < nv := by omega
      obtain ⟨b2, o2, rfl, _, d2⟩ := (hv.ext KW.out (fun _ _ h => h)).at hkn
      obtain ⟨x, hx⟩ : ∃ x, iAt sc k = x := ⟨_, rfl⟩
      rw [hx] at d2
      have ET : Hid ((tysOf sc args).take (j + 1) = (tysOf sc args).take j ++ [x]) := by
        show _ = _
        have h2 : j < (tysOf sc args).length := by rw [tysOf_len]; exact HJ.out
        rw [List.take_succ_eq_append_getElem h2, ← iAt_eq h2, tysOf_at HJ.out, HVV.out]
        rw [← hx]; rfl
      have hI2 : Hid (∀ l, l < j + 1 → 0 ≤ iAt args l ∧ iAt args l < (sc.length : Int)) := fun l hl => by
        rcases Nat.lt_succ_iff_lt_or_eq.1 hl with h | rfl
        · exact hI.out l h
        · rw [HVV.out]; have := HSL.out; omega
      have hlr : ((tysOf sc args).take j).length = j := by rw [List.length_take, tysOf_len]; have := HJ.out; omega
      have HLR := Lib.hid hlr
      have KL := Keep.al wo (.cells #[.int .i64 x] 3)
      have hxt : IntsL (wo.alloc (.cells #[.int .i64 x] 3)) (fun _ => True) (some ⟨wo.heap.size, 0, none⟩) 1 [x] := (lit_intsD wo (fun _ => True) 3 [x] #[.int .i64 x] 1 trivial rfl rfl (by omega)).toInts
      have hv2 : (wo.alloc (.cells #[.int .i64 x] 3)).ownsRow (w.heap.size + 2) 3 1 u8 j (((tysOf sc args).take j).map (Value.int .i64)) := by
        have h := hV.out.k KL
        unfold VR at h
        rw [hlr] at h
        exact h
      have hzl : w.heap.size + 2 ≤ (wo.alloc (.cells #[.int .i64 x] 3)).heap.size := by have := HWZ.out; simp; omega
      have hKK := Lib.hid (KW.out.trans KL)
      have R0l := Lib.hid (row_ext R0w.out KL (fun h => h))
      have R1l := Lib.hid (row_ext R1w.out KL (fun h => h))
      have VL := Lib.hid (hV.out.k KL).lt
      clear hlr hx KL hV
      go_wp2_with (at_builtin; go_must (refine wpList_appInts _ rfl (.tmp 34) (.tmp 39) rfl (w.heap.size + 2) u8 j ((tysOf sc args).take j) rfl hv2 _ 1 1 [x] (fun _ => True) rfl hxt (by omega) hzl ?_); intro vn w7 ho hgr; have X7 := Lib.hid ((Ext.refl (fun k => w.heap.size + 2 ≤ k) _).grown hgr (fun k hk => .inr (VL.out k hk).1)); have HO := Lib.hid ho; clear ho hgr)
      go_roundw
      case rel => exact ⟨j + 1, by omega, by go_num, hI2, by
        show VR _ _ _ _
        unfold VR
        rw [ET.out, List.length_append, HLR.out]
        exact HO.out, hKK.out.then_ X7.out (fun q hq h => by omega), by show _ ≤ _; have := X7.out.size; omega, row_ext R0l.out X7.out (by omega), row_ext R1l.out X7.out (by omega)⟩
      case measure => simp [intOf]; omega
    · have HJ : Hid (j = na) := by show _ = _; omega
      have HARGS : Hid (argsIn sc args = true) := argsIn_iff.2 (fun i hi => hI.out i (by have := HJ.out; have := HNL.out; omega))
      have hV2 := hV.out
      rw [List.take_of_length_le (by rw [tysOf_len]; have := HJ.out; have := HNL.out; omega)] at hV2
      obtain ⟨tys, hty⟩ : ∃ tys, tysOf sc args = tys := ⟨_, rfl⟩
      have HTY := Lib.hid hty
      rw [hty] at hV2
      have htl : tys.length = na := by rw [← hty, tysOf_len]; exact HNL.out
      have HTA : Hid (allT ds.length tys = true) := by show _ = _; rw [← hty]; exact tysOf_all HAll.out HARGS.out
      obtain ⟨a8, c8, rfl, hc8, ho8⟩ := hV2.slice
      rw [htl] at ho8 hc8
      have QT : Hid (IntsL wo (fun k => (Value.slice a8 na c8).ownBlock = some k) a8 na tys) := ho8.read
      have HTL := Lib.hid htl
      rw [htl]
      clear hV hV2 hty ho8 hI htl
      have QP := Lib.hid (hp.k KW.out)
      have QV := Lib.hid (hv.ext KW.out (fun _ _ h => h))
      have QK := Lib.hid (hk.k KW.out)
      have x0 := R0w.out.cell (i := 0) (by simp)
      have x1 := R0w.out.cell (i := 1) (by simp)
      have y0 := R1w.out.cell (i := 0) (by simp)
      have y1 := R1w.out.cell (i := 1) (by simp)
      have y2 := R1w.out.cell (i := 2) (by simp)
      have y3 := R1w.out.cell (i := 3) (by simp)
      have y4 := R1w.out.cell (i := 4) (by simp)
      simp at x0 x1 y0 y1 y2 y3 y4
      have HBI : Hid (intoOk sc op into = true) := HHI.out
      have q0 : (into != 0) = true := bne_iff_ne.2 H0'.out
      have q1 : (op != 6) = false := by rw [HH6.out]; exact bne_self_eq_false _
      obtain ⟨k, rfl⟩ : ∃ k : Nat, into = (k : Int) + 1 := ⟨(into - 1).toNat, by have := HH6'.out.1; omega⟩
      have e2 : ¬ ((k : Int) + 1 < 1) := by omega
      have hkn : k < nv := by have := HH6'.out.2.1; have := HSL.out; omega
      have e3 : ¬ ((nv : Int) < (k : Int) + 1) := by omega
      obtain ⟨b2, o2, rfl, _, d2⟩ := QV.out.at hkn
      obtain ⟨x, hx⟩ : ∃ x, iAt sc k = x := ⟨_, rfl⟩
      rw [hx] at d2
      have hx0 : x ≠ 0 := by have h1 := HH6'.out.2.2; rw [show ((k : Int) + 1).toNat - 1 = k by omega, hx] at h1; omega
      have hw1 : IntKind.i64.wrap (k : Int) = (k : Int) := by rw [IntWalk.i64_in _ (by omega)]
      have hw2 : (0 : Int) ≤ (k : Int) := by omega
      have hw3 : (k : Int) < (nv : Int) := by omega
      have q4 : (x == 0) = false := beq_eq_false_iff_ne.2 hx0
      clear hx hx0
      clear HJ
      have hc : ¬ (14 ≤ op ∧ op ≤ 17) := by have := HH6.out; omega
      go_upto_region 11 with fail
      go_wp2_with fail
      refine (implIsCounting op _).mono ?_
      rw [decide_eq_false hc]
      rintro e w9 ⟨rfl, rfl⟩
      have HC := Lib.hid hc
      clear hc
      have h7 : op ≠ 7 := by have := HH6.out; omega
      have h8 : op ≠ 8 := by have := HH6.out; omega
      have q7 : (op == 7) = false := beq_eq_false_iff_ne.2 h7
      have q8 : (op == 8) = false := beq_eq_false_iff_ne.2 h8
      have q10 : (op == 10) = false := beq_eq_false_iff_ne.2 (by have := HH6.out; omega)
      have H8 := Lib.hid h8
      have H7 := Lib.hid h7
      clear h8 h7
      by_cases c0 : 0 < nk
      · have q0 : (0 : Int) < (nk : Int) := by omega
        have V : Hid (stpT ds sg sc (.mk op num ((k : Int) + 1) args ks) = -1) := stp_kids _ _ _ _ _ _ _ _ H7.out H8.out (by have := HNK.out; omega)
        go_wp2_with fail
        exact fin_ hQ (stR_neg V.out KW.out)
      have HGL : Hid (¬ 0 < nk) := c0
      have q0 : ¬ (0 : Int) < (nk : Int) := by omega
      have V : Hid (stpT ds sg sc (.mk op num ((k : Int) + 1) args ks) = simpleL ds sg op num tys) := by
        show _ = _
        rw [stp_leaf _ _ _ _ _ _ _ _ HARGS.out HBI.out H7.out H8.out (by have := HNK.out; have h2 := HGL.out; omega), HTY.out]
        exact leafL_simple HC.out (fun h => by have := HH6.out; have := h.1; omega) tys
      clear c0
      go_wp2_with fail
      refine (implSimple ds sg HOK.out op num HFN.out tys _ a0 n0 c0 a1 n1 c1 a8 na c8 _ wo QP.out QT.out (by omega)).mono ?_
      rintro e w3 ⟨t, ok, rfl, hok1, hok2, kk⟩
      have HO1 := Lib.hid hok1
      have HO2 := Lib.hid hok2
      have KE := Lib.hid (KW.out.trans kk)
      clear kk hok1 hok2
      go_wp2_with fail
      exact fin_ hQ (stR_any (by rw [V.out]; exact HO1.out) (fun h => by rw [V.out]; exact HO2.out h) KE.out)
end
end Go.Proofs.Ytmekdccgjgfiaaa
/- The program's types of steps. -/
namespace Go.Proofs.Ytmekdccgjgfiaaa
open Go.RowKit

section
variable (ds : List DeclL) (sg : List SigL) (hok : sigsOk ds sg = true)
include hok

theorem implStp (s : StepL) (hos : okS s) (IH0 : ∀ j, j < s.kids.length → BlI ds sg (bAt s.kids j).result (bAt s.kids j).steps) : StI ds sg s := by
  obtain ⟨op, num, into, args, ks⟩ := s
  intro a0 n0 c0 a1 n1 c1 av nv cv sc aa na ca ak nk ck w hp hv ha hk hlen hall
  change ∀ j, j < ks.length → BlI ds sg (bAt ks j).result (bAt ks j).steps at IH0
  change Rd w (fun _ => True) (encInts args) _ at ha
  change Rd w (fun _ => True) (encBlocks ks) _ at hk
  rw [nS] at hlen
  cases hi : intoOk sc op into
  · exact implStep_bad ds sg hok op num into args ks hos IH0 a0 n0 c0 a1 n1 c1 av nv cv sc aa na ca ak nk ck w hp hv ha hk hlen hall hi
  · by_cases hsp : (14 ≤ op ∧ op ≤ 17) ∨ op = 7 ∨ op = 8
    · have h0 : into = 0 := by
        rcases of_decide_eq_true hi with h | h
        · exact h
        · omega
      subst h0
      rcases hsp with h | h | h
      · exact implStep_cnt ds sg hok op num args ks hos IH0 a0 n0 c0 a1 n1 c1 av nv cv sc aa na ca ak nk ck w hp hv ha hk hlen hall h
      · exact implStep_7 ds sg hok op num args ks hos IH0 a0 n0 c0 a1 n1 c1 av nv cv sc aa na ca ak nk ck w hp hv ha hk hlen hall h
      · exact implStep_8 ds sg hok op num args ks hos IH0 a0 n0 c0 a1 n1 c1 av nv cv sc aa na ca ak nk ck w hp hv ha hk hlen hall h
    · by_cases h0 : into = 0
      · subst h0
        exact implStep_o ds sg hok op num args ks hos IH0 a0 n0 c0 a1 n1 c1 av nv cv sc aa na ca ak nk ck w hp hv ha hk hlen hall (fun h => hsp (.inl h)) (fun h => hsp (.inr (.inl h))) (fun h => hsp (.inr (.inr h)))
      · have h6 : op = 6 := by
          rcases of_decide_eq_true hi with h | h
          · exact absurd h h0
          · exact h.1
        exact implStep_c ds sg hok op num into args ks hos IH0 a0 n0 c0 a1 n1 c1 av nv cv sc aa na ca ak nk ck w hp hv ha hk hlen hall h6 h0 hi
end
end Go.Proofs.Ytmekdccgjgfiaaa
/- The program's types of blocks. -/
namespace Go.Proofs.Ytmekdccgjgfiaaa
open Go.RowKit

theorem stp_ops {ds : List DeclL} {sg : List SigL} {sc : List Int} (s : StepL) (h : 0 ≤ stpT ds sg sc s) : (0 ≤ s.op ∧ s.op ≤ 11) ∨ (14 ≤ s.op ∧ s.op ≤ 17) := by
  obtain ⟨op, num, into, args, ks⟩ := s
  show (0 ≤ op ∧ op ≤ 11) ∨ (14 ≤ op ∧ op ≤ 17)
  refine Classical.byContradiction fun hn => ?_
  have ho : op < 0 ∨ op = 7 ∨ op = 8 ∨ op = 12 ∨ op = 13 ∨ 17 < op := by omega
  have e : stpT ds sg sc (.mk op num into args ks) = -1 := by
    cases hi : intoOk sc op into
    · exact stp_into _ _ _ _ _ _ _ _ hi
    · by_cases hk : 0 < ks.length
      · exact stp_kids _ _ _ _ _ _ _ _ (by omega) (by omega) hk
      · rw [stp_rout _ _ _ _ _ _ _ _ hi (by omega) (by omega) (by omega)]
        exact routS_other _ _ _ _ _ ho
  omega
theorem nSs_len2 (ss : List StepL) : ss.length ≤ nSs ss := by
  induction ss with
  | nil => simp
  | cons s ss ih => rw [nSs, nS_eq]; simp; omega

section
variable (ds : List DeclL) (sg : List SigL) (hok : sigsOk ds sg = true)
include hok
set_option maxRecDepth 100000 in
set_option maxHeartbeats 1000000 in
theorem implBlk_of (res : Int) (ss : List StepL) (IH0 : ∀ j, j < ss.length → StI ds sg (sAt ss j)) : BlI ds sg res ss := by
  intro a0 n0 c0 a1 n1 c1 av nv cv sc a n c w hp hv hs hlen hall
  refine calls_k fun Q hQ => ?_
  obtain ⟨e1, hnc, hnm, hat⟩ := steps_at hs
  have HL := Lib.hid e1
  have HA := Lib.hid hat
  have IH := Lib.hid IH0
  have HOK := Lib.hid hok
  have hnl : n ≤ 263000 := by have := nSs_len2 ss; omega
  have hnv : nv ≤ 1052000 := by have := hv.1; omega
  have K0 := (Keep.al w (.cells #[.slice a0 n0 c0, .slice a1 n1 c1] 59)).trans (Keep.al _ (.cells #[.slice a n c, .int .i64 res] 41))
  have R0 := (rowOf w #[.slice a0 n0 c0, .slice a1 n1 c1] 59).alloc (.cells #[.slice a n c, .int .i64 res] 41)
  have R1 := rowOf (w.alloc (.cells #[.slice a0 n0 c0, .slice a1 n1 c1] 59)) #[.slice a n c, .int .i64 res] 41
  simp only [World.size_alloc] at R1
  have R0a := Lib.hid R0
  have R1a := Lib.hid R1
  have hv0 := hv.ext K0 (fun _ _ h => h)
  have HLen := Lib.hid hlen
  have HAll := Lib.hid hall
  have hzm : ((w.alloc (.cells #[.slice a0 n0 c0, .slice a1 n1 c1] 59)).alloc (.cells #[.slice a n c, .int .i64 res] 41)).heap.size = w.heap.size + 2 := by simp
  obtain ⟨Z, hZ⟩ : ∃ Z, runT ds sg res sc ss = Z := ⟨_, rfl⟩
  have HZ := Lib.hid hZ
  rw [hZ] at hQ
  clear e1 hat IH0 hlen hall hs R0 R1 hZ
  go_enter Try.func30, Try.ntmps30
  go_wp2_with fail
  refine (cloneInts _ _ _ _ _ _ hv0 hnv).mono ?_
  rintro e w1 ⟨v7, rfl, o7, k1⟩
  have hs1 := k1.size
  have hw1 : w.heap.size + 2 ≤ w1.heap.size := by omega
  have V7 : Hid (VR w1 (w.heap.size + 2) v7 sc) := by
    show VR _ _ _ _
    rw [← hzm]; exact o7
  have KA := Lib.hid (K0.trans k1)
  have R0b := Lib.hid (row_ext R0a.out k1 (fun h => h))
  have R1b := Lib.hid (row_ext R1a.out k1 (fun h => h))
  have HDR : Hid (runT ds sg res sc (ss.drop 0) = Z) := by show _ = _; rw [List.drop_zero]; exact HZ.out
  have HBN : Hid (sc.length + 4 * nSs (ss.drop 0) ≤ 1052000) := by show _ ≤ _; rw [List.drop_zero]; exact HLen.out
  have y0 := R1b.out.cell (i := 0) (by simp)
  simp at y0
  clear o7 k1 hv0 K0 R0a R1a hzm hs1
  go_wp2_with fail
  go_loopw [7, 17] (fun sv iv wr => ∃ (j : Nat) (scj : List Int), j ≤ n ∧ iv = .int .i64 j ∧ Hid (VR wr (w.heap.size + 2) sv scj) ∧ Hid (runT ds sg res scj (ss.drop j) = Z) ∧ Hid (scj.length + 4 * nSs (ss.drop j) ≤ 1052000) ∧ Hid (allT ds.length scj = true) ∧ Hid (Keep w wr) ∧ Hid (w.heap.size + 2 ≤ wr.heap.size) ∧ Hid (wr.rowIs w.heap.size 59 2 (fun i => (#[.slice a0 n0 c0, .slice a1 n1 c1] : Array Value).getD i undef)) ∧ Hid (wr.rowIs (w.heap.size + 1) 41 2 (fun i => (#[.slice a n c, .int .i64 res] : Array Value).getD i undef))) (fun _ iv _ => n - (intOf iv).toNat)
  case atStart => exact ⟨0, sc, Nat.zero_le _, rfl, V7, HDR, HBN, HAll, KA, hw1, R0b, R1b⟩
  case round =>
    obtain ⟨j, scj, hj, rfl, VV, HD, HB, HAJ, KW, HWZ, R0w, R1w⟩ := hrel
    obtain ⟨wo, rfl⟩ : ∃ wo : World, wo = wr := ⟨_, rfl⟩
    clear V7 HDR HBN KA R0b R1b y0
    obtain ⟨a7, c7, rfl, hc7, ho7⟩ := VV.out.slice
    have hsl : scj.length ≤ 1052000 := by have := HB.out; omega
    by_cases hlt : j < n
    · have HJ : Hid (j < ss.length) := by show _ < _; rw [HL.out]; exact hlt
      obtain ⟨b, o, rfl, _, a3, n3, c3, a4, n4, c4, d0, d1, d2, d3, d4, r3, r4⟩ := HA.out j hlt
      have HNS := Lib.hid (nSs_drop ss HJ.out)
      have HSB : Hid (scj.length + 4 * nS (sAt ss j) ≤ 1052000) := by show _ ≤ _; have := HB.out; have := HNS.out; omega
      have HRT := Lib.hid (runT_at ds sg res scj HJ.out)
      have KB := Keep.al wo (.cells #[.int .i64 (sAt ss j).op, .int .i64 (sAt ss j).num, .int .i64 (sAt ss j).into, .slice a3 n3 c3, .slice a4 n4 c4] 89)
      have KE := KW.out.trans KB
      have QP := Lib.hid (hp.k KE)
      have QV : Hid (IntsL (wo.alloc (.cells #[.int .i64 (sAt ss j).op, .int .i64 (sAt ss j).num, .int .i64 (sAt ss j).into, .slice a3 n3 c3, .slice a4 n4 c4] 89)) (fun _ => True) a7 scj.length scj) := (ho7.read.mono (D' := fun _ => True) (fun _ _ => trivial)).ext KB (fun _ _ h => h)
      have QA := Lib.hid (r3.k KE)
      have QK := Lib.hid (r4.k KE)
      have g0 := KW.out.cq d0 (fun h => h)
      have g1 := KW.out.cq d1 (fun h => h)
      have g2 := KW.out.cq d2 (fun h => h)
      have g3 := KW.out.cq d3 (fun h => h)
      have g4 := KW.out.cq d4 (fun h => h)
      have VB := Lib.hid (VV.out.k KB)
      have KX := Lib.hid KE
      have R0x := Lib.hid (row_ext R0w.out KB (fun h => h))
      have R1x := Lib.hid (row_ext R1w.out KB (fun h => h))
      have HWX : Hid (w.heap.size + 2 ≤ (wo.alloc (.cells #[.int .i64 (sAt ss j).op, .int .i64 (sAt ss j).num, .int .i64 (sAt ss j).into, .slice a3 n3 c3, .slice a4 n4 c4] 89)).heap.size) := Nat.le_trans HWZ.out KB.size
      have RS := rowOf wo #[.int .i64 (sAt ss j).op, .int .i64 (sAt ss j).num, .int .i64 (sAt ss j).into, .slice a3 n3 c3, .slice a4 n4 c4] 89
      clear d0 d1 d2 d3 d4 r3 r4 KE KB ho7 VV
      go_upto_region 5 with fail
      have RS0 := Lib.hid RS
      clear RS
      generalize hW : wo.alloc (.cells #[.int .i64 (sAt ss j).op, .int .i64 (sAt ss j).num, .int .i64 (sAt ss j).into, .slice a3 n3 c3, .slice a4 n4 c4] 89) = W at *
      clear hW g0 g1 g2 g3 g4
      generalize hs9 : wo.heap.size = s9 at *
      have x0 := R0x.out.cell (i := 0) (by simp)
      have x1 := R0x.out.cell (i := 1) (by simp)
      have z0 := RS0.out.cell (i := 0) (by simp)
      have z1 := RS0.out.cell (i := 1) (by simp)
      have z2 := RS0.out.cell (i := 2) (by simp)
      have z3 := RS0.out.cell (i := 3) (by simp)
      have z4 := RS0.out.cell (i := 4) (by simp)
      simp at x0 x1 z0 z1 z2 z3 z4
      clear RS0
      clear hs9
      go_wp2_with fail
      refine (IH.out j HJ.out _ _ _ _ _ _ a7 _ c7 scj _ _ _ _ _ _ W QP.out QV.out QA.out QK.out HSB.out HAJ.out).mono ?_
      rintro e w2 ⟨t, ok, rfl, hok1, ht1, kk⟩
      have HO1 := Lib.hid hok1
      have HT1 := Lib.hid ht1
      replace KX := Lib.hid (KX.out.trans kk)
      replace VB := Lib.hid (VB.out.k kk)
      replace R0x := Lib.hid (row_ext R0x.out kk (fun h => h))
      replace R1x := Lib.hid (row_ext R1x.out kk (fun h => h))
      replace HWX : Hid (w.heap.size + 2 ≤ w2.heap.size) := Nat.le_trans HWX.out kk.size
      replace z0 := kk.cq z0 (fun h => h)
      clear x0 x1 z1 z2 z3 z4 kk hok1 ht1 QP QV QA QK
      cases ok
      · have V : Hid (Z = -1) := by show _ = _; rw [← HD.out, HRT.out, if_pos (by have := of_decide_eq_false HO1.out.symm; omega)]
        go_wp2_with fail
        exact fin_ hQ ⟨ret_i V.out.symm, KX.out⟩
      have HST : Hid (0 ≤ stpT ds sg scj (sAt ss j)) := by show 0 ≤ stpT ds sg scj (sAt ss j); exact of_decide_eq_true HO1.out.symm
      go_wp2_with fail
      refine (implIsCounting _ _).mono ?_
      by_cases hcn : 14 ≤ (sAt ss j).op ∧ (sAt ss j).op ≤ 17
      · have HD2 : Hid (runT ds sg res scj (ss.drop (j + 1)) = Z) := by
          show _ = _
          rw [← HD.out, HRT.out, if_neg (by have := HST.out; omega), nextS, if_neg (by omega)]
        rw [decide_eq_true hcn]
        rintro e w9 ⟨rfl, rfl⟩
        clear z0 hcn
        go_wp2_with fail
        go_roundw
        case rel => exact ⟨j + 1, scj, by omega, by go_num, VB, HD2, by show _ ≤ _; have := HB.out; have := HNS.out; omega, HAJ, KX, HWX, R0x, R1x⟩
        case measure => simp [intOf]; omega
      · have HOP : Hid (0 ≤ (sAt ss j).op ∧ (sAt ss j).op ≤ 11) := (stp_ops (sAt ss j) HST.out).resolve_right hcn
        have HTE : Hid (t = stpT ds sg scj (sAt ss j)) := HT1.out trivial hcn
        have HTT : Hid (isT ds.length t = true) := by
          have h := stp_range HOK.out (sAt ss j) HAJ.out
          rw [← HTE.out] at h
          rcases h with h | h
          · have := HST.out; rw [← HTE.out] at this; omega
          · exact h
        have HD2 : Hid (runT ds sg res (scj ++ [t]) (ss.drop (j + 1)) = Z) := by
          show _ = _
          rw [← HD.out, HRT.out, if_neg (by have := HST.out; omega), nextS, if_pos HOP.out, HTE.out]
        rw [decide_eq_false hcn]
        rintro e w9 ⟨rfl, rfl⟩
        clear z0 hcn
        have KL := Keep.al w2 (.cells #[.int .i64 t] 3)
        have hxt : IntsL (w2.alloc (.cells #[.int .i64 t] 3)) (fun _ => True) (some ⟨w2.heap.size, 0, none⟩) 1 [t] := (lit_intsD w2 (fun _ => True) 3 [t] #[.int .i64 t] 1 trivial rfl rfl (by omega)).toInts
        have hv2 := VB.out.k KL
        have hzl : w.heap.size + 2 ≤ (w2.alloc (.cells #[.int .i64 t] 3)).heap.size := Nat.le_trans HWX.out KL.size
        have hKK := Lib.hid (KX.out.trans KL)
        have R0l := Lib.hid (row_ext R0x.out KL (fun h => h))
        have R1l := Lib.hid (row_ext R1x.out KL (fun h => h))
        have VL := Lib.hid hv2.lt
        clear KL VB
        go_wp2_with (at_builtin; go_must (refine wpList_appInts _ rfl (.tmp 34) (.tmp 36) rfl (w.heap.size + 2) (.slice a7 scj.length c7) scj.length scj rfl hv2 _ 1 1 [t] (fun _ => True) rfl hxt (by omega) hzl ?_); intro vn w7 ho hgr; have X7 := Lib.hid ((Ext.refl (fun k => w.heap.size + 2 ≤ k) _).grown hgr (fun k hk => .inr (VL.out k hk).1)); have HO := Lib.hid ho; clear ho hgr)
        go_roundw
        case rel => exact ⟨j + 1, scj ++ [t], by omega, by go_num, by
          show VR _ _ _ _
          unfold VR
          rw [List.length_append]
          exact HO.out, HD2, by show _ ≤ _; have := HB.out; have := HNS.out; rw [List.length_append, List.length_singleton]; have := nS_eq (sAt ss j); omega, allT_append HAJ.out (allT_one HTT.out), hKK.out.then_ X7.out (fun q hq h => by omega), by show _ ≤ _; have := X7.out.size; omega, row_ext R0l.out X7.out (by omega), row_ext R1l.out X7.out (by omega)⟩
        case measure => simp [intOf]; omega
    · have HJ : Hid (j = n) := by show _ = _; omega
      have HNIL : Hid ((if 0 ≤ res ∧ res < (scj.length : Int) then iAt scj res.toNat else -1) = Z) := by
        show _ = _
        rw [← HD.out, List.drop_of_length_le (by have := HL.out; have := HJ.out; omega), runT_nil]
      have y1 := R1w.out.cell (i := 1) (by simp)
      simp at y1
      by_cases hr0 : res < 0
      · have V : Hid (Z = -1) := by show _ = _; rw [← HNIL.out, if_neg (by omega)]
        go_wp2_with fail
        exact fin_ hQ ⟨ret_i V.out.symm, KW.out⟩
      by_cases hr1 : (scj.length : Int) ≤ res
      · have V : Hid (Z = -1) := by show _ = _; rw [← HNIL.out, if_neg (by omega)]
        go_wp2_with fail
        exact fin_ hQ ⟨ret_i V.out.symm, KW.out⟩
      obtain ⟨k, rfl⟩ := Int.eq_ofNat_of_zero_le (show 0 ≤ res by omega)
      have hk : k < scj.length := by omega
      obtain ⟨b7, o7, rfl, _, d7⟩ := (show IntsL wo (fun _ => True) a7 scj.length scj from ho7.read.mono (fun _ _ => trivial)).at hk
      have hk0 : (0 : Int) ≤ (k : Int) := by omega
      have hk1 : (k : Int) < (scj.length : Int) := by omega
      have V : Hid (iAt scj k = Z) := by show _ = _; rw [← HNIL.out, if_pos ⟨hk0, hk1⟩, Int.toNat_natCast]
      rw [V.out] at d7
      go_wp2_with fail
      exact fin_ hQ ⟨rfl, KW.out⟩
theorem implBlk_n (N : Nat) : ∀ (res : Int) (ss : List StepL), nSs ss < N → okSs ss → BlI ds sg res ss := by
  induction N with
  | zero => intro res ss h; omega
  | succ N ih =>
    intro res ss hN ho
    refine implBlk_of ds sg hok res ss (fun j hj => implStp ds sg hok _ (okSs_at ho hj) (fun k hk => ih _ _ ?_ ?_))
    · have := nkid_lt ss hj hk
      omega
    · have h := okSs_at ho hj
      generalize sAt ss j = s at h hk ⊢
      obtain ⟨op, num, into, args, ks⟩ := s
      rw [okS] at h
      exact okBs_at h.2.2 hk
theorem implBlk (res : Int) (ss : List StepL) (ho : okSs ss) : BlI ds sg res ss := implBlk_n ds sg hok _ res ss (Nat.lt_succ_self _) ho
end
end Go.Proofs.Ytmekdccgjgfiaaa
/- BlockType of both packages. -/
namespace Go.Proofs.Ytmekdccgjgfiaaa
open Go.RowKit

def blkTop (ds : List DeclL) (rs : List RoutL) (sc : List Int) (res : Int) (ss : List StepL) : Int :=
  if sigsOk ds (rs.map sigR) = true ∧ allT ds.length sc = true ∧ ¬ stepsL ss < 0 then runT ds (rs.map sigR) res sc ss else -1
theorem stepsL_le {ss : List StepL} (h : ¬ stepsL ss < 0) : nSs ss ≤ 600 := by
  refine Classical.byContradiction fun hn => h ?_
  rw [stepsL_no hn]; omega

set_option maxRecDepth 100000 in
set_option maxHeartbeats 1000000 in
theorem specBlockTop (ds : List DeclL) (rs : List RoutL) (a0 : Option Addr) (n0 c0 : Nat) (a1 : Option Addr) (n1 c1 : Nat) (av : Option Addr) (nv cv : Nat) (sc : List Int) (res : Int) (ss : List StepL) (a : Option Addr) (n c : Nat) (D0 D1 D2 D3 : Nat → Prop) (w : World)
    (r0 : Rd w D0 (encDecls ds) (.slice a0 n0 c0)) (r1 : Rd w D1 (encRouts rs) (.slice a1 n1 c1)) (hv : Rd w D2 (encInts sc) (.slice av nv cv)) (hnv : nv ≤ 1048576) (h : Rd w D3 (encSteps ss) (.slice a n c)) :
    Calls Try.prog 7 #[.agg #[.slice a0 n0 c0, .slice a1 n1 c1], .slice av nv cv, .agg #[.slice a n c, .int .i64 res]] w fun e w' => e = .returned (.int .i64 (blkTop ds rs sc res ss)) ∧ Keep w w' := by
  refine calls_k fun Q hQ => ?_
  have K0 := (Keep.al w (.cells #[.slice a0 n0 c0, .slice a1 n1 c1] 36)).trans (Keep.al _ (.cells #[.slice a n c, .int .i64 res] 41))
  have R0a := Lib.hid ((rowOf w #[.slice a0 n0 c0, .slice a1 n1 c1] 36).alloc (.cells #[.slice a n c, .int .i64 res] 41))
  have R1 := rowOf (w.alloc (.cells #[.slice a0 n0 c0, .slice a1 n1 c1] 36)) #[.slice a n c, .int .i64 res] 41
  simp only [World.size_alloc] at R1
  have R1a := Lib.hid R1
  have KW := Lib.hid K0
  have QD := Lib.hid (r0.t.k K0)
  have QR := Lib.hid (r1.t.k K0)
  have QV := Lib.hid (hv.t.k K0)
  have QS := Lib.hid (h.t.k K0)
  have HVL : Hid (sc.length = nv) := (ints_at hv).1
  have HDL : Hid (ds.length = n0) := (decls_at r0).1
  clear R1 K0 r0 r1 hv h
  go_enter Try.func7, Try.ntmps7
  go_upto_region 1 with fail
  generalize hW : ((w.alloc (.cells #[.slice a0 n0 c0, .slice a1 n1 c1] 36)).alloc (.cells #[.slice a n c, .int .i64 res] 41)) = W at *
  clear hW
  have x0 := R0a.out.cell (i := 0) (by simp)
  have x1 := R0a.out.cell (i := 1) (by simp)
  have y0 := R1a.out.cell (i := 0) (by simp)
  have y1 := R1a.out.cell (i := 1) (by simp)
  simp at x0 x1 y0 y1
  cases hs : sigsOk ds (rs.map sigR)
  · have V : Hid (blkTop ds rs sc res ss = -1) := by show _ = _; rw [blkTop, if_neg (by rw [hs]; simp)]
    go_wp2_with fail
    refine (specValidNormalSigs ds rs _ _ _ _ _ _ _ _ _ QD.out QR.out).mono ?_
    rw [hs]
    rintro e w2 ⟨rfl, kk⟩
    replace KW := Lib.hid (KW.out.trans kk)
    replace QD := Lib.hid (QD.out.k kk)
    replace QR := Lib.hid (QR.out.k kk)
    replace QV := Lib.hid (QV.out.k kk)
    replace QS := Lib.hid (QS.out.k kk)
    replace R0a := Lib.hid (row_ext R0a.out kk (fun h => h))
    replace R1a := Lib.hid (row_ext R1a.out kk (fun h => h))
    clear kk x0 x1 y0 y1
    clear hs
    go_wp2_with fail
    exact fin_ hQ ⟨ret_i V.out.symm, KW.out⟩
  have HS := Lib.hid hs
  go_wp2_with fail
  refine (specValidNormalSigs ds rs _ _ _ _ _ _ _ _ _ QD.out QR.out).mono ?_
  rw [hs]
  rintro e w2 ⟨rfl, kk⟩
  clear hs
  replace KW := Lib.hid (KW.out.trans kk)
  replace QD := Lib.hid (QD.out.k kk)
  replace QR := Lib.hid (QR.out.k kk)
  replace QV := Lib.hid (QV.out.k kk)
  replace QS := Lib.hid (QS.out.k kk)
  replace R0a := Lib.hid (row_ext R0a.out kk (fun h => h))
  replace R1a := Lib.hid (row_ext R1a.out kk (fun h => h))
  clear kk x0 x1 y0 y1
  have x0 := R0a.out.cell (i := 0) (by simp)
  have x1 := R0a.out.cell (i := 1) (by simp)
  have y0 := R1a.out.cell (i := 0) (by simp)
  have y1 := R1a.out.cell (i := 1) (by simp)
  simp at x0 x1 y0 y1
  cases ha : allT ds.length sc
  · have V : Hid (blkTop ds rs sc res ss = -1) := by show _ = _; rw [blkTop, if_neg (fun h => by rw [ha] at h; exact absurd h.2.1 (by simp))]
    rw [HDL.out] at ha
    go_wp2_with fail
    refine (specAllTypes _ n0 _ _ _ _ _ _ _ QV.out.toInts (by omega)).mono ?_
    rw [ha]
    rintro e w3 ⟨rfl, rfl⟩
    clear ha
    go_wp2_with fail
    exact fin_ hQ ⟨ret_i V.out.symm, KW.out⟩
  have HA := Lib.hid ha
  rw [HDL.out] at ha
  go_wp2_with fail
  refine (specAllTypes _ n0 _ _ _ _ _ _ _ QV.out.toInts (by omega)).mono ?_
  rw [ha]
  rintro e w3 ⟨rfl, rfl⟩
  clear ha
  obtain ⟨N, hN⟩ : ∃ N, stepsL ss = N := ⟨_, rfl⟩
  have HN := Lib.hid hN
  clear hN
  go_wp2_with fail
  refine (specStepsOf0 ss res a n c _ _ QS.out).mono ?_
  rw [HN.out]
  rintro e w4 ⟨rfl, kk⟩
  replace KW := Lib.hid (KW.out.trans kk)
  replace QD := Lib.hid (QD.out.k kk)
  replace QR := Lib.hid (QR.out.k kk)
  replace QV := Lib.hid (QV.out.k kk)
  replace QS := Lib.hid (QS.out.k kk)
  replace R0a := Lib.hid (row_ext R0a.out kk (fun h => h))
  replace R1a := Lib.hid (row_ext R1a.out kk (fun h => h))
  clear kk x0 x1 y0 y1
  by_cases hn : N < 0
  · have V : Hid (blkTop ds rs sc res ss = -1) := by show _ = _; rw [blkTop, if_neg (fun h => h.2.2 (by rw [HN.out]; exact hn))]
    go_wp2_with fail
    exact fin_ hQ ⟨ret_i V.out.symm, KW.out⟩
  have V : Hid (blkTop ds rs sc res ss = runT ds (rs.map sigR) res sc ss) := by show _ = _; rw [blkTop, if_pos ⟨HS.out, HA.out, by rw [HN.out]; exact hn⟩]
  have HL : Hid (sc.length + 4 * nSs ss ≤ 1052000) := by show _ ≤ _; have := stepsL_le (ss := ss) (by rw [HN.out]; exact hn); have := HVL.out; omega
  have x0 := R0a.out.cell (i := 0) (by simp)
  have x1 := R0a.out.cell (i := 1) (by simp)
  have y0 := R1a.out.cell (i := 0) (by simp)
  have y1 := R1a.out.cell (i := 1) (by simp)
  simp at x0 x1 y0 y1
  go_wp2_with fail
  refine (specBlk ds rs HS.out res ss _ _ _ _ _ _ _ _ _ sc _ _ _ _ ⟨QD.out, QR.out⟩ QV.out QS.out HL.out HA.out).mono ?_
  rw [← V.out]
  rintro e w5 ⟨rfl, kk⟩
  replace KW := Lib.hid (KW.out.trans kk)
  clear kk
  go_wp2_with fail
  exact fin_ hQ ⟨rfl, KW.out⟩

set_option maxRecDepth 100000 in
set_option maxHeartbeats 1000000 in
theorem implBlockTop (ds : List DeclL) (rs : List RoutL) (a0 : Option Addr) (n0 c0 : Nat) (a1 : Option Addr) (n1 c1 : Nat) (av : Option Addr) (nv cv : Nat) (sc : List Int) (res : Int) (ss : List StepL) (a : Option Addr) (n c : Nat) (D0 D1 D2 D3 : Nat → Prop) (w : World)
    (r0 : Rd w D0 (encDecls ds) (.slice a0 n0 c0)) (r1 : Rd w D1 (encRouts rs) (.slice a1 n1 c1)) (hv : Rd w D2 (encInts sc) (.slice av nv cv)) (hnv : nv ≤ 1048576) (h : Rd w D3 (encSteps ss) (.slice a n c)) (ho : okSs ss) :
    Calls Try.prog 11 #[.agg #[.slice a0 n0 c0, .slice a1 n1 c1], .slice av nv cv, .agg #[.slice a n c, .int .i64 res]] w fun e w' => e = .returned (.int .i64 (blkTop ds rs sc res ss)) ∧ Keep w w' := by
  refine calls_k fun Q hQ => ?_
  have K0 := (Keep.al w (.cells #[.slice a0 n0 c0, .slice a1 n1 c1] 36)).trans (Keep.al _ (.cells #[.slice a n c, .int .i64 res] 41))
  have R0a := Lib.hid ((rowOf w #[.slice a0 n0 c0, .slice a1 n1 c1] 36).alloc (.cells #[.slice a n c, .int .i64 res] 41))
  have R1 := rowOf (w.alloc (.cells #[.slice a0 n0 c0, .slice a1 n1 c1] 36)) #[.slice a n c, .int .i64 res] 41
  simp only [World.size_alloc] at R1
  have R1a := Lib.hid R1
  have KW := Lib.hid K0
  have QD := Lib.hid (r0.t.k K0)
  have QR := Lib.hid (r1.t.k K0)
  have QV := Lib.hid (hv.t.k K0)
  have QS := Lib.hid (h.t.k K0)
  have HVL : Hid (sc.length = nv) := (ints_at hv).1
  have HDL : Hid (ds.length = n0) := (decls_at r0).1
  clear R1 K0 r0 r1 hv h
  have HO := Lib.hid ho
  clear ho
  go_enter Try.func11, Try.ntmps11
  go_upto_region 1 with fail
  generalize hW : ((w.alloc (.cells #[.slice a0 n0 c0, .slice a1 n1 c1] 36)).alloc (.cells #[.slice a n c, .int .i64 res] 41)) = W at *
  clear hW
  have x0 := R0a.out.cell (i := 0) (by simp)
  have x1 := R0a.out.cell (i := 1) (by simp)
  have y0 := R1a.out.cell (i := 0) (by simp)
  have y1 := R1a.out.cell (i := 1) (by simp)
  simp at x0 x1 y0 y1
  go_wp2_with fail
  refine (implNormalSigs ds rs _ _ _ _ _ _ _ _ _ QD.out QR.out).mono ?_
  rintro e w2 ⟨b0, m0, d0, b1, m1, d1, ok, rfl, hok, hsr, kk⟩
  have HS := Lib.hid hok
  have HSR := Lib.hid hsr
  have K2 := Keep.al w2 (.cells #[.slice b0 m0 d0, .slice b1 m1 d1] 59)
  have RSa := Lib.hid (rowOf w2 #[.slice b0 m0 d0, .slice b1 m1 d1] 59)
  replace kk := kk.trans K2
  replace KW := Lib.hid (KW.out.trans kk)
  replace QD := Lib.hid (QD.out.k kk)
  replace QR := Lib.hid (QR.out.k kk)
  replace QV := Lib.hid (QV.out.k kk)
  replace QS := Lib.hid (QS.out.k kk)
  replace R0a := Lib.hid (row_ext R0a.out kk (fun h => h))
  replace R1a := Lib.hid (row_ext R1a.out kk (fun h => h))
  clear kk x0 x1 y0 y1
  clear hok hsr
  go_upto_region 2 with fail
  generalize hW : w2.alloc (.cells #[.slice b0 m0 d0, .slice b1 m1 d1] 59) = W3 at *
  clear hW
  have HSK : Hid (ok = true → SR W3 (fun _ => True) ds (rs.map sigR) b0 m0 d0 b1 m1 d1) := fun h => (HSR.out h).k K2
  generalize hsx : w2.heap.size = s7 at *
  clear hsx K2 HSR
  cases ok
  · have V : Hid (blkTop ds rs sc res ss = -1) := by show _ = _; rw [blkTop, if_neg (by rw [← HS.out]; simp)]
    go_wp2_with fail
    exact fin_ hQ ⟨ret_i V.out.symm, KW.out⟩
  have x0 := R0a.out.cell (i := 0) (by simp)
  have x1 := R0a.out.cell (i := 1) (by simp)
  have y0 := R1a.out.cell (i := 0) (by simp)
  have y1 := R1a.out.cell (i := 1) (by simp)
  simp at x0 x1 y0 y1
  cases ha : allT ds.length sc
  · have V : Hid (blkTop ds rs sc res ss = -1) := by show _ = _; rw [blkTop, if_neg (fun h => by rw [ha] at h; exact absurd h.2.1 (by simp))]
    rw [HDL.out] at ha
    go_wp2_with fail
    refine (implAllTypes _ n0 _ _ _ _ _ _ _ QV.out.toInts (by omega)).mono ?_
    rw [ha]
    rintro e w3 ⟨rfl, rfl⟩
    clear ha
    go_wp2_with fail
    exact fin_ hQ ⟨ret_i V.out.symm, KW.out⟩
  have HA := Lib.hid ha
  rw [HDL.out] at ha
  go_wp2_with fail
  refine (implAllTypes _ n0 _ _ _ _ _ _ _ QV.out.toInts (by omega)).mono ?_
  rw [ha]
  rintro e w3 ⟨rfl, rfl⟩
  clear ha
  obtain ⟨N, hN⟩ : ∃ N, stepsL ss = N := ⟨_, rfl⟩
  have HN := Lib.hid hN
  clear hN
  go_wp2_with fail
  refine (implStepsOf ss res a n c _ _ QS.out).mono ?_
  rw [HN.out]
  rintro e w4 ⟨rfl, kk⟩
  replace HSK : Hid (SR w4 (fun _ => True) ds (rs.map sigR) b0 m0 d0 b1 m1 d1) := (HSK.out trivial).k kk
  replace RSa := Lib.hid (row_ext RSa.out kk (fun h => h))
  replace KW := Lib.hid (KW.out.trans kk)
  replace QD := Lib.hid (QD.out.k kk)
  replace QR := Lib.hid (QR.out.k kk)
  replace QV := Lib.hid (QV.out.k kk)
  replace QS := Lib.hid (QS.out.k kk)
  replace R0a := Lib.hid (row_ext R0a.out kk (fun h => h))
  replace R1a := Lib.hid (row_ext R1a.out kk (fun h => h))
  clear kk x0 x1 y0 y1
  by_cases hn : N < 0
  · have V : Hid (blkTop ds rs sc res ss = -1) := by show _ = _; rw [blkTop, if_neg (fun h => h.2.2 (by rw [HN.out]; exact hn))]
    go_wp2_with fail
    exact fin_ hQ ⟨ret_i V.out.symm, KW.out⟩
  have V : Hid (blkTop ds rs sc res ss = runT ds (rs.map sigR) res sc ss) := by show _ = _; rw [blkTop, if_pos ⟨HS.out.symm, HA.out, by rw [HN.out]; exact hn⟩]
  have HL : Hid (sc.length + 4 * nSs ss ≤ 1052000) := by show _ ≤ _; have := stepsL_le (ss := ss) (by rw [HN.out]; exact hn); have := HVL.out; omega
  have x0 := RSa.out.cell (i := 0) (by simp)
  have x1 := RSa.out.cell (i := 1) (by simp)
  have y0 := R1a.out.cell (i := 0) (by simp)
  have y1 := R1a.out.cell (i := 1) (by simp)
  simp at x0 x1 y0 y1
  go_wp2_with fail
  refine (implBlk ds (rs.map sigR) HS.out.symm res ss HO.out _ _ _ _ _ _ _ _ _ sc _ _ _ _ HSK.out QV.out.toInts QS.out HL.out HA.out).mono ?_
  rw [← V.out]
  rintro e w5 ⟨rfl, kk⟩
  replace KW := Lib.hid (KW.out.trans kk)
  clear kk
  go_wp2_with fail
  exact fin_ hQ ⟨rfl, KW.out⟩
end Go.Proofs.Ytmekdccgjgfiaaa
/- From the reading of arguments that came in to the words of this seat: integers. -/
namespace Go.Proofs.Ytmekdccgjgfiaaa
open Go.RowKit Go.ChangeShapes Go.WideShapes Go.Deep

theorem addr_plain {w : World} {x : Addr} {v : Value} (h : w.cell? x = some v) : ∃ b o, x = ⟨b, o, none⟩ := by
  obtain ⟨b, o, s⟩ := x
  cases s with
  | none => exact ⟨b, o, rfl⟩
  | some s =>
    exfalso
    unfold World.cell? at h
    split at h <;> simp at h

theorem int_fits {n : Int} (h : (Lit.int .i64 n).wf = true) : -9223372036854775808 ≤ n ∧ n ≤ 9223372036854775807 := by
  simp [Lit.wf, IntKind.min, IntKind.max, IntKind.signed, IntKind.bits] at h
  omega

section
variable {H : Type} {enc : TypeId × Value → H} {P : Program} {w : World} {base : Nat} {held : Bool} {D : Nat → Prop}

theorem ent_ints {t e : TypeId} {fuel : Nat} {a : Option Addr} {n c : Nat} {x : DataW H × List MemPlace} (ht : P.underlying t = some (.slice e)) (he : P.underlying e = some (.int .i64)) (hc : P.cellsOf e = 1)
    (h : DataW.trod enc P w base (fun _ => true) held fuel t [.slice a n c] = some x) : n ≤ c ∧ ∃ xs, IntsL w (fun _ => True) a n xs ∧ xs.length ≤ 9223372036854775807 := by
  rcases open_ints ht he hc h with ⟨hcs, _⟩ | ⟨ad, len, cap, zs, hcs, _, hl, hm, hz, _, hcell, _⟩
  · simp at hcs
    obtain ⟨rfl, rfl, rfl⟩ := hcs
    exact ⟨Nat.le_refl _, [], ⟨rfl, fun h => absurd h (by omega)⟩, by simp⟩
  · simp at hcs
    obtain ⟨rfl, rfl, rfl⟩ := hcs
    simp at hz
    refine ⟨hl, zs.take n, ⟨by simp; omega, fun hn => ?_⟩, by have := hm; simp only [maxLen] at this; simp; omega⟩
    obtain ⟨b, o, rfl⟩ : ∃ b o, ad = ⟨b, o, none⟩ := by
      have := hcell 0 (by omega)
      rw [show ad.add 0 = ad from by simp [Addr.add]] at this
      exact addr_plain this
    refine ⟨b, o, rfl, trivial, fun i hi => ?_⟩
    have := hcell i (by omega)
    rw [Addr.add_lit] at this
    rw [this]
    simp [iAt, hi]

theorem ent_choose {α : Type} (n : Nat) (p : Nat → α → Prop) (h : ∀ i, i < n → ∃ x, p i x) (d : α) : ∃ l : List α, l.length = n ∧ ∀ i, i < n → p i (l.getD i d) := by
  induction n with
  | zero => exact ⟨[], rfl, fun i hi => absurd hi (by omega)⟩
  | succ n ih =>
    obtain ⟨l, hl, hp⟩ := ih fun i hi => h i (by omega)
    obtain ⟨x, hx⟩ := h n (by omega)
    refine ⟨l ++ [x], by simp [hl], fun i hi => ?_⟩
    rcases Nat.lt_succ_iff_lt_or_eq.1 hi with h1 | rfl
    · have := hp i h1
      simpa [List.getD, List.getElem?_append_left (show i < l.length by omega)] using this
    · simpa [List.getD, ← hl] using hx

end
end Go.Proofs.Ytmekdccgjgfiaaa
