/- The drawn law FnReachedFromAll: the walk. -/
import Derived.Test.YtaeddcnakilnlaaMT
import Derived.Test.YtaeddcnakilnlaaWLp3
import Derived.Test.YtaeddcnakilnlaaMW
namespace Go.Proofs.Ytaeddcnakilnlaa
open Go.RowKit

set_option maxRecDepth 100000 in
set_option maxHeartbeats 1500000 in
theorem fnReachedFromAll_walk (a : Option Addr) (len cap : Nat) (z : Nat → Int) (w : World) (h : Byt w a len z) (hlc : len ≤ cap) :
    Calls Try.prog 11 #[.slice a len cap] w fun e w' => e = .returned (.bool true) ∧ Keep w w' := by
  refine calls_k fun Q hQ => ?_
  by_cases hl : len ≤ 1048576
  · go_enter Try.func11, Try.ntmps11
    go_wp2_with fail
    refine (DrawReachedFrom_any a len cap z w h hlc hl).mono ?_
    rintro e w1 ⟨ds, fs, a0, n0, c0, a1, n1, c1, v1, rfl, r0, r1, hf, k1⟩
    have KO := Keep.al w1 (.cells #[.slice a0 n0 c0, .slice a1 n1 c1] 50)
    have K := Lib.hid (k1.trans KO)
    have P := Lib.hid (Px.born w1 (.slice a0 n0 c0) (.slice a1 n1 c1))
    have RD := Lib.hid (r0.k KO)
    have RF := Lib.hid (r1.k KO)
    have HF : Hid (fitP fs) := hf
    clear h r0 r1 k1 KO hf
    go_upto_region 4 with fail
    generalize hW : w1.alloc (.cells #[.slice a0 n0 c0, .slice a1 n1 c1] 50) = W at *
    clear hW
    generalize hS : w1.heap.size = s at *
    clear hS
    obtain ⟨C, hC⟩ : ∃ C, C = reachedL ds fs v1 := ⟨_, rfl⟩
    have V : Hid (reachedL ds fs v1 = C) := hC.symm
    have HCL : Hid (C.length ≤ 4) := by show _ ≤ _; rw [hC]; exact reachedL_len _ _ _
    clear hC
    have p0 := P.out.x0
    have p1 := P.out.x1
    go_wp2_with fail
    refine (implReachedFrom ds fs a0 n0 c0 a1 n1 c1 v1 _ _ _ RD.out RF.out HF.out).mono ?_
    rw [V.out]
    rintro e w2 ⟨ac, nac, cac, rfl, rac, kk⟩
    replace K := Lib.hid (K.out.trans kk)
    replace P := Lib.hid (P.out.k kk)
    replace RD := Lib.hid (RD.out.k kk)
    replace RF := Lib.hid (RF.out.k kk)
    have RC := Lib.hid rac.read
    clear rac
    clear kk p0 p1
    have NRC : Hid (nac = C.length) := (ints_at RC.out).1.symm
    have p0 := P.out.x0
    have p1 := P.out.x1
    go_wp2_with fail
    refine (specReachedFrom ds fs a0 n0 c0 a1 n1 c1 v1 _ _ _ RD.out RF.out).mono ?_
    rw [V.out]
    rintro e w3 ⟨as_, nas_, cas_, rfl, ras_, kk⟩
    replace K := Lib.hid (K.out.trans kk)
    replace P := Lib.hid (P.out.k kk)
    replace RD := Lib.hid (RD.out.k kk)
    replace RF := Lib.hid (RF.out.k kk)
    replace RC := Lib.hid (RC.out.k kk)
    have RS := Lib.hid ras_
    clear ras_
    clear kk p0 p1
    have NRS : Hid (nas_ = C.length) := (ints_at RS.out).1.symm
    have hnc : nac ≤ 4 := by have h1 := HCL.out; have h2 := NRC.out; omega
    have p0 := P.out.x0
    have p1 := P.out.x1
    go_wp2_with fail
    refine (equalInts_same ac nac cac as_ nas_ cas_ C _ _ _ RC.out.toInts RS.out.toInts (by omega)).mono ?_
    rintro e w4 ⟨rfl, kk⟩
    replace K := Lib.hid (K.out.trans kk)
    replace P := Lib.hid (P.out.k kk)
    replace RD := Lib.hid (RD.out.k kk)
    replace RF := Lib.hid (RF.out.k kk)
    replace RC := Lib.hid (RC.out.k kk)
    replace RS := Lib.hid (RS.out.k kk)
    clear kk p0 p1
    by_cases h0 : nac = 0
    · subst h0
      have p0 := P.out.x0
      have p1 := P.out.x1
      go_wp2_with fail
      refine (specReachedFrom ds fs a0 n0 c0 a1 n1 c1 v1 _ _ _ RD.out RF.out).mono ?_
      rw [V.out]
      rintro e w5 ⟨at_, nat_, cat_, rfl, rat_, kk⟩
      replace K := Lib.hid (K.out.trans kk)
      replace P := Lib.hid (P.out.k kk)
      replace RD := Lib.hid (RD.out.k kk)
      replace RF := Lib.hid (RF.out.k kk)
      replace RC := Lib.hid (RC.out.k kk)
      replace RS := Lib.hid (RS.out.k kk)
      have RT := Lib.hid rat_
      clear rat_
      clear kk p0 p1
      have NRT : Hid (nat_ = C.length) := (ints_at RT.out).1.symm
      have p0 := P.out.x0
      have p1 := P.out.x1
      go_wp2_with fail
      refine (equalInts_same ac 0 cac at_ nat_ cat_ C _ _ _ RC.out.toInts RT.out.toInts (by omega)).mono ?_
      rintro e w6 ⟨rfl, kk⟩
      replace K := Lib.hid (K.out.trans kk)
      replace P := Lib.hid (P.out.k kk)
      replace RD := Lib.hid (RD.out.k kk)
      replace RF := Lib.hid (RF.out.k kk)
      replace RC := Lib.hid (RC.out.k kk)
      replace RS := Lib.hid (RS.out.k kk)
      replace RT := Lib.hid (RT.out.k kk)
      clear kk p0 p1
      go_wp2_with fail
      exact fin_ hQ ⟨rfl, K.out⟩
    · have h0b : ((nac : Int) == 0) = false := by rw [beq_eq_false_iff_ne]; omega
      have hne : 0 < nac := by omega
      have HC : Hid (progOk ds fs = true ∧ 0 ≤ v1 ∧ v1 < (fs.length : Int)) := reached_cond (by rw [V.out]; have := NRC.out; omega)
      obtain ⟨bc, oc, rfl, _, -⟩ := RC.out.toInts.2 hne
      clear RS
      go_wp2_with fail
      go_loopw [6] (fun iv wr => ∃ (j : Nat), j ≤ nac ∧ iv = .int .i64 j ∧ Hid (Keep w wr) ∧ Hid (Px wr s (.slice a0 n0 c0) (.slice a1 n1 c1)) ∧ Hid (Rd wr _ (encDecls ds) (.slice a0 n0 c0)) ∧ Hid (Rd wr _ (encFuncs fs) (.slice a1 n1 c1)) ∧ Hid (Rd wr _ (encInts C) (.slice (some ⟨bc, oc, none⟩) nac cac))) (fun i _ => nac - (intOf i).toNat)
      case atStart => exact ⟨0, Nat.zero_le _, rfl, K, P, RD, RF, RC⟩
      case round =>
        clear K P RD RF RC
        obtain ⟨j, hj, rfl, K, P, RD, RF, RC⟩ := hrel
        obtain ⟨wo, rfl⟩ : ∃ wo : World, wo = wr := ⟨_, rfl⟩
        by_cases hlt : j < nac
        · have hj0 : (0 : Int) ≤ (j : Int) := by omega
          have hj1 : (j : Int) < (nac : Int) := by omega
          have KD : Keep wo wo.drew := (Ext.refl (fun _ => False) wo).drew
          replace P := Lib.hid (P.out.k KD)
          replace RD := Lib.hid (RD.out.k KD)
          replace RF := Lib.hid (RF.out.k KD)
          replace RC := Lib.hid (RC.out.k KD)
          have KW := Lib.hid (K.out.trans KD)
          obtain ⟨g, hg⟩ : ∃ g, g = iAt C j := ⟨_, rfl⟩
          have HG : Hid (g ∈ C) := by show g ∈ C; rw [hg, iAt_get (by have := NRC.out; omega)]; exact List.getElem_mem _
          have q0 := ints_cell RC.out hlt
          rw [← hg] at q0
          have p0 : wo.drew.cell? ⟨s, 0, none⟩ = some (.slice a0 n0 c0) := P.out.x0
          have p1 : wo.drew.cell? ⟨s, 1, none⟩ = some (.slice a1 n1 c1) := P.out.x1
          clear KD K hg
          go_wp2_with fail
          have HCG : Hid (progOk ds fs = true ∧ 0 ≤ g ∧ g < (fs.length : Int)) := ⟨HC.out.1, reached_range HC.out (by rw [V.out]; exact HG.out)⟩
          have HWB : Hid (withinB (reachedL ds fs g) C = true) := withinB_sub (fun x hx => by rw [← V.out]; exact reached_trans HC.out (by rw [V.out]; exact HG.out) hx)
          refine wp_region_held_drew (S := fun w' => w'.cell? ⟨s, 0, none⟩ = some (.slice a0 n0 c0) ∧ w'.cell? ⟨s, 1, none⟩ = some (.slice a1 n1 c1) ∧ w'.cell? ⟨bc, oc + j, none⟩ = some (.int .i64 g)) (by kernel_rfl) ⟨p0, p1, q0⟩ (fun hHeld => ?_)
          have pc : Hid (Keep wo.drew wo.drew) := Ext.refl _ _
          refine wT 0 hHeld ?_
          try go_frame
          refine wT 1 hHeld ?_
          try go_frame
          refine wT 2 hHeld ?_
          try go_frame
          refine wT 3 hHeld ?_
          try go_frame
          refine wT 4 hHeld ?_
          try go_frame
          refine wO 5 (fun K0 hK0 => ?_)
          go_simp
          go_at_call 43
          refine (implReachedFrom ds fs a0 n0 c0 a1 n1 c1 g _ _ _ RD.out RF.out HF.out).mono ?_
          rintro e y1 ⟨ag, ng, cg, rfl, rg, kk⟩
          replace pc := Lib.hid (pc.out.trans kk)
          replace P := Lib.hid (P.out.k kk)
          replace RD := Lib.hid (RD.out.k kk)
          replace RF := Lib.hid (RF.out.k kk)
          replace RC := Lib.hid (RC.out.k kk)
          have RG := Lib.hid rg.read
          have hng : ng ≤ 4 := by have h1 := (ints_at RG.out).1; have h2 := reachedL_len ds fs g; omega
          have hg0 : 0 < ng := by have h1 := (ints_at RG.out).1; rw [← h1]; exact List.length_pos_of_mem (reached_self HCG.out)
          clear rg
          clear kk
          refine hK0.out _ _ ⟨pc.out.cl p0 (fun h => h), pc.out.cl p1 (fun h => h), pc.out.cl q0 (fun h => h)⟩ (fun hHeld => ?_)
          clear hK0
          try go_frame
          refine wT 6 hHeld ?_
          try go_frame
          refine wpAnyH_done (by kernel_rfl) ?_ _
          have hgb : ((ng : Int) == 0) = false := by rw [beq_eq_false_iff_ne]; omega
          replace K := Lib.hid (KW.out.trans pc.out)
          clear pc KW hHeld p0 p1 q0
          go_wp2_with fail
          refine (within_any ag ng cg (some ⟨bc, oc, none⟩) nac cac (reachedL ds fs g) C _ _ _ RG.out.toInts RC.out.toInts (by omega) (by omega)).mono ?_
          rw [HWB.out]
          rintro e _ ⟨rfl, rfl⟩
          clear RG HWB HG
          go_wp2_with fail
          go_roundw
          case rel => exact ⟨j + 1, by omega, by go_num, K, P, RD, RF, RC⟩
          case measure => simp [intOf]; omega
        · have HJ : Hid (j = nac) := by show _ = _; omega
          go_wp2_with fail
          exact fin_ hQ ⟨rfl, K.out⟩
  · go_enter Try.func11, Try.ntmps11
    go_wp2_with fail
    exact fin_ hQ ⟨rfl, Ext.refl _ _⟩
end Go.Proofs.Ytaeddcnakilnlaa
