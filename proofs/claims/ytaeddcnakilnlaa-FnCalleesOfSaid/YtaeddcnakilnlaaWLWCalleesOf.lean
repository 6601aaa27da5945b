/- The drawn law FnCalleesOf: the walk. -/
import Derived.Test.YtaeddcnakilnlaaMT
import Derived.Test.YtaeddcnakilnlaaWLp3
import Derived.Test.YtaeddcnakilnlaaMW
namespace Go.Proofs.Ytaeddcnakilnlaa
open Go.RowKit

set_option maxRecDepth 100000 in
set_option maxHeartbeats 1500000 in
theorem fnCalleesOf_walk (a : Option Addr) (len cap : Nat) (z : Nat → Int) (w : World) (h : Byt w a len z) (hlc : len ≤ cap) :
    Calls Try.prog 10 #[.slice a len cap] w fun e w' => e = .returned (.bool true) ∧ Keep w w' := by
  refine calls_k fun Q hQ => ?_
  by_cases hl : len ≤ 1048576
  · go_enter Try.func10, Try.ntmps10
    go_wp2_with fail
    refine (DrawCalleesOf_any a len cap z w h hlc hl).mono ?_
    rintro e w1 ⟨ds, fs, a0, n0, c0, a1, n1, c1, v1, rfl, r0, r1, hf, k1⟩
    have KO := Keep.al w1 (.cells #[.slice a0 n0 c0, .slice a1 n1 c1] 50)
    have K := Lib.hid (k1.trans KO)
    have P := Lib.hid (Px.born w1 (.slice a0 n0 c0) (.slice a1 n1 c1))
    have RD := Lib.hid (r0.k KO)
    have RF := Lib.hid (r1.k KO)
    have HF : Hid (fitP fs) := hf
    clear h r0 r1 k1 KO hf
    go_upto_region 4 with fail
    generalize hW : w1.alloc (.cells #[.slice a0 n0 c0, .slice a1 n1 c1] 50) = W at *
    clear hW
    generalize hS : w1.heap.size = s at *
    clear hS
    obtain ⟨C, hC⟩ : ∃ C, C = calleesL ds fs v1 := ⟨_, rfl⟩
    have V : Hid (calleesL ds fs v1 = C) := hC.symm
    have HCL : Hid (C.length ≤ 30) := by show _ ≤ _; rw [hC]; exact calleesL_len _ _ _
    clear hC
    have p0 := P.out.x0
    have p1 := P.out.x1
    go_wp2_with fail
    refine (implCalleesOf ds fs a0 n0 c0 a1 n1 c1 v1 _ _ _ RD.out RF.out HF.out).mono ?_
    rw [V.out]
    rintro e w2 ⟨ac, nac, cac, rfl, rac, kk⟩
    replace K := Lib.hid (K.out.trans kk)
    replace P := Lib.hid (P.out.k kk)
    replace RD := Lib.hid (RD.out.k kk)
    replace RF := Lib.hid (RF.out.k kk)
    have RC := Lib.hid rac.read
    clear rac
    clear kk p0 p1
    have NRC : Hid (nac = C.length) := (ints_at RC.out).1.symm
    have p0 := P.out.x0
    have p1 := P.out.x1
    go_wp2_with fail
    refine (specCalleesOf ds fs a0 n0 c0 a1 n1 c1 v1 _ _ _ RD.out RF.out).mono ?_
    rw [V.out]
    rintro e w3 ⟨as_, nas_, cas_, rfl, ras_, kk⟩
    replace K := Lib.hid (K.out.trans kk)
    replace P := Lib.hid (P.out.k kk)
    replace RD := Lib.hid (RD.out.k kk)
    replace RF := Lib.hid (RF.out.k kk)
    replace RC := Lib.hid (RC.out.k kk)
    have RS := Lib.hid ras_
    clear ras_
    clear kk p0 p1
    have NRS : Hid (nas_ = C.length) := (ints_at RS.out).1.symm
    have hnc : nac ≤ 30 := by have h1 := HCL.out; have h2 := NRC.out; omega
    have p0 := P.out.x0
    have p1 := P.out.x1
    go_wp2_with fail
    refine (equalInts_same ac nac cac as_ nas_ cas_ C _ _ _ RC.out.toInts RS.out.toInts (by omega)).mono ?_
    rintro e w4 ⟨rfl, kk⟩
    replace K := Lib.hid (K.out.trans kk)
    replace P := Lib.hid (P.out.k kk)
    replace RD := Lib.hid (RD.out.k kk)
    replace RF := Lib.hid (RF.out.k kk)
    replace RC := Lib.hid (RC.out.k kk)
    replace RS := Lib.hid (RS.out.k kk)
    clear kk p0 p1
    by_cases h0 : nac = 0
    · subst h0
      have p0 := P.out.x0
      have p1 := P.out.x1
      go_wp2_with fail
      refine (specCalleesOf ds fs a0 n0 c0 a1 n1 c1 v1 _ _ _ RD.out RF.out).mono ?_
      rw [V.out]
      rintro e w5 ⟨at_, nat_, cat_, rfl, rat_, kk⟩
      replace K := Lib.hid (K.out.trans kk)
      replace P := Lib.hid (P.out.k kk)
      replace RD := Lib.hid (RD.out.k kk)
      replace RF := Lib.hid (RF.out.k kk)
      replace RC := Lib.hid (RC.out.k kk)
      replace RS := Lib.hid (RS.out.k kk)
      have RT := Lib.hid rat_
      clear rat_
      clear kk p0 p1
      have NRT : Hid (nat_ = C.length) := (ints_at RT.out).1.symm
      have p0 := P.out.x0
      have p1 := P.out.x1
      go_wp2_with fail
      refine (equalInts_same ac 0 cac at_ nat_ cat_ C _ _ _ RC.out.toInts RT.out.toInts (by omega)).mono ?_
      rintro e w6 ⟨rfl, kk⟩
      replace K := Lib.hid (K.out.trans kk)
      replace P := Lib.hid (P.out.k kk)
      replace RD := Lib.hid (RD.out.k kk)
      replace RF := Lib.hid (RF.out.k kk)
      replace RC := Lib.hid (RC.out.k kk)
      replace RS := Lib.hid (RS.out.k kk)
      replace RT := Lib.hid (RT.out.k kk)
      clear kk p0 p1
      go_wp2_with fail
      exact fin_ hQ ⟨rfl, K.out⟩
    · have h0b : ((nac : Int) == 0) = false := by rw [beq_eq_false_iff_ne]; omega
      have hne : 0 < nac := by omega
      have HASC : Hid (AscI C) := by show AscI C; rw [← V.out]; exact AscI.of (callees_asc _ _ _)
      have HWB : Hid (withinB C (reachedL ds fs v1) = true) := withinB_sub (fun x hx => callees_reached (by rw [V.out]; exact hx))
      have hcl : Hid (fs.length = n1) := (funcs_at RF.out).1
      have hn1 : n1 ≤ 4 := by
        have h1 := (progOk_parts (callees_cond (ds := ds) (fs := fs) (z := v1) (by rw [V.out]; have := NRC.out; omega)).1).1
        have h2 := (sigsOk_three h1).2.1
        rw [List.length_map] at h2; have := hcl.out; omega
      obtain ⟨bc, oc, rfl, _, hcf⟩ := RC.out.toInts.2 hne
      have q0 := hcf 0 hne
      have q1 := hcf (nac - 1) (by omega)
      simp only [Nat.add_zero] at q0
      have h0m : iAt C 0 ∈ C := by rw [iAt_get (by have := NRC.out; omega)]; exact List.getElem_mem _
      have h1m : iAt C (nac - 1) ∈ C := by rw [iAt_get (by have := NRC.out; omega)]; exact List.getElem_mem _
      have hx0 : 0 ≤ iAt C 0 := (callees_range (ds := ds) (fs := fs) (z := v1) (by rw [V.out]; exact h0m)).1
      have hx1 : iAt C (nac - 1) < (n1 : Int) := by rw [← hcl.out]; exact (callees_range (ds := ds) (fs := fs) (z := v1) (by rw [V.out]; exact h1m)).2
      have hsb : IntKind.i64.wrap ((nac : Int) - 1) = ((nac - 1 : Nat) : Int) := by rw [IntWalk.i64_in _ (by omega)]; omega
      have hnn : (0 : Int) < (nac : Int) := by omega
      have hnl : ((nac - 1 : Nat) : Int) < (nac : Int) := by omega
      have hnp : (0 : Int) ≤ ((nac - 1 : Nat) : Int) := by omega
      have p0 := P.out.x0
      have p1 := P.out.x1
      clear hcf h0m h1m RS
      go_upto_region 7 with fail
      have KD : Keep w4 w4.drew := (Ext.refl (fun _ => False) w4).drew
      replace P := Lib.hid (P.out.k KD)
      replace RD := Lib.hid (RD.out.k KD)
      replace RF := Lib.hid (RF.out.k KD)
      replace RC := Lib.hid (RC.out.k KD)
      have KW := K
      replace p0 : w4.drew.cell? ⟨s, 0, none⟩ = some (.slice a0 n0 c0) := P.out.x0
      replace p1 : w4.drew.cell? ⟨s, 1, none⟩ = some (.slice a1 n1 c1) := P.out.x1
      replace q0 : w4.drew.cell? ⟨bc, oc, none⟩ = some (.int .i64 (iAt C 0)) := q0
      replace q1 : w4.drew.cell? ⟨bc, oc + (nac - 1), none⟩ = some (.int .i64 (iAt C (nac - 1))) := q1
      clear KD hcl NRS K
      refine wp_region_held_drew (S := fun w' => w'.cell? ⟨s, 0, none⟩ = some (.slice a0 n0 c0) ∧ w'.cell? ⟨s, 1, none⟩ = some (.slice a1 n1 c1) ∧ w'.cell? ⟨bc, oc, none⟩ = some (.int .i64 (iAt C 0)) ∧ w'.cell? ⟨bc, oc + (nac - 1), none⟩ = some (.int .i64 (iAt C (nac - 1)))) (by kernel_rfl) ⟨p0, p1, q0, q1⟩ (fun hHeld => ?_)
      have pc : Hid (Keep w4.drew w4.drew) := Ext.refl _ _
      refine wT 0 hHeld ?_
      try go_frame
      refine wO 1 (fun K0 hK0 => ?_)
      go_simp
      go_at_call 41
      refine (ascends_yes _ nac cac C _ _ RC.out.toInts (by omega) HASC.out).mono ?_
      rintro e y1 ⟨rfl, kk⟩
      replace pc := Lib.hid (pc.out.trans kk)
      replace RD := Lib.hid (RD.out.k kk)
      replace RF := Lib.hid (RF.out.k kk)
      replace RC := Lib.hid (RC.out.k kk)
      clear kk
      refine hK0.out _ _ ⟨pc.out.cl p0 (fun h => h), pc.out.cl p1 (fun h => h), pc.out.cl q0 (fun h => h), pc.out.cl q1 (fun h => h)⟩ (fun hHeld => ?_)
      clear hK0
      try go_frame
      refine wT 2 hHeld ?_
      try go_frame
      refine wT 3 hHeld ?_
      try go_frame
      refine wT 4 hHeld ?_
      try go_frame
      refine wT 5 hHeld ?_
      try go_frame
      refine wT 6 hHeld ?_
      try go_frame
      refine wT 7 hHeld ?_
      try go_frame
      refine wT 8 hHeld ?_
      try go_frame
      refine wT 9 hHeld ?_
      try go_frame
      refine wT 10 hHeld ?_
      try go_frame
      refine wT 11 hHeld ?_
      try go_frame
      refine wT 12 hHeld ?_
      try go_frame
      refine wT 13 hHeld ?_
      try go_frame
      refine wT 14 hHeld ?_
      try go_frame
      refine wT 15 hHeld ?_
      try go_frame
      refine wT 16 hHeld ?_
      try go_frame
      refine wT 17 hHeld ?_
      try go_frame
      refine wT 18 hHeld ?_
      try go_frame
      refine wT 19 hHeld ?_
      try go_frame
      refine wT 20 hHeld ?_
      try go_frame
      refine wT 21 hHeld ?_
      try go_frame
      refine wT 22 hHeld ?_
      try go_frame
      refine wT 23 hHeld ?_
      try go_frame
      refine wO 24 (fun K0 hK0 => ?_)
      go_simp
      go_at_call 43
      refine (implReachedFrom ds fs a0 n0 c0 a1 n1 c1 v1 _ _ _ RD.out RF.out HF.out).mono ?_
      rintro e y2 ⟨ar, nr, cr, rfl, rr, kk⟩
      replace pc := Lib.hid (pc.out.trans kk)
      replace RD := Lib.hid (RD.out.k kk)
      replace RF := Lib.hid (RF.out.k kk)
      replace RC := Lib.hid (RC.out.k kk)
      have RR := Lib.hid rr.read
      have hnr : nr ≤ 4 := by have h1 := (ints_at RR.out).1; have h2 := reachedL_len ds fs v1; omega
      clear rr
      clear kk
      refine hK0.out _ _ ⟨pc.out.cl p0 (fun h => h), pc.out.cl p1 (fun h => h), pc.out.cl q0 (fun h => h), pc.out.cl q1 (fun h => h)⟩ (fun hHeld => ?_)
      clear hK0
      try go_frame
      refine wO 25 (fun K0 hK0 => ?_)
      go_simp
      go_at_call 42
      refine (within_any _ nac cac ar nr cr C (reachedL ds fs v1) _ _ _ RC.out.toInts RR.out.toInts (by omega) (by omega)).mono ?_
      rw [HWB.out]
      rintro e y3 ⟨rfl, rfl⟩
      refine hK0.out _ _ ⟨pc.out.cl p0 (fun h => h), pc.out.cl p1 (fun h => h), pc.out.cl q0 (fun h => h), pc.out.cl q1 (fun h => h)⟩ (fun hHeld => ?_)
      clear hK0
      try go_frame
      refine wT 26 hHeld ?_
      try go_frame
      refine wT 27 hHeld ?_
      try go_frame
      refine wpAnyH_done (by kernel_rfl) ?_ _
      go_wp2_with fail
      exact fin_ hQ ⟨rfl, KW.out.trans ((Ext.refl (fun _ => False) _).drew.trans pc.out)⟩
  · go_enter Try.func10, Try.ntmps10
    go_wp2_with fail
    exact fin_ hQ ⟨rfl, Ext.refl _ _⟩
end Go.Proofs.Ytaeddcnakilnlaa
