/- The drawn law FnValidProgram: the walk. -/
import Derived.Test.YtaeddcnakilnlaaMT
import Derived.Test.YtaeddcnakilnlaaMW
import Derived.Test.YtaeddcnakilnlaaWValidProg
import Derived.Test.YtaeddcnakilnlaaMS
namespace Go.Proofs.Ytaeddcnakilnlaa
open Go.RowKit

set_option maxRecDepth 100000 in
set_option maxHeartbeats 1500000 in
theorem fnValidProgram_walk (a : Option Addr) (len cap : Nat) (z : Nat → Int) (w : World) (h : Byt w a len z) (hlc : len ≤ cap) :
    Calls Try.prog 5 #[.slice a len cap] w fun e w' => e = .returned (.bool true) ∧ Keep w w' := by
  refine calls_k fun Q hQ => ?_
  by_cases hl : len ≤ 1048576
  · go_enter Try.func5, Try.ntmps5
    go_wp2_with fail
    refine (DrawValidProgram_any a len cap z w h hlc hl).mono ?_
    rintro e w1 ⟨ds, fs, a0, n0, c0, a1, n1, c1, rfl, r0, r1, hf, k1⟩
    have KO := Keep.al w1 (.cells #[.slice a0 n0 c0, .slice a1 n1 c1] 50)
    have K := Lib.hid (k1.trans KO)
    have P := Lib.hid (Px.born w1 (.slice a0 n0 c0) (.slice a1 n1 c1))
    have RD := Lib.hid (r0.k KO)
    have RF := Lib.hid (r1.k KO)
    have HF : Hid (fitP fs) := hf
    clear h r0 r1 k1 KO hf
    go_upto_region 4 with fail
    generalize hW : w1.alloc (.cells #[.slice a0 n0 c0, .slice a1 n1 c1] 50) = W at *
    clear hW
    generalize hS : w1.heap.size = s at *
    clear hS
    obtain ⟨v, hv⟩ : ∃ v, v = progOk ds fs := ⟨_, rfl⟩
    have V : Hid (progOk ds fs = v) := hv.symm
    clear hv
    cases v
    · have p0 := P.out.x0
      have p1 := P.out.x1
      go_wp2_with fail
      refine (implValidProgram ds fs a0 n0 c0 a1 n1 c1 _ _ _ RD.out RF.out HF.out).mono ?_
      rw [V.out]
      rintro e w2 ⟨rfl, kk⟩
      replace K := Lib.hid (K.out.trans kk)
      replace P := Lib.hid (P.out.k kk)
      replace RD := Lib.hid (RD.out.k kk)
      replace RF := Lib.hid (RF.out.k kk)
      clear kk p0 p1
      have p0 := P.out.x0
      have p1 := P.out.x1
      go_wp2_with fail
      refine (specValidProgram ds fs a0 n0 c0 a1 n1 c1 _ _ _ RD.out RF.out).mono ?_
      rw [V.out]
      rintro e w3 ⟨rfl, kk⟩
      replace K := Lib.hid (K.out.trans kk)
      replace P := Lib.hid (P.out.k kk)
      replace RD := Lib.hid (RD.out.k kk)
      replace RF := Lib.hid (RF.out.k kk)
      clear kk p0 p1
      have p0 := P.out.x0
      have p1 := P.out.x1
      go_wp2_with fail
      refine (specValidProgram ds fs a0 n0 c0 a1 n1 c1 _ _ _ RD.out RF.out).mono ?_
      rw [V.out]
      rintro e w4 ⟨rfl, kk⟩
      replace K := Lib.hid (K.out.trans kk)
      replace P := Lib.hid (P.out.k kk)
      replace RD := Lib.hid (RD.out.k kk)
      replace RF := Lib.hid (RF.out.k kk)
      clear kk p0 p1
      go_wp2_with fail
      exact fin_ hQ ⟨rfl, K.out⟩
    · have p0 := P.out.x0
      have p1 := P.out.x1
      go_wp2_with fail
      refine (implValidProgram ds fs a0 n0 c0 a1 n1 c1 _ _ _ RD.out RF.out HF.out).mono ?_
      rw [V.out]
      rintro e w2 ⟨rfl, kk⟩
      replace K := Lib.hid (K.out.trans kk)
      replace P := Lib.hid (P.out.k kk)
      replace RD := Lib.hid (RD.out.k kk)
      replace RF := Lib.hid (RF.out.k kk)
      clear kk p0 p1
      have p0 := P.out.x0
      have p1 := P.out.x1
      go_wp2_with fail
      refine (specValidProgram ds fs a0 n0 c0 a1 n1 c1 _ _ _ RD.out RF.out).mono ?_
      rw [V.out]
      rintro e w3 ⟨rfl, kk⟩
      replace K := Lib.hid (K.out.trans kk)
      replace P := Lib.hid (P.out.k kk)
      replace RD := Lib.hid (RD.out.k kk)
      replace RF := Lib.hid (RF.out.k kk)
      clear kk p0 p1
      have HP := Lib.hid (progOk_parts V.out)
      have HL : Hid (fs.length = n1) := (funcs_at RF.out).1
      have HS3 := Lib.hid (sigsOk_three HP.out.1)
      have hn1 : 1 ≤ n1 := by have h := HS3.out.1; rw [List.length_map, HL.out] at h; exact h
      have hn4 : n1 ≤ 4 := by have h := HS3.out.2.1; rw [List.length_map, HL.out] at h; exact h
      obtain ⟨b1, o1, rfl, -, -⟩ := (funcs_at RF.out).2.2.2 0 (by omega)
      go_wp2_with fail
      go_loopw [5] (fun iv wr => ∃ (j : Nat), j ≤ n1 ∧ iv = .int .i64 j ∧ Hid (Keep w wr) ∧ Hid (Px wr s (.slice a0 n0 c0) (.slice (some ⟨b1, o1, none⟩) n1 c1)) ∧ Hid (Rd wr _ (encDecls ds) (.slice a0 n0 c0)) ∧ Hid (Rd wr _ (encFuncs fs) (.slice (some ⟨b1, o1, none⟩) n1 c1))) (fun i _ => n1 - (intOf i).toNat)
      case atStart => exact ⟨0, Nat.zero_le _, rfl, K, P, RD, RF⟩
      case round =>
        clear K P RD RF
        obtain ⟨j, hj, rfl, K, P, RD, RF⟩ := hrel
        obtain ⟨wo, rfl⟩ : ∃ wo : World, wo = wr := ⟨_, rfl⟩
        by_cases hlt : j < n1
        · have hj0 : (0 : Int) ≤ (j : Int) := by omega
          have hj1 : (j : Int) < (n1 : Int) := by omega
          have KD : Keep wo wo.drew := (Ext.refl (fun _ => False) wo).drew
          have px1 := P.out.x1
          replace P := Lib.hid (P.out.k KD)
          replace RD := Lib.hid (RD.out.k KD)
          replace RF := Lib.hid (RF.out.k KD)
          have KW := Lib.hid (K.out.trans KD)
          have HJ : Hid (j < fs.length) := by show _ < _; rw [HL.out]; exact hlt
          have HTB : Hid (typeTop ds fs (fAt fs j).params (.mk (fAt fs j).body.op (fAt fs j).body.num (fAt fs j).body.kids) = (fAt fs j).result) := by
            have h := of_decide_eq_true (HP.out.2 j HJ.out)
            rw [expr_eta]; exact h
          have HFJ : Hid (allE fitN (.mk (fAt fs j).body.op (fAt fs j).body.num (fAt fs j).body.kids)) := by
            show allE _ _
            rw [expr_eta]; exact HF.out j HJ.out
          obtain ⟨ap, np, cp, ab, nb, cb, z0, z1, z2, z3, z4, rp, rb⟩ := funcs_cells RF.out hlt
          have hnp : np ≤ 3 := by
            have h1 := (sigsOk_parts HP.out.1).2.2.2 j (by rw [List.length_map]; exact HJ.out)
            rw [sgAt_sigF fs HJ.out] at h1
            have h2 := (ints_at rp).1
            refine Classical.byContradiction fun h => ?_
            rw [sigOk_len (show 3 < (sigF (fAt fs j)).params.length from by show 3 < (fAt fs j).params.length; omega)] at h1
            cases h1
          have RP := Lib.hid rp
          have RB := Lib.hid rb
          clear rp rb
          obtain ⟨g, hg⟩ : ∃ g, g = (fAt fs j).result := ⟨_, rfl⟩
          rw [← hg] at z1
          replace HTB := HTB.out
          rw [← hg] at HTB
          replace HTB := Lib.hid HTB
          have hgg : (g != g) = false := by simp
          have p0 : wo.drew.cell? ⟨s, 0, none⟩ = some (.slice a0 n0 c0) := P.out.x0
          have p1 : wo.drew.cell? ⟨s, 1, none⟩ = some (.slice (some ⟨b1, o1, none⟩) n1 c1) := P.out.x1
          clear KD K hg
          go_wp2_with fail
          refine wp_region_held_drew (S := fun w' => w'.cell? ⟨s, 0, none⟩ = some (.slice a0 n0 c0) ∧ w'.cell? ⟨s, 1, none⟩ = some (.slice (some ⟨b1, o1, none⟩) n1 c1) ∧ w'.cell? ⟨b1, o1 + j * 5, none⟩ = some (.slice ap np cp) ∧ w'.cell? ⟨b1, o1 + j * 5 + 1, none⟩ = some (.int .i64 g) ∧ w'.cell? ⟨b1, o1 + j * 5 + 2, none⟩ = some (.int .i64 (fAt fs j).body.op) ∧ w'.cell? ⟨b1, o1 + j * 5 + 3, none⟩ = some (.int .i64 (fAt fs j).body.num) ∧ w'.cell? ⟨b1, o1 + j * 5 + 4, none⟩ = some (.slice ab nb cb)) (by kernel_rfl) ⟨p0, p1, z0, z1, z2, z3, z4⟩ (fun hHeld => ?_)
          have pc : Hid (Keep wo.drew wo.drew) := Ext.refl _ _
          refine wT 0 hHeld ?_
          try go_frame
          refine wT 1 hHeld ?_
          try go_frame
          refine wT 2 hHeld ?_
          try go_frame
          refine wT 3 hHeld ?_
          try go_frame
          refine wT 4 hHeld ?_
          try go_frame
          refine wT 5 hHeld ?_
          try go_frame
          refine wT 6 hHeld ?_
          try go_frame
          refine wT 7 hHeld ?_
          try go_frame
          refine wT 8 hHeld ?_
          try go_frame
          refine wT 9 hHeld ?_
          try go_frame
          refine wT 10 hHeld ?_
          try go_frame
          refine wT 11 hHeld ?_
          try go_frame
          refine wT 12 hHeld ?_
          try go_frame
          refine wT 14 hHeld ?_
          try go_frame
          refine wT 15 hHeld ?_
          try go_frame
          refine wT 16 hHeld ?_
          try go_frame
          refine wT 17 hHeld ?_
          try go_frame
          refine wT 18 hHeld ?_
          try go_frame
          refine wT 19 hHeld ?_
          try go_frame
          refine wO 13 (fun K0 hK0 => ?_)
          go_simp
          go_at_call 24
          refine (implTypeOfTop ds fs a0 n0 c0 (some ⟨b1, o1, none⟩) n1 c1 ap np cp (fAt fs j).params (fAt fs j).body.op (fAt fs j).body.num (fAt fs j).body.kids ab nb cb _ _ _ _ _ RD.out RF.out RP.out (by omega) RB.out HFJ.out).mono ?_
          rw [HTB.out]
          rintro e y1 ⟨rfl, kk⟩
          replace pc := Lib.hid (pc.out.trans kk)
          replace P := Lib.hid (P.out.k kk)
          replace RD := Lib.hid (RD.out.k kk)
          replace RF := Lib.hid (RF.out.k kk)
          replace RP := Lib.hid (RP.out.k kk)
          replace RB := Lib.hid (RB.out.k kk)
          clear kk
          refine hK0.out _ _ ⟨pc.out.cl p0 (fun h => h), pc.out.cl p1 (fun h => h), pc.out.cl z0 (fun h => h), pc.out.cl z1 (fun h => h), pc.out.cl z2 (fun h => h), pc.out.cl z3 (fun h => h), pc.out.cl z4 (fun h => h)⟩ (fun hHeld => ?_)
          clear hK0
          try go_frame
          refine wT 20 hHeld ?_
          try go_frame
          refine wpAnyH_done (by kernel_rfl) ?_ _
          replace K := Lib.hid (KW.out.trans pc.out)
          clear pc KW hHeld p0 p1 z0 z1 z2 z3 z4 RP RB
          go_wp2_with fail
          go_roundw
          case rel => exact ⟨j + 1, by omega, by go_num, K, P, RD, RF⟩
          case measure => simp [intOf]; omega
        · have px0 := P.out.x0
          have px1 := P.out.x1
          go_wp2_with fail
          refine (implValidSigs ds fs a0 n0 c0 (some ⟨b1, o1, none⟩) n1 c1 _ _ _ RD.out RF.out).mono ?_
          rw [HP.out.1]
          rintro e w9 ⟨rfl, kk⟩
          replace K := Lib.hid (K.out.trans kk)
          clear kk px0 px1
          go_wp2_with fail
          exact fin_ hQ ⟨rfl, K.out⟩
  · go_enter Try.func5, Try.ntmps5
    go_wp2_with fail
    exact fin_ hQ ⟨rfl, Ext.refl _ _⟩
end Go.Proofs.Ytaeddcnakilnlaa
