/- The drawn law FnValidProgramLet: the walk. -/
import Derived.Test.YtaeddcnakilnlaaMT
import Derived.Test.YtaeddcnakilnlaaMW
import Derived.Test.YtaeddcnakilnlaaWLp6
import Derived.Test.YtaeddcnakilnlaaWValidProg
import Derived.Test.YtaeddcnakilnlaaWLWith
import Derived.Test.YtaeddcnakilnlaaWNodes
namespace Go.Proofs.Ytaeddcnakilnlaa
open Go.RowKit

set_option maxRecDepth 100000 in
set_option maxHeartbeats 1000000 in
theorem fnValidProgramLet_walk (a : Option Addr) (len cap : Nat) (z : Nat → Int) (w : World) (h : Byt w a len z) (hlc : len ≤ cap) :
    Calls Try.prog 9 #[.slice a len cap] w fun e w' => e = .returned (.bool true) ∧ Keep w w' := by
  refine calls_k fun Q hQ => ?_
  by_cases hl : len ≤ 1048576
  · go_enter Try.func9, Try.ntmps9
    go_wp2_with fail
    refine (DrawValidProgram_any a len cap z w h hlc hl).mono ?_
    rintro e w1 ⟨ds, fs, a0, n0, c0, a1, n1, c1, rfl, r0, r1, hf, k1⟩
    have KO := Keep.al w1 (.cells #[.slice a0 n0 c0, .slice a1 n1 c1] 50)
    have K := Lib.hid (k1.trans KO)
    have P := Lib.hid (Px.born w1 (.slice a0 n0 c0) (.slice a1 n1 c1))
    have RD := Lib.hid ((r0.k KO).mono (D' := (fun _ => True)) (fun _ _ => trivial))
    have RF := Lib.hid ((r1.k KO).mono (D' := (fun _ => True)) (fun _ _ => trivial))
    have HF : Hid (fitP fs) := hf
    clear h r0 r1 k1 KO hf
    go_upto_region 4 with fail
    generalize hW : w1.alloc (.cells #[.slice a0 n0 c0, .slice a1 n1 c1] 50) = W at *
    clear hW
    generalize hS : w1.heap.size = s at *
    clear hS
    obtain ⟨v, hv⟩ : ∃ v, v = progOk ds fs := ⟨_, rfl⟩
    have V : Hid (progOk ds fs = v) := hv.symm
    clear hv
    have p0 := P.out.x0
    have p1 := P.out.x1
    go_wp2_with fail
    refine (implValidProgram ds fs a0 n0 c0 a1 n1 c1 _ _ _ RD.out RF.out HF.out).mono ?_
    rw [V.out]
    rintro e w2 ⟨rfl, kk⟩
    replace K := Lib.hid (K.out.trans kk)
    replace P := Lib.hid (P.out.k kk)
    replace RD := Lib.hid (RD.out.k kk)
    replace RF := Lib.hid (RF.out.k kk)
    clear kk p0 p1
    have p0 := P.out.x0
    have p1 := P.out.x1
    go_wp2_with fail
    refine (specValidProgram ds fs a0 n0 c0 a1 n1 c1 _ _ _ RD.out RF.out).mono ?_
    rw [V.out]
    rintro e w3 ⟨rfl, kk⟩
    replace K := Lib.hid (K.out.trans kk)
    replace P := Lib.hid (P.out.k kk)
    replace RD := Lib.hid (RD.out.k kk)
    replace RF := Lib.hid (RF.out.k kk)
    clear kk p0 p1
    cases v
    · have p0 := P.out.x0
      have p1 := P.out.x1
      go_wp2_with fail
      refine (specValidProgram ds fs a0 n0 c0 a1 n1 c1 _ _ _ RD.out RF.out).mono ?_
      rw [V.out]
      rintro e w4 ⟨rfl, kk⟩
      replace K := Lib.hid (K.out.trans kk)
      replace P := Lib.hid (P.out.k kk)
      replace RD := Lib.hid (RD.out.k kk)
      replace RF := Lib.hid (RF.out.k kk)
      clear kk p0 p1
      go_wp2_with fail
      exact fin_ hQ ⟨rfl, K.out⟩
    · have HP := Lib.hid (progOk_parts V.out)
      have HL : Hid (fs.length = n1) := (funcs_at RF.out).1
      have HS3 := Lib.hid (sigsOk_three HP.out.1)
      have hn1 : 1 ≤ n1 := by have h := HS3.out.1; rw [List.length_map, HL.out] at h; exact h
      have hn4 : n1 ≤ 4 := by have h := HS3.out.2.1; rw [List.length_map, HL.out] at h; exact h
      obtain ⟨b1, o1, rfl, -, -⟩ := (funcs_at RF.out).2.2.2 0 (by omega)
      go_wp2_with fail
      go_loopw [5] (fun iv wr => ∃ (j : Nat), j ≤ n1 ∧ iv = .int .i64 j ∧ Hid (Keep w wr) ∧ Hid (Px wr s (.slice a0 n0 c0) (.slice (some ⟨b1, o1, none⟩) n1 c1)) ∧ Hid (Rd wr (fun _ => True) (encDecls ds) (.slice a0 n0 c0)) ∧ Hid (Rd wr (fun _ => True) (encFuncs fs) (.slice (some ⟨b1, o1, none⟩) n1 c1))) (fun i _ => n1 - (intOf i).toNat)
      case atStart => exact ⟨0, Nat.zero_le _, rfl, K, P, RD, RF⟩
      case round =>
        clear K P RD RF
        obtain ⟨j, hj, rfl, K, P, RD, RF⟩ := hrel
        obtain ⟨wo, rfl⟩ : ∃ wo : World, wo = wr := ⟨_, rfl⟩
        by_cases hlt : j < n1
        · have hj0 : (0 : Int) ≤ (j : Int) := by omega
          have hj1 : (j : Int) < (n1 : Int) := by omega
          have HJ : Hid (j < fs.length) := by show _ < _; rw [HL.out]; exact hlt
          have HVB := Lib.hid (body_vf V.out HJ.out)
          have HSG := Lib.hid (sigF_at HP.out.1 HJ.out)
          obtain ⟨ap, np, cp, ab, nb, cb, z0, z1, z2, z3, z4, rp, rb⟩ := funcs_cells RF.out hlt
          have HNP : Hid ((fAt fs j).params.length = np) := (ints_at rp).1
          have hnp : np ≤ 3 := by have h1 := HSG.out.1; have h2 := HNP.out; omega
          have RB := Lib.hid rb
          have p1 := P.out.x1
          obtain ⟨M, hM⟩ : ∃ M, M = nE (fAt fs j).body := ⟨_, rfl⟩
          have HM := Lib.hid hM
          have VN : Hid (nodesL (fAt fs j).body.kids = (M : Int)) := by show _ = _; rw [nodesL_yes HVB.out.2, ← nE_eq, ← hM]
          have hM30 : M ≤ 30 := by have h1 := HVB.out.2; rw [← nE_eq, ← hM] at h1; exact h1
          clear hM rp rb
          go_wp2_with fail
          refine (implNodesOf (fAt fs j).body.op (fAt fs j).body.num (fAt fs j).body.kids ab nb cb _ _ RB.out).mono ?_
          rw [VN.out]
          rintro e wn ⟨rfl, kk⟩
          replace K := Lib.hid (K.out.trans kk)
          replace P := Lib.hid (P.out.k kk)
          replace RD := Lib.hid (RD.out.k kk)
          replace RF := Lib.hid (RF.out.k kk)
          replace RB := Lib.hid (RB.out.k kk)
          replace z0 := kk.cl z0 (fun h => h)
          replace z2 := kk.cl z2 (fun h => h)
          replace z3 := kk.cl z3 (fun h => h)
          replace z4 := kk.cl z4 (fun h => h)
          clear kk p1 z1
          have hgt : IntKind.i64.wrap ((M : Int) + 2) = (M : Int) + 2 := IntWalk.i64_in _ (by omega)
          by_cases hb : M + 2 ≤ 30
          case neg =>
            have hb2 : ¬ (M : Int) + 2 ≤ (30 : Int) := by omega
            clear hb z0 z2 z3 z4
            go_wp2_with fail
            go_roundw
            case rel => exact ⟨j + 1, by omega, by go_num, K, P, RD, RF⟩
            case measure => simp [intOf]; omega
          have hb2 : (M : Int) + 2 ≤ (30 : Int) := by omega
          obtain ⟨S, hS⟩ : ∃ S, S = shR (np : Int) 1 (fAt fs j).body.op (fAt fs j).body.num (fAt fs j).body.kids := ⟨_, rfl⟩
          have VO : Hid (shOk (np : Int) 1 (fAt fs j).body.op (fAt fs j).body.num (fAt fs j).body.kids = true) := shOk_of HVB.out.2 (by omega) (by omega) (by rw [expr_eta]; exact HVB.out.1)
          have VS : Hid (shR (np : Int) 1 (fAt fs j).body.op (fAt fs j).body.num (fAt fs j).body.kids = S) := hS.symm
          have HSE : Hid (ExprL.mk 13 0 [.mk 0 1 [], S] = letB (fAt fs j).params.length (fAt fs j).body) := by
            show _ = _
            rw [hS, shR, if_pos VO.out, expr_eta, HNP.out]; rfl
          have HPN : Hid (progOk ds (fs.set j ⟨(fAt fs j).params, (fAt fs j).result, .mk 13 0 [.mk 0 1 [], S]⟩) = true) := by
            show _ = _
            rw [HSE.out]; exact let_prog V.out HJ.out (by have := HM.out; omega)
          have HFN : Hid (fitP (fs.set j ⟨(fAt fs j).params, (fAt fs j).result, .mk 13 0 [.mk 0 1 [], S]⟩)) := by
            show fitP _
            rw [HSE.out]; exact fit_set HF.out HJ.out (letB_fit (HF.out j HJ.out) HVB.out.1)
          clear hS
          go_upto_region 11 with fail
          go_cut [6, 7] (fun s6v okv wx => ∃ (s6 : Nat) (ao : Option Addr) (no co : Nat), s6v = .pointer (some ⟨s6, 0, none⟩) ∧ okv = .bool true ∧ Hid (Keep w wx) ∧ Hid (Px wx s (.slice a0 n0 c0) (.slice (some ⟨b1, o1, none⟩) n1 c1)) ∧ Hid (Rd wx (fun _ => True) (encDecls ds) (.slice a0 n0 c0)) ∧ Hid (Rd wx (fun _ => True) (encFuncs fs) (.slice (some ⟨b1, o1, none⟩) n1 c1)) ∧ Hid (Ev wx s6 (fun _ => True) S ao no co))
          case first =>
            obtain ⟨B0, hB0⟩ : ∃ B, B = wn.heap.size := ⟨_, rfl⟩
            have QD := Lib.hid RD.out.lt
            have QF := Lib.hid RF.out.lt
            rw [← hB0] at QD QF
            have hsB : s + 1 ≤ B0 := by rw [hB0]; exact P.out.lt
            have hbB : b1 < B0 := by rw [hB0]; exact World.block_lt_of_cell? _ _ z0
            have HB0 : Hid (w.heap.size ≤ B0) := by show _ ≤ _; rw [hB0]; exact K.out.size
            have hBW : B0 ≤ wn.drew.heap.size := by rw [hB0]; exact Nat.le_refl _
            clear hB0
            have KD : Keep wn wn.drew := (Ext.refl (fun _ => False) wn).drew
            have KW := Lib.hid (K.out.trans KD)
            replace P := Lib.hid (P.out.k KD)
            replace QD := Lib.hid (QD.out.k KD)
            replace QF := Lib.hid (QF.out.k KD)
            replace RB := Lib.hid (RB.out.k KD)
            clear KD
            have p1 : wn.drew.cell? ⟨s, 1, none⟩ = some (.slice (some ⟨b1, o1, none⟩) n1 c1) := P.out.x1
            replace z0 : wn.drew.cell? ⟨b1, o1 + j * 5, none⟩ = some (.slice ap np cp) := z0
            replace z2 : wn.drew.cell? ⟨b1, o1 + j * 5 + 2, none⟩ = some (.int .i64 (fAt fs j).body.op) := z2
            replace z3 : wn.drew.cell? ⟨b1, o1 + j * 5 + 3, none⟩ = some (.int .i64 (fAt fs j).body.num) := z3
            replace z4 : wn.drew.cell? ⟨b1, o1 + j * 5 + 4, none⟩ = some (.slice ab nb cb) := z4
            refine wp_region_held_drew (S := fun w' => w'.cell? ⟨s, 1, none⟩ = some (.slice (some ⟨b1, o1, none⟩) n1 c1) ∧ w'.cell? ⟨b1, o1 + j * 5, none⟩ = some (.slice ap np cp) ∧ w'.cell? ⟨b1, o1 + j * 5 + 2, none⟩ = some (.int .i64 (fAt fs j).body.op) ∧ w'.cell? ⟨b1, o1 + j * 5 + 3, none⟩ = some (.int .i64 (fAt fs j).body.num) ∧ w'.cell? ⟨b1, o1 + j * 5 + 4, none⟩ = some (.slice ab nb cb)) (by kernel_rfl) ⟨p1, z0, z2, z3, z4⟩ (fun hHeld => ?_)
            have pc : Hid (Keep wn.drew wn.drew) := Ext.refl _ _
            generalize wn.drew = W0 at *
            refine wT 0 hHeld ?_
            try go_frame
            refine wT 1 hHeld ?_
            try go_frame
            refine wT 2 hHeld ?_
            try go_frame
            refine wT 3 hHeld ?_
            try go_frame
            refine wT 4 hHeld ?_
            try go_frame
            refine wT 5 hHeld ?_
            try go_frame
            refine wT 6 hHeld ?_
            try go_frame
            refine wT 7 hHeld ?_
            try go_frame
            refine wT 8 hHeld ?_
            try go_frame
            refine wT 9 hHeld ?_
            try go_frame
            refine wT 10 hHeld ?_
            try go_frame
            refine wT 11 hHeld ?_
            try go_frame
            refine wT 12 hHeld ?_
            try go_frame
            refine wpAnyH_ready (rs := [13, 17]) (by kernel_rfl) (by simp) ?_
            refine allReadyH_consL rfl (by rfl) (fun K0 hK0 => ?_) (allReadyH_consL rfl (by rfl) (fun K0 hK0 => ?_) (AllReadyH.nil))
            · go_simp
              go_at_call 35
              refine (implShift0 (np : Int) 1 (fAt fs j).body.op (fAt fs j).body.num (fAt fs j).body.kids ab nb cb _ W0 RB.out).mono ?_
              rw [VS.out, VO.out]
              rintro e y1 ⟨ao, no, co, rfl, ro, kk⟩
              have hzy1 : W0.heap.size ≤ y1.heap.size := kk.size
              have RS := Lib.hid ro.read.lt
              replace pc := Lib.hid (pc.out.trans kk)
              replace P := Lib.hid (P.out.k kk)
              replace QD := Lib.hid (QD.out.k kk)
              replace QF := Lib.hid (QF.out.k kk)
              replace RB := Lib.hid (RB.out.k kk)
              clear kk ro
              refine hK0.out _ _ ⟨pc.out.cl p1 (fun h => h), pc.out.cl z0 (fun h => h), pc.out.cl z2 (fun h => h), pc.out.cl z3 (fun h => h), pc.out.cl z4 (fun h => h)⟩ (fun hHeld => ?_)
              clear hK0
              try go_frame
              refine wT 14 hHeld ?_
              try go_frame
              refine wT 15 hHeld ?_
              try go_frame
              refine wT 16 hHeld ?_
              try go_frame
              refine wO 17 (fun K0 hK0 => ?_)
              go_simp
              obtain ⟨s6, hs6⟩ : ∃ s, s = y1.heap.size := ⟨_, rfl⟩
              obtain ⟨y2, hW⟩ : ∃ N, N = y1.alloc (.cells #[.int .i64 0, .int .i64 0, .slice none 0 0] 53) := ⟨_, rfl⟩
              rw [← hs6, ← hW]
              have kk : Keep y1 y2 := by rw [hW]; exact Keep.al _ _
              have hbs6 : s6 + 1 ≤ y2.heap.size := by rw [hW, hs6]; exact Nat.le_of_eq (World.size_alloc _ _).symm
              have has6 : y1.heap.size ≤ s6 := Nat.le_of_eq hs6.symm
              have EZ : Hid (Ev y2 s6 (fun _ => False) (.mk 0 0 []) none 0 0) := by
                rw [hW, hs6]
                exact Ev.born y1 (fun _ => False) (.mk 0 0 []) none 0 0 (.nil 3 _ _)
              replace RS : Hid (Rd y1 (fun k => k ≠ s6) (encExprs S.kids) (.slice ao no co)) := RS.out.mono (fun k hk => by have := hk.2; omega)
              replace pc := Lib.hid (pc.out.trans kk)
              replace P := Lib.hid (P.out.k kk)
              replace QD := Lib.hid (QD.out.k kk)
              replace QF := Lib.hid (QF.out.k kk)
              replace RB := Lib.hid (RB.out.k kk)
              replace RS := Lib.hid (RS.out.k kk)
              clear kk hW hs6
              refine hK0.out _ _ ⟨pc.out.cl p1 (fun h => h), pc.out.cl z0 (fun h => h), pc.out.cl z2 (fun h => h), pc.out.cl z3 (fun h => h), pc.out.cl z4 (fun h => h)⟩ (fun hHeld => ?_)
              clear hK0
              try go_frame
              refine wO 18 (fun K0 hK0 => ?_)
              have hsx : s ≠ s6 := by omega
              have hbx : b1 ≠ s6 := by omega
              have c0 := EZ.out.v0
              have c1 := EZ.out.v1
              have c2 := EZ.out.v2
              have g0 := EZ.out.g0
              have g1 := EZ.out.g1
              have g2 := EZ.out.g2
              go_simp
              clear c0 c1 c2 g0 g1 g2
              have Y := Lib.hid (ext3 y2 s6 (.int .i64 S.op) (.int .i64 S.num) (.slice ao no co))
              refine hK0.out _ _ ⟨at_set3 (pc.out.cl p1 (fun h => h)) hsx, at_set3 (pc.out.cl z0 (fun h => h)) hbx, at_set3 (pc.out.cl z2 (fun h => h)) hbx, at_set3 (pc.out.cl z3 (fun h => h)) hbx, at_set3 (pc.out.cl z4 (fun h => h)) hbx⟩ (fun hHeld => ?_)
              clear hK0
              try go_frame
              refine wT 19 hHeld ?_
              try go_frame
              refine wpAnyH_done (by kernel_rfl) ?_ _
              go_wp2_with fail
              go_meet
              case rel => exact ⟨s6, ao, no, co, rfl, rfl, KW.out.trans (pc.out.then_ (S := fun _ => False) Y.out (fun i hi e => by have e2 : i = s6 := e; have h3 := HB0.out; omega)), P.out.e Y.out (by omega), (QD.out.ext Y.out (fun k hk h => by have e2 : k = s6 := h; omega)).mono (fun _ _ => trivial), (QF.out.ext Y.out (fun k hk h => by have e2 : k = s6 := h; omega)).mono (fun _ _ => trivial), (EZ.out.store (y := S) RS.out (fun k hk => hk)).mono (fun _ _ => trivial)⟩
            · go_simp
              obtain ⟨s6, hs6⟩ : ∃ s, s = W0.heap.size := ⟨_, rfl⟩
              obtain ⟨y1, hW⟩ : ∃ N, N = W0.alloc (.cells #[.int .i64 0, .int .i64 0, .slice none 0 0] 53) := ⟨_, rfl⟩
              rw [← hs6, ← hW]
              have kk : Keep W0 y1 := by rw [hW]; exact Keep.al _ _
              have hbs6 : s6 + 1 ≤ y1.heap.size := by rw [hW, hs6]; exact Nat.le_of_eq (World.size_alloc _ _).symm
              have has6 : W0.heap.size ≤ s6 := Nat.le_of_eq hs6.symm
              have EZ : Hid (Ev y1 s6 (fun _ => False) (.mk 0 0 []) none 0 0) := by
                rw [hW, hs6]
                exact Ev.born W0 (fun _ => False) (.mk 0 0 []) none 0 0 (.nil 3 _ _)
              replace pc := Lib.hid (pc.out.trans kk)
              replace P := Lib.hid (P.out.k kk)
              replace QD := Lib.hid (QD.out.k kk)
              replace QF := Lib.hid (QF.out.k kk)
              replace RB := Lib.hid (RB.out.k kk)
              clear kk hW hs6
              refine hK0.out _ _ ⟨pc.out.cl p1 (fun h => h), pc.out.cl z0 (fun h => h), pc.out.cl z2 (fun h => h), pc.out.cl z3 (fun h => h), pc.out.cl z4 (fun h => h)⟩ (fun hHeld => ?_)
              clear hK0
              try go_frame
              refine wO 13 (fun K0 hK0 => ?_)
              go_simp
              go_at_call 35
              refine (implShift0 (np : Int) 1 (fAt fs j).body.op (fAt fs j).body.num (fAt fs j).body.kids ab nb cb _ y1 RB.out).mono ?_
              rw [VS.out, VO.out]
              rintro e y2 ⟨ao, no, co, rfl, ro, kk⟩
              have hzy2 : y1.heap.size ≤ y2.heap.size := kk.size
              have RS : Hid (Rd y2 (fun k => k ≠ s6) (encExprs S.kids) (.slice ao no co)) := ro.read.mono (fun k hk => by omega)
              replace pc := Lib.hid (pc.out.trans kk)
              replace P := Lib.hid (P.out.k kk)
              replace QD := Lib.hid (QD.out.k kk)
              replace QF := Lib.hid (QF.out.k kk)
              replace RB := Lib.hid (RB.out.k kk)
              replace EZ := Lib.hid (EZ.out.keep kk)
              clear kk ro
              refine hK0.out _ _ ⟨pc.out.cl p1 (fun h => h), pc.out.cl z0 (fun h => h), pc.out.cl z2 (fun h => h), pc.out.cl z3 (fun h => h), pc.out.cl z4 (fun h => h)⟩ (fun hHeld => ?_)
              clear hK0
              try go_frame
              refine wT 14 hHeld ?_
              try go_frame
              refine wT 15 hHeld ?_
              try go_frame
              refine wT 16 hHeld ?_
              try go_frame
              refine wO 18 (fun K0 hK0 => ?_)
              have hsx : s ≠ s6 := by omega
              have hbx : b1 ≠ s6 := by omega
              have c0 := EZ.out.v0
              have c1 := EZ.out.v1
              have c2 := EZ.out.v2
              have g0 := EZ.out.g0
              have g1 := EZ.out.g1
              have g2 := EZ.out.g2
              go_simp
              clear c0 c1 c2 g0 g1 g2
              have Y := Lib.hid (ext3 y2 s6 (.int .i64 S.op) (.int .i64 S.num) (.slice ao no co))
              refine hK0.out _ _ ⟨at_set3 (pc.out.cl p1 (fun h => h)) hsx, at_set3 (pc.out.cl z0 (fun h => h)) hbx, at_set3 (pc.out.cl z2 (fun h => h)) hbx, at_set3 (pc.out.cl z3 (fun h => h)) hbx, at_set3 (pc.out.cl z4 (fun h => h)) hbx⟩ (fun hHeld => ?_)
              clear hK0
              try go_frame
              refine wT 19 hHeld ?_
              try go_frame
              refine wpAnyH_done (by kernel_rfl) ?_ _
              go_wp2_with fail
              go_meet
              case rel => exact ⟨s6, ao, no, co, rfl, rfl, KW.out.trans (pc.out.then_ (S := fun _ => False) Y.out (fun i hi e => by have e2 : i = s6 := e; have h3 := HB0.out; omega)), P.out.e Y.out (by omega), (QD.out.ext Y.out (fun k hk h => by have e2 : k = s6 := h; omega)).mono (fun _ _ => trivial), (QF.out.ext Y.out (fun k hk h => by have e2 : k = s6 := h; omega)).mono (fun _ _ => trivial), (EZ.out.store (y := S) RS.out (fun k hk => hk)).mono (fun _ _ => trivial)⟩
          case rest =>
          clear K P RD RF RB z0 z2 z3 z4
          obtain ⟨s6, ao, no, co, rfl, rfl, K, P, RD, RF, E6⟩ := hcut
          go_upto_region 12 with fail
          have KD : Keep wc wc.drew := (Ext.refl (fun _ => False) wc).drew
          have KW := Lib.hid (K.out.trans KD)
          replace P := Lib.hid (P.out.k KD)
          replace RD := Lib.hid (RD.out.k KD)
          replace RF := Lib.hid (RF.out.k KD)
          replace E6 := Lib.hid (E6.out.keep KD)
          clear KD
          have p0 : wc.drew.cell? ⟨s, 0, none⟩ = some (.slice a0 n0 c0) := P.out.x0
          have p1 : wc.drew.cell? ⟨s, 1, none⟩ = some (.slice (some ⟨b1, o1, none⟩) n1 c1) := P.out.x1
          have e0 : wc.drew.cell? ⟨s6, 0, none⟩ = some (.int .i64 S.op) := E6.out.v0
          have e1 : wc.drew.cell? ⟨s6, 1, none⟩ = some (.int .i64 S.num) := E6.out.v1
          have e2 : wc.drew.cell? ⟨s6, 2, none⟩ = some (.slice ao no co) := E6.out.v2
          refine wp_region_held_drew (S := fun w' => w'.cell? ⟨s, 0, none⟩ = some (.slice a0 n0 c0) ∧ w'.cell? ⟨s, 1, none⟩ = some (.slice (some ⟨b1, o1, none⟩) n1 c1) ∧ w'.cell? ⟨s6, 0, none⟩ = some (.int .i64 S.op) ∧ w'.cell? ⟨s6, 1, none⟩ = some (.int .i64 S.num) ∧ w'.cell? ⟨s6, 2, none⟩ = some (.slice ao no co)) (by kernel_rfl) ⟨p0, p1, e0, e1, e2⟩ (fun hHeld => ?_)
          have pc : Hid (Keep wc.drew wc.drew) := Ext.refl _ _
          generalize wc.drew = W0 at *
          refine wT 0 hHeld ?_
          try go_frame
          refine wT 1 hHeld ?_
          try go_frame
          refine wT 2 hHeld ?_
          try go_frame
          refine wT 3 hHeld ?_
          try go_frame
          refine wT 4 hHeld ?_
          try go_frame
          refine wT 6 hHeld ?_
          try go_frame
          refine wO 5 (fun K0 hK0 => ?_)
          go_simp
          go_at_call 32
          refine (lawInteger 1 W0).mono ?_
          rintro e y1 ⟨rfl, kk⟩
          replace pc := Lib.hid (pc.out.trans kk)
          replace P := Lib.hid (P.out.k kk)
          replace RD := Lib.hid (RD.out.k kk)
          replace RF := Lib.hid (RF.out.k kk)
          replace E6 := Lib.hid (E6.out.keep kk)
          clear kk
          refine hK0.out _ _ ⟨pc.out.cl p0 (fun h => h), pc.out.cl p1 (fun h => h), pc.out.cl e0 (fun h => h), pc.out.cl e1 (fun h => h), pc.out.cl e2 (fun h => h)⟩ (fun hHeld => ?_)
          clear hK0
          try go_frame
          refine wO 7 (fun K0 hK0 => ?_)
          go_simp
          obtain ⟨sl, hsl⟩ : ∃ s, s = y1.heap.size := ⟨_, rfl⟩
          obtain ⟨y2, hW⟩ : ∃ N, N = y1.alloc (.cells #[.int .i64 0, .int .i64 1, .slice none 0 0, .int .i64 S.op, .int .i64 S.num, .slice ao no co] 53) := ⟨_, rfl⟩
          rw [← hsl, ← hW]
          have kk : Keep y1 y2 := by rw [hW]; exact Keep.al _ _
          have hbsl : sl + 1 ≤ y2.heap.size := by rw [hW, hsl]; exact Nat.le_of_eq (World.size_alloc _ _).symm
          have hasl : y1.heap.size ≤ sl := Nat.le_of_eq hsl.symm
          have LA : Hid (Rd y2 (fun _ => True) (encExprs [.mk 0 1 [], S]) (.slice (some ⟨sl, 0, none⟩) 2 2)) := by
            rw [hW, hsl]
            exact lit_expr2 y1 (fun _ => True) 53 (.mk 0 1 []) S none 0 0 ao no co trivial (.nil 3 _ _) E6.out.k
          replace pc := Lib.hid (pc.out.trans kk)
          replace P := Lib.hid (P.out.k kk)
          replace RD := Lib.hid (RD.out.k kk)
          replace RF := Lib.hid (RF.out.k kk)
          replace E6 := Lib.hid (E6.out.keep kk)
          clear kk hW hsl
          refine hK0.out _ _ ⟨pc.out.cl p0 (fun h => h), pc.out.cl p1 (fun h => h), pc.out.cl e0 (fun h => h), pc.out.cl e1 (fun h => h), pc.out.cl e2 (fun h => h)⟩ (fun hHeld => ?_)
          clear hK0
          try go_frame
          refine wO 8 (fun K0 hK0 => ?_)
          go_simp
          go_at_call 27
          refine (lawNode 13 _ _ _ y2).mono ?_
          rintro e y3 ⟨rfl, kk⟩
          replace pc := Lib.hid (pc.out.trans kk)
          replace P := Lib.hid (P.out.k kk)
          replace RD := Lib.hid (RD.out.k kk)
          replace RF := Lib.hid (RF.out.k kk)
          replace E6 := Lib.hid (E6.out.keep kk)
          replace LA := Lib.hid (LA.out.k kk)
          clear kk
          refine hK0.out _ _ ⟨pc.out.cl p0 (fun h => h), pc.out.cl p1 (fun h => h), pc.out.cl e0 (fun h => h), pc.out.cl e1 (fun h => h), pc.out.cl e2 (fun h => h)⟩ (fun hHeld => ?_)
          clear hK0
          try go_frame
          refine wO 9 (fun K0 hK0 => ?_)
          go_simp
          go_at_call 36
          refine (withBody_n fs j (.mk 13 0 [.mk 0 1 [], S]) a0 n0 c0 _ n1 c1 _ _ _ y3 HJ.out (by have := HL.out; omega) RF.out LA.out).mono ?_
          rintro e y4 ⟨bn, nn, cn, rfl, rn, kk⟩
          have RN := Lib.hid rn
          replace pc := Lib.hid (pc.out.trans kk)
          replace P := Lib.hid (P.out.k kk)
          replace RD := Lib.hid (RD.out.k kk)
          replace RF := Lib.hid (RF.out.k kk)
          replace E6 := Lib.hid (E6.out.keep kk)
          replace LA := Lib.hid (LA.out.k kk)
          clear kk rn
          refine hK0.out _ _ ⟨pc.out.cl p0 (fun h => h), pc.out.cl p1 (fun h => h), pc.out.cl e0 (fun h => h), pc.out.cl e1 (fun h => h), pc.out.cl e2 (fun h => h)⟩ (fun hHeld => ?_)
          clear hK0
          try go_frame
          refine wO 10 (fun K0 hK0 => ?_)
          go_simp
          go_at_call 29
          refine (implValidProgram ds _ a0 n0 c0 _ _ _ _ _ y4 RD.out RN.out HFN.out).mono ?_
          rw [HPN.out]
          rintro e y5 ⟨rfl, kk⟩
          replace pc := Lib.hid (pc.out.trans kk)
          replace P := Lib.hid (P.out.k kk)
          replace RD := Lib.hid (RD.out.k kk)
          replace RF := Lib.hid (RF.out.k kk)
          replace E6 := Lib.hid (E6.out.keep kk)
          replace LA := Lib.hid (LA.out.k kk)
          replace RN := Lib.hid (RN.out.k kk)
          clear kk
          refine hK0.out _ _ ⟨pc.out.cl p0 (fun h => h), pc.out.cl p1 (fun h => h), pc.out.cl e0 (fun h => h), pc.out.cl e1 (fun h => h), pc.out.cl e2 (fun h => h)⟩ (fun hHeld => ?_)
          clear hK0
          try go_frame
          refine wT 11 hHeld ?_
          try go_frame
          refine wT 12 hHeld ?_
          try go_frame
          refine wpAnyH_done (by kernel_rfl) ?_ _
          replace K := Lib.hid (KW.out.trans pc.out)
          clear pc KW hHeld p0 p1 e0 e1 e2 RN LA E6
          go_wp2_with fail
          go_roundw
          case rel => exact ⟨j + 1, by omega, by go_num, K, P, RD, RF⟩
          case measure => simp [intOf]; omega
        · have px0 := P.out.x0
          have px1 := P.out.x1
          go_wp2_with fail
          exact fin_ hQ ⟨rfl, K.out⟩
  · go_enter Try.func9, Try.ntmps9
    go_wp2_with fail
    exact fin_ hQ ⟨rfl, Ext.refl _ _⟩
end Go.Proofs.Ytaeddcnakilnlaa
