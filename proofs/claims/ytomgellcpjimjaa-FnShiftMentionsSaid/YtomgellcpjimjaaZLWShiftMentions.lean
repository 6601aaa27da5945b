/- The drawn law FnShiftMentions: the walk. -/
import Derived.Test.YtomgellcpjimjaaHT
import Derived.Test.YtomgellcpjimjaaZLsh
import Derived.Test.YtomgellcpjimjaaZNodes
import Derived.Test.YtomgellcpjimjaaZMentions
namespace Go.Proofs.Ytomgellcpjimjaa
open Go.RowKit

set_option maxRecDepth 100000 in
set_option maxHeartbeats 4000000 in
theorem fnShiftMentions_walk (a : Option Addr) (len cap : Nat) (z : Nat → Int) (w : World) (h : Byt w a len z) (hlc : len ≤ cap) :
    Calls Try.prog 8 #[.slice a len cap] w fun e w' => e = .returned (.bool true) ∧ Keep w w' := by
  refine calls_k fun Q hQ => ?_
  by_cases hl : len ≤ 1048576
  · go_enter Try.func8, Try.ntmps8
    go_wp2_with fail
    refine (DrawShift_any a len cap z w h hlc hl).mono ?_
    rintro e w1 ⟨x, ax, nx, cx, v1, v2, rfl, mv1, mv2, rx, k1⟩
    have KO := Keep.al w1 (.cells #[.int .i64 x.op, .int .i64 x.num, .slice ax nx cx] 25)
    have K := Lib.hid (k1.trans KO)
    have E0 := Lib.hid (Ev.born w1 (fun _ => True) x ax nx cx (rx.mono (fun _ _ => trivial)))
    clear h rx k1 KO
    go_upto_region 4 with fail
    generalize hW : w1.alloc (.cells #[.int .i64 x.op, .int .i64 x.num, .slice ax nx cx] 25) = W at *
    clear hW
    generalize hS : w1.heap.size = s at *
    clear hS
    have E := E0
    clear E0
    have e0 := E.out.v0
    have e1 := E.out.v1
    have e2 := E.out.v2
    have HV1 : Hid (-1 ≤ v1 ∧ v1 ≤ 100) := by
      simp only [List.mem_cons, List.not_mem_nil, or_false] at mv1
      show _ ∧ _
      omega
    have HV2 : Hid (-1 ≤ v2 ∧ v2 ≤ 100) := by
      simp only [List.mem_cons, List.not_mem_nil, or_false] at mv2
      show _ ∧ _
      omega
    clear mv1 mv2
    obtain ⟨S, hS⟩ : ∃ S, S = shR v1 v2 x.op x.num x.kids := ⟨_, rfl⟩
    have VS : Hid (shR v1 v2 x.op x.num x.kids = S) := hS.symm
    clear hS
    cases hok : shOk v1 v2 x.op x.num x.kids
    · have VO := Lib.hid hok
      clear hok
      go_wp2_with fail
      refine (implShift0 v1 v2 x.op x.num x.kids ax nx cx _ _ E.out.k).mono ?_
      rw [VS.out, VO.out]
      rintro e w2 ⟨ao, no, co, rfl, ro, kk⟩
      have KO := Keep.al w2 (.cells #[.int .i64 S.op, .int .i64 S.num, .slice ao no co] 25)
      replace K := Lib.hid ((K.out.trans kk).trans KO)
      replace E := Lib.hid ((E.out.keep kk).keep KO)
      have E6 := Lib.hid (Ev.born w2 (fun _ => True) S ao no co (ro.read.mono (fun _ _ => trivial)))
      clear kk KO ro e0 e1 e2
      go_upto_region 5 with fail
      generalize hW : w2.alloc (.cells #[.int .i64 S.op, .int .i64 S.num, .slice ao no co] 25) = W2 at *
      clear hW
      generalize hs : w2.heap.size = s6 at *
      clear hs
      have e0 := E.out.v0
      have e1 := E.out.v1
      have e2 := E.out.v2
      go_wp2_with fail
      refine (specShift0 v1 v2 x.op x.num x.kids ax nx cx _ _ E.out.k).mono ?_
      rw [VS.out, VO.out]
      rintro e w3 ⟨ap, np, cp, rfl, rp, kk⟩
      have KO := Keep.al w3 (.cells #[.int .i64 S.op, .int .i64 S.num, .slice ap np cp] 25)
      replace K := Lib.hid ((K.out.trans kk).trans KO)
      replace E := Lib.hid ((E.out.keep kk).keep KO)
      replace E6 := Lib.hid ((E6.out.keep kk).keep KO)
      have E8 := Lib.hid (Ev.born w3 (fun _ => True) S ap np cp (rp.mono (fun _ _ => trivial)))
      clear kk KO rp e0 e1 e2
      go_upto_region 6 with fail
      generalize hW : w3.alloc (.cells #[.int .i64 S.op, .int .i64 S.num, .slice ap np cp] 25) = W3 at *
      clear hW
      generalize hs : w3.heap.size = s8 at *
      clear hs
      have d0 := E6.out.v0
      have d1 := E6.out.v1
      have d2 := E6.out.v2
      have f0 := E8.out.v0
      have f1 := E8.out.v1
      have f2 := E8.out.v2
      go_wp2_with fail
      refine (equalExpr_same S ao no co ap np cp _ _ _ E6.out.k E8.out.k).mono ?_
      rintro e w4 ⟨rfl, kk⟩
      replace K := Lib.hid (K.out.trans kk)
      replace E := Lib.hid (E.out.keep kk)
      replace E6 := Lib.hid (E6.out.keep kk)
      replace E8 := Lib.hid (E8.out.keep kk)
      clear kk d0 d1 d2 f0 f1 f2
      have d0 := E6.out.v0
      have d1 := E6.out.v1
      have d2 := E6.out.v2
      have f0 := E8.out.v0
      have f1 := E8.out.v1
      have f2 := E8.out.v2
      go_wp2_with fail
      refine (equalExpr_same S ao no co ap np cp _ _ _ E6.out.k E8.out.k).mono ?_
      rintro e w5 ⟨rfl, kk⟩
      replace K := Lib.hid (K.out.trans kk)
      clear kk
      go_wp2_with fail
      exact fin_ hQ ⟨rfl, K.out⟩
    · have VO := Lib.hid hok
      have HP := Lib.hid (shOk_parts hok)
      have HSE : Hid (S = shE v1 v2 x) := by
        show _ = _
        rw [← VS.out, shR, if_pos hok, expr_eta]
      have HN : Hid (nEs S.kids = nEs x.kids) := by
        show _ = _
        rw [HSE.out, shE_eq]; exact nEs_shEs _ _ _
      clear hok
      go_wp2_with fail
      refine (implShift0 v1 v2 x.op x.num x.kids ax nx cx _ _ E.out.k).mono ?_
      rw [VS.out, VO.out]
      rintro e w2 ⟨ao, no, co, rfl, ro, kk⟩
      have KO := Keep.al w2 (.cells #[.int .i64 S.op, .int .i64 S.num, .slice ao no co] 25)
      replace K := Lib.hid ((K.out.trans kk).trans KO)
      replace E := Lib.hid ((E.out.keep kk).keep KO)
      have E6 := Lib.hid (Ev.born w2 (fun _ => True) S ao no co (ro.read.mono (fun _ _ => trivial)))
      clear kk KO ro e0 e1 e2
      go_upto_region 5 with fail
      generalize hW : w2.alloc (.cells #[.int .i64 S.op, .int .i64 S.num, .slice ao no co] 25) = W2 at *
      clear hW
      generalize hs : w2.heap.size = s6 at *
      clear hs
      have e0 := E.out.v0
      have e1 := E.out.v1
      have e2 := E.out.v2
      go_wp2_with fail
      refine (specShift0 v1 v2 x.op x.num x.kids ax nx cx _ _ E.out.k).mono ?_
      rw [VS.out, VO.out]
      rintro e w3 ⟨ap, np, cp, rfl, rp, kk⟩
      have KO := Keep.al w3 (.cells #[.int .i64 S.op, .int .i64 S.num, .slice ap np cp] 25)
      replace K := Lib.hid ((K.out.trans kk).trans KO)
      replace E := Lib.hid ((E.out.keep kk).keep KO)
      replace E6 := Lib.hid ((E6.out.keep kk).keep KO)
      have E8 := Lib.hid (Ev.born w3 (fun _ => True) S ap np cp (rp.mono (fun _ _ => trivial)))
      clear kk KO rp e0 e1 e2
      go_upto_region 6 with fail
      generalize hW : w3.alloc (.cells #[.int .i64 S.op, .int .i64 S.num, .slice ap np cp] 25) = W3 at *
      clear hW
      generalize hs : w3.heap.size = s8 at *
      clear hs
      have d0 := E6.out.v0
      have d1 := E6.out.v1
      have d2 := E6.out.v2
      have f0 := E8.out.v0
      have f1 := E8.out.v1
      have f2 := E8.out.v2
      go_wp2_with fail
      refine (equalExpr_same S ao no co ap np cp _ _ _ E6.out.k E8.out.k).mono ?_
      rintro e w4 ⟨rfl, kk⟩
      replace K := Lib.hid (K.out.trans kk)
      replace E := Lib.hid (E.out.keep kk)
      replace E6 := Lib.hid (E6.out.keep kk)
      replace E8 := Lib.hid (E8.out.keep kk)
      clear kk d0 d1 d2 f0 f1 f2
      clear E8
      go_wp2_with fail
      go_loopw [10] (fun iv wr => ∃ (j : Nat), j ≤ 12 ∧ iv = .int .i64 j ∧ Hid (Keep w wr) ∧ Hid (Ev wr s (fun _ => True) x ax nx cx) ∧ Hid (Ev wr s6 (fun _ => True) S ao no co)) (fun i _ => 13 - (intOf i).toNat)
      case atStart => exact ⟨0, by omega, rfl, K, E, E6⟩
      case round =>
        clear K E E6
        obtain ⟨j, hj, rfl, K, E, E6⟩ := hrel
        by_cases hlt : j < 12
        · have hlt4 : (j : Int) < 12 := by omega
          have e0 := E.out.v0
          have e1 := E.out.v1
          have e2 := E.out.v2
          have hp := HP.out
          have hS30 : nEs S.kids + 1 ≤ 30 := by rw [HN.out]; exact hp.1
          have hmS : (mE (j : Int) S : Int) = ((mSh v1 v2 (j : Int) (fun v => mE v x) : Nat) : Int) := by
            rw [HSE.out, mE_shE v1 hp.2.2.1 (j : Int) x (by have h := hp.2.2.2; rw [expr_eta] at h; exact h)]
          have hmS2 : mentL (j : Int) S.op S.num S.kids = ((mSh v1 v2 (j : Int) (fun v => mE v x) : Nat) : Int) := by rw [mentL_yes hS30, expr_eta]; exact hmS
          have hmx : ∀ u, mentL u x.op x.num x.kids = (mE u x : Int) := fun u => by rw [mentL_yes hp.1, expr_eta]
          have HMX := Lib.hid hmx
          clear hmx
          by_cases hv1 : (j : Int) < v1
          · obtain ⟨M, hM⟩ : ∃ M : Int, M = (mE (j : Int) x : Int) := ⟨_, rfl⟩
            have VM : Hid (mentL (j : Int) x.op x.num x.kids = M) := by show _ = _; rw [HMX.out, hM]
            have VO3 : Hid (mentL (j : Int) S.op S.num S.kids = M) := by show _ = _; rw [hmS2, mSh, if_pos hv1, hM]
            clear hmS hmS2 hM hp hS30
            go_wp2_with fail
            refine (implMentionsOf (j : Int) x.op x.num x.kids ax nx cx _ _ E.out.k).mono ?_
            rw [VM.out]
            rintro e w5 ⟨rfl, kk⟩
            replace K := Lib.hid (K.out.trans kk)
            replace E := Lib.hid (E.out.keep kk)
            replace E6 := Lib.hid (E6.out.keep kk)
            clear kk
            clear e0 e1 e2
            have d0 := E6.out.v0
            have d1 := E6.out.v1
            have d2 := E6.out.v2
            go_wp2_with fail
            refine (implMentionsOf (j : Int) S.op S.num S.kids ao no co _ _ E6.out.k).mono ?_
            rw [VO3.out]
            rintro e w6 ⟨rfl, kk⟩
            replace K := Lib.hid (K.out.trans kk)
            replace E := Lib.hid (E.out.keep kk)
            replace E6 := Lib.hid (E6.out.keep kk)
            clear kk
            clear d0 d1 d2
            go_wp2_with fail
            go_roundw
            case rel => exact ⟨j + 1, by omega, by go_num, K, E, E6⟩
            case measure => simp [intOf]; omega
          · have hadd : IntKind.i64.wrap (v1 + v2) = v1 + v2 := IntWalk.i64_in _ (by omega)
            by_cases hv2 : v1 + v2 ≤ (j : Int)
            · have hsub : IntKind.i64.wrap ((j : Int) - v2) = (j : Int) - v2 := IntWalk.i64_in _ (by omega)
              obtain ⟨M, hM⟩ : ∃ M : Int, M = (mE ((j : Int) - v2) x : Int) := ⟨_, rfl⟩
              have VM : Hid (mentL ((j : Int) - v2) x.op x.num x.kids = M) := by show _ = _; rw [HMX.out, hM]
              have VO3 : Hid (mentL (j : Int) S.op S.num S.kids = M) := by show _ = _; rw [hmS2, mSh, if_neg hv1, if_pos hv2, hM]
              clear hmS hmS2 hM hp hS30
              go_wp2_with fail
              refine (implMentionsOf ((j : Int) - v2) x.op x.num x.kids ax nx cx _ _ E.out.k).mono ?_
              rw [VM.out]
              rintro e w5 ⟨rfl, kk⟩
              replace K := Lib.hid (K.out.trans kk)
              replace E := Lib.hid (E.out.keep kk)
              replace E6 := Lib.hid (E6.out.keep kk)
              clear kk
              clear e0 e1 e2
              have d0 := E6.out.v0
              have d1 := E6.out.v1
              have d2 := E6.out.v2
              go_wp2_with fail
              refine (implMentionsOf (j : Int) S.op S.num S.kids ao no co _ _ E6.out.k).mono ?_
              rw [VO3.out]
              rintro e w6 ⟨rfl, kk⟩
              replace K := Lib.hid (K.out.trans kk)
              replace E := Lib.hid (E.out.keep kk)
              replace E6 := Lib.hid (E6.out.keep kk)
              clear kk
              clear d0 d1 d2
              go_wp2_with fail
              go_roundw
              case rel => exact ⟨j + 1, by omega, by go_num, K, E, E6⟩
              case measure => simp [intOf]; omega
            · have VO3 : Hid (mentL (j : Int) S.op S.num S.kids = 0) := by show _ = _; rw [hmS2, mSh, if_neg hv1, if_neg hv2]; rfl
              clear hmS hmS2 hp hS30
              clear e0 e1 e2
              have d0 := E6.out.v0
              have d1 := E6.out.v1
              have d2 := E6.out.v2
              go_wp2_with fail
              refine (implMentionsOf (j : Int) S.op S.num S.kids ao no co _ _ E6.out.k).mono ?_
              rw [VO3.out]
              rintro e w6 ⟨rfl, kk⟩
              replace K := Lib.hid (K.out.trans kk)
              replace E := Lib.hid (E.out.keep kk)
              replace E6 := Lib.hid (E6.out.keep kk)
              clear kk
              clear d0 d1 d2
              go_wp2_with fail
              go_roundw
              case rel => exact ⟨j + 1, by omega, by go_num, K, E, E6⟩
              case measure => simp [intOf]; omega
        · have hlt4 : ¬ (j : Int) < 12 := by omega
          go_wp2_with fail
          exact fin_ hQ ⟨rfl, K.out⟩
  · go_enter Try.func8, Try.ntmps8
    go_wp2_with fail
    exact fin_ hQ ⟨rfl, Ext.refl _ _⟩
end Go.Proofs.Ytomgellcpjimjaa
