/- The drawn law FnShift: the walk. -/
import Derived.Test.YtomgellcpjimjaaHT
import Derived.Test.YtomgellcpjimjaaZLsh
import Derived.Test.YtomgellcpjimjaaZNodes
namespace Go.Proofs.Ytomgellcpjimjaa
open Go.RowKit

set_option maxRecDepth 100000 in
set_option maxHeartbeats 4000000 in
theorem fnShift_walk (a : Option Addr) (len cap : Nat) (z : Nat → Int) (w : World) (h : Byt w a len z) (hlc : len ≤ cap) :
    Calls Try.prog 6 #[.slice a len cap] w fun e w' => e = .returned (.bool true) ∧ Keep w w' := by
  refine calls_k fun Q hQ => ?_
  by_cases hl : len ≤ 1048576
  · go_enter Try.func6, Try.ntmps6
    go_wp2_with fail
    refine (DrawShift_any a len cap z w h hlc hl).mono ?_
    rintro e w1 ⟨x, ax, nx, cx, v1, v2, rfl, mv1, mv2, rx, k1⟩
    have KO := Keep.al w1 (.cells #[.int .i64 x.op, .int .i64 x.num, .slice ax nx cx] 25)
    have K := Lib.hid (k1.trans KO)
    have E0 := Lib.hid (Ev.born w1 (fun _ => True) x ax nx cx (rx.mono (fun _ _ => trivial)))
    clear h rx k1 KO
    go_upto_region 4 with fail
    generalize hW : w1.alloc (.cells #[.int .i64 x.op, .int .i64 x.num, .slice ax nx cx] 25) = W at *
    clear hW
    generalize hS : w1.heap.size = s at *
    clear hS
    have E := E0
    clear E0
    have e0 := E.out.v0
    have e1 := E.out.v1
    have e2 := E.out.v2
    have HV1 : Hid (-1 ≤ v1 ∧ v1 ≤ 100) := by
      simp only [List.mem_cons, List.not_mem_nil, or_false] at mv1
      show _ ∧ _
      omega
    have HV2 : Hid (-1 ≤ v2 ∧ v2 ≤ 100) := by
      simp only [List.mem_cons, List.not_mem_nil, or_false] at mv2
      show _ ∧ _
      omega
    clear mv1 mv2
    obtain ⟨S, hS⟩ : ∃ S, S = shR v1 v2 x.op x.num x.kids := ⟨_, rfl⟩
    have VS : Hid (shR v1 v2 x.op x.num x.kids = S) := hS.symm
    clear hS
    cases hok : shOk v1 v2 x.op x.num x.kids
    · have VO := Lib.hid hok
      clear hok
      go_wp2_with fail
      refine (implShift0 v1 v2 x.op x.num x.kids ax nx cx _ _ E.out.k).mono ?_
      rw [VS.out, VO.out]
      rintro e w2 ⟨ao, no, co, rfl, ro, kk⟩
      have KO := Keep.al w2 (.cells #[.int .i64 S.op, .int .i64 S.num, .slice ao no co] 25)
      replace K := Lib.hid ((K.out.trans kk).trans KO)
      replace E := Lib.hid ((E.out.keep kk).keep KO)
      have E6 := Lib.hid (Ev.born w2 (fun _ => True) S ao no co (ro.read.mono (fun _ _ => trivial)))
      clear kk KO ro e0 e1 e2
      go_upto_region 5 with fail
      generalize hW : w2.alloc (.cells #[.int .i64 S.op, .int .i64 S.num, .slice ao no co] 25) = W2 at *
      clear hW
      generalize hs : w2.heap.size = s6 at *
      clear hs
      have e0 := E.out.v0
      have e1 := E.out.v1
      have e2 := E.out.v2
      go_wp2_with fail
      refine (specShift0 v1 v2 x.op x.num x.kids ax nx cx _ _ E.out.k).mono ?_
      rw [VS.out, VO.out]
      rintro e w3 ⟨ap, np, cp, rfl, rp, kk⟩
      have KO := Keep.al w3 (.cells #[.int .i64 S.op, .int .i64 S.num, .slice ap np cp] 25)
      replace K := Lib.hid ((K.out.trans kk).trans KO)
      replace E := Lib.hid ((E.out.keep kk).keep KO)
      replace E6 := Lib.hid ((E6.out.keep kk).keep KO)
      have E8 := Lib.hid (Ev.born w3 (fun _ => True) S ap np cp (rp.mono (fun _ _ => trivial)))
      clear kk KO rp e0 e1 e2
      go_upto_region 6 with fail
      generalize hW : w3.alloc (.cells #[.int .i64 S.op, .int .i64 S.num, .slice ap np cp] 25) = W3 at *
      clear hW
      generalize hs : w3.heap.size = s8 at *
      clear hs
      have d0 := E6.out.v0
      have d1 := E6.out.v1
      have d2 := E6.out.v2
      have f0 := E8.out.v0
      have f1 := E8.out.v1
      have f2 := E8.out.v2
      go_wp2_with fail
      refine (equalExpr_same S ao no co ap np cp _ _ _ E6.out.k E8.out.k).mono ?_
      rintro e w4 ⟨rfl, kk⟩
      replace K := Lib.hid (K.out.trans kk)
      replace E := Lib.hid (E.out.keep kk)
      replace E6 := Lib.hid (E6.out.keep kk)
      replace E8 := Lib.hid (E8.out.keep kk)
      clear kk d0 d1 d2 f0 f1 f2
      have d0 := E6.out.v0
      have d1 := E6.out.v1
      have d2 := E6.out.v2
      have f0 := E8.out.v0
      have f1 := E8.out.v1
      have f2 := E8.out.v2
      go_wp2_with fail
      refine (equalExpr_same S ao no co ap np cp _ _ _ E6.out.k E8.out.k).mono ?_
      rintro e w5 ⟨rfl, kk⟩
      replace K := Lib.hid (K.out.trans kk)
      clear kk
      go_wp2_with fail
      exact fin_ hQ ⟨rfl, K.out⟩
    · have VO := Lib.hid hok
      have HP := Lib.hid (shOk_parts hok)
      have HSE : Hid (S = shE v1 v2 x) := by
        show _ = _
        rw [← VS.out, shR, if_pos hok, expr_eta]
      have HN : Hid (nEs S.kids = nEs x.kids) := by
        show _ = _
        rw [HSE.out, shE_eq]; exact nEs_shEs _ _ _
      clear hok
      go_wp2_with fail
      refine (implShift0 v1 v2 x.op x.num x.kids ax nx cx _ _ E.out.k).mono ?_
      rw [VS.out, VO.out]
      rintro e w2 ⟨ao, no, co, rfl, ro, kk⟩
      have KO := Keep.al w2 (.cells #[.int .i64 S.op, .int .i64 S.num, .slice ao no co] 25)
      replace K := Lib.hid ((K.out.trans kk).trans KO)
      replace E := Lib.hid ((E.out.keep kk).keep KO)
      have E6 := Lib.hid (Ev.born w2 (fun _ => True) S ao no co (ro.read.mono (fun _ _ => trivial)))
      clear kk KO ro e0 e1 e2
      go_upto_region 5 with fail
      generalize hW : w2.alloc (.cells #[.int .i64 S.op, .int .i64 S.num, .slice ao no co] 25) = W2 at *
      clear hW
      generalize hs : w2.heap.size = s6 at *
      clear hs
      have e0 := E.out.v0
      have e1 := E.out.v1
      have e2 := E.out.v2
      go_wp2_with fail
      refine (specShift0 v1 v2 x.op x.num x.kids ax nx cx _ _ E.out.k).mono ?_
      rw [VS.out, VO.out]
      rintro e w3 ⟨ap, np, cp, rfl, rp, kk⟩
      have KO := Keep.al w3 (.cells #[.int .i64 S.op, .int .i64 S.num, .slice ap np cp] 25)
      replace K := Lib.hid ((K.out.trans kk).trans KO)
      replace E := Lib.hid ((E.out.keep kk).keep KO)
      replace E6 := Lib.hid ((E6.out.keep kk).keep KO)
      have E8 := Lib.hid (Ev.born w3 (fun _ => True) S ap np cp (rp.mono (fun _ _ => trivial)))
      clear kk KO rp e0 e1 e2
      go_upto_region 6 with fail
      generalize hW : w3.alloc (.cells #[.int .i64 S.op, .int .i64 S.num, .slice ap np cp] 25) = W3 at *
      clear hW
      generalize hs : w3.heap.size = s8 at *
      clear hs
      have d0 := E6.out.v0
      have d1 := E6.out.v1
      have d2 := E6.out.v2
      have f0 := E8.out.v0
      have f1 := E8.out.v1
      have f2 := E8.out.v2
      go_wp2_with fail
      refine (equalExpr_same S ao no co ap np cp _ _ _ E6.out.k E8.out.k).mono ?_
      rintro e w4 ⟨rfl, kk⟩
      replace K := Lib.hid (K.out.trans kk)
      replace E := Lib.hid (E.out.keep kk)
      replace E6 := Lib.hid (E6.out.keep kk)
      replace E8 := Lib.hid (E8.out.keep kk)
      clear kk d0 d1 d2 f0 f1 f2
      have e0 := E.out.v0
      have e1 := E.out.v1
      have e2 := E.out.v2
      have VO2 : Hid (shOk v1 0 x.op x.num x.kids = true) := shOk_of HP.out.1 HP.out.2.1 (by omega) HP.out.2.2.2
      have VS2 : Hid (shR v1 0 x.op x.num x.kids = x) := by
        show _ = _
        rw [shR, if_pos VO2.out, expr_eta, shE_zero]
        have h := HP.out.2.2.2
        rw [expr_eta] at h; exact h
      go_wp2_with fail
      refine (implShift0 v1 0 x.op x.num x.kids ax nx cx _ _ E.out.k).mono ?_
      rw [VS2.out, VO2.out]
      rintro e w5 ⟨aq, nq, cq, rfl, rq, kk⟩
      have KO := Keep.al w5 (.cells #[.int .i64 x.op, .int .i64 x.num, .slice aq nq cq] 25)
      replace K := Lib.hid ((K.out.trans kk).trans KO)
      replace E := Lib.hid ((E.out.keep kk).keep KO)
      replace E6 := Lib.hid ((E6.out.keep kk).keep KO)
      have E10 := Lib.hid (Ev.born w5 (fun _ => True) x aq nq cq (rq.read.mono (fun _ _ => trivial)))
      clear kk KO rq e0 e1 e2 E8
      go_upto_region 9 with fail
      generalize hW : w5.alloc (.cells #[.int .i64 x.op, .int .i64 x.num, .slice aq nq cq] 25) = wq at *
      clear hW
      generalize hs : w5.heap.size = s10 at *
      clear hs
      obtain ⟨N, hN⟩ : ∃ N : Int, N = nodesL x.kids := ⟨_, rfl⟩
      have VN2 : Hid (nodesL x.kids = N) := hN.symm
      have VN : Hid (nodesL S.kids = N) := by show _ = _; rw [hN, nodesL, nodesL, HN.out]
      have KD : Keep wq wq.drew := (Ext.refl (fun _ => False) wq).drew
      have KW := K
      replace E := Lib.hid (E.out.keep KD)
      replace E6 := Lib.hid (E6.out.keep KD)
      replace E10 := Lib.hid (E10.out.keep KD)
      clear hN KD
      have e0 : wq.drew.cell? ⟨s, 0, none⟩ = some (.int .i64 x.op) := E.out.v0
      have e1 : wq.drew.cell? ⟨s, 1, none⟩ = some (.int .i64 x.num) := E.out.v1
      have e2 : wq.drew.cell? ⟨s, 2, none⟩ = some (.slice ax nx cx) := E.out.v2
      have d0 : wq.drew.cell? ⟨s6, 0, none⟩ = some (.int .i64 S.op) := E6.out.v0
      have d1 : wq.drew.cell? ⟨s6, 1, none⟩ = some (.int .i64 S.num) := E6.out.v1
      have d2 : wq.drew.cell? ⟨s6, 2, none⟩ = some (.slice ao no co) := E6.out.v2
      have g0 : wq.drew.cell? ⟨s10, 0, none⟩ = some (.int .i64 x.op) := E10.out.v0
      have g1 : wq.drew.cell? ⟨s10, 1, none⟩ = some (.int .i64 x.num) := E10.out.v1
      have g2 : wq.drew.cell? ⟨s10, 2, none⟩ = some (.slice aq nq cq) := E10.out.v2
      refine wp_region_held_drew (S := fun w' => w'.cell? ⟨s10, 0, none⟩ = some (.int .i64 x.op) ∧ w'.cell? ⟨s10, 1, none⟩ = some (.int .i64 x.num) ∧ w'.cell? ⟨s10, 2, none⟩ = some (.slice aq nq cq) ∧ w'.cell? ⟨s, 0, none⟩ = some (.int .i64 x.op) ∧ w'.cell? ⟨s, 1, none⟩ = some (.int .i64 x.num) ∧ w'.cell? ⟨s, 2, none⟩ = some (.slice ax nx cx) ∧ w'.cell? ⟨s6, 0, none⟩ = some (.int .i64 S.op) ∧ w'.cell? ⟨s6, 1, none⟩ = some (.int .i64 S.num) ∧ w'.cell? ⟨s6, 2, none⟩ = some (.slice ao no co)) (by kernel_rfl) ⟨g0, g1, g2, e0, e1, e2, d0, d1, d2⟩ (fun hHeld => ?_)
      have pc : Hid (Keep wq.drew wq.drew) := Ext.refl _ _
      refine wpAnyH_takeL (i := 0) (v := ?_) rfl (by kernel_rfl) (by kernel_rfl) (by kernel_rfl) (fun _ _ _ h => h) (by rfl) hHeld ?_ ?_
      rotate_left
      · (intro w hSw; (try dsimp only at hSw); go_simp; (try with_reducible rfl))
      try simp only [Act.put, List.setIfInBounds_toArray, List.set_cons_zero, List.set_cons_succ]
      refine wpAnyH_takeL (i := 1) (v := ?_) rfl (by kernel_rfl) (by kernel_rfl) (by kernel_rfl) (fun _ _ _ h => h) (by rfl) hHeld ?_ ?_
      rotate_left
      · (intro w hSw; (try dsimp only at hSw); go_simp; (try with_reducible rfl))
      try simp only [Act.put, List.setIfInBounds_toArray, List.set_cons_zero, List.set_cons_succ]
      refine wpAnyH_takeL (i := 2) (v := ?_) rfl (by kernel_rfl) (by kernel_rfl) (by kernel_rfl) (fun _ _ _ h => h) (by rfl) hHeld ?_ ?_
      rotate_left
      · (intro w hSw; (try dsimp only at hSw); go_simp; (try with_reducible rfl))
      try simp only [Act.put, List.setIfInBounds_toArray, List.set_cons_zero, List.set_cons_succ]
      refine wpAnyH_takeL (i := 3) (v := ?_) rfl (by kernel_rfl) (by kernel_rfl) (by kernel_rfl) (fun _ _ _ h => h) (by rfl) hHeld ?_ ?_
      rotate_left
      · (intro w hSw; (try dsimp only at hSw); go_simp; (try with_reducible rfl))
      try simp only [Act.put, List.setIfInBounds_toArray, List.set_cons_zero, List.set_cons_succ]
      refine wpAnyH_oneL (i := 4) rfl (by kernel_rfl) (by rfl) (fun K0 hK0 => ?_)
      go_simp
      go_at_call 30
      refine (equalExpr_same x aq nq cq ax nx cx _ _ _ E10.out.k E.out.k).mono ?_
      rintro e y1 ⟨rfl, kk⟩
      replace pc := Lib.hid (pc.out.trans kk)
      replace E := Lib.hid (E.out.keep kk)
      replace E6 := Lib.hid (E6.out.keep kk)
      replace E10 := Lib.hid (E10.out.keep kk)
      clear kk
      refine hK0.out _ _ ⟨pc.out.cl g0 (fun h => h), pc.out.cl g1 (fun h => h), pc.out.cl g2 (fun h => h), pc.out.cl e0 (fun h => h), pc.out.cl e1 (fun h => h), pc.out.cl e2 (fun h => h), pc.out.cl d0 (fun h => h), pc.out.cl d1 (fun h => h), pc.out.cl d2 (fun h => h)⟩ (fun hHeld => ?_)
      clear hK0
      try simp only [Act.put, List.setIfInBounds_toArray, List.set_cons_zero, List.set_cons_succ]
      refine wpAnyH_takeL (i := 5) (v := ?_) rfl (by kernel_rfl) (by kernel_rfl) (by kernel_rfl) (fun _ _ _ h => h) (by rfl) hHeld ?_ ?_
      rotate_left
      · (intro w hSw; (try dsimp only at hSw); go_simp; (try with_reducible rfl))
      try simp only [Act.put, List.setIfInBounds_toArray, List.set_cons_zero, List.set_cons_succ]
      refine wpAnyH_takeL (i := 6) (v := ?_) rfl (by kernel_rfl) (by kernel_rfl) (by kernel_rfl) (fun _ _ _ h => h) (by rfl) hHeld ?_ ?_
      rotate_left
      · (intro w hSw; (try dsimp only at hSw); go_simp; (try with_reducible rfl))
      try simp only [Act.put, List.setIfInBounds_toArray, List.set_cons_zero, List.set_cons_succ]
      refine wpAnyH_takeL (i := 7) (v := ?_) rfl (by kernel_rfl) (by kernel_rfl) (by kernel_rfl) (fun _ _ _ h => h) (by rfl) hHeld ?_ ?_
      rotate_left
      · (intro w hSw; (try dsimp only at hSw); go_simp; (try with_reducible rfl))
      try simp only [Act.put, List.setIfInBounds_toArray, List.set_cons_zero, List.set_cons_succ]
      refine wpAnyH_takeL (i := 9) (v := ?_) rfl (by kernel_rfl) (by kernel_rfl) (by kernel_rfl) (fun _ _ _ h => h) (by rfl) hHeld ?_ ?_
      rotate_left
      · (intro w hSw; (try dsimp only at hSw); go_simp; (try with_reducible rfl))
      try simp only [Act.put, List.setIfInBounds_toArray, List.set_cons_zero, List.set_cons_succ]
      refine wpAnyH_oneL (i := 8) rfl (by kernel_rfl) (by rfl) (fun K0 hK0 => ?_)
      go_simp
      go_at_call 21
      refine (implNodesOf S.op S.num S.kids ao no co _ _ E6.out.k).mono ?_
      rw [VN.out]
      rintro e y2 ⟨rfl, kk⟩
      replace pc := Lib.hid (pc.out.trans kk)
      replace E := Lib.hid (E.out.keep kk)
      replace E6 := Lib.hid (E6.out.keep kk)
      replace E10 := Lib.hid (E10.out.keep kk)
      clear kk
      refine hK0.out _ _ ⟨pc.out.cl g0 (fun h => h), pc.out.cl g1 (fun h => h), pc.out.cl g2 (fun h => h), pc.out.cl e0 (fun h => h), pc.out.cl e1 (fun h => h), pc.out.cl e2 (fun h => h), pc.out.cl d0 (fun h => h), pc.out.cl d1 (fun h => h), pc.out.cl d2 (fun h => h)⟩ (fun hHeld => ?_)
      clear hK0
      try simp only [Act.put, List.setIfInBounds_toArray, List.set_cons_zero, List.set_cons_succ]
      refine wpAnyH_oneL (i := 10) rfl (by kernel_rfl) (by rfl) (fun K0 hK0 => ?_)
      go_simp
      go_at_call 21
      refine (implNodesOf x.op x.num x.kids ax nx cx _ _ E.out.k).mono ?_
      rw [VN2.out]
      rintro e y3 ⟨rfl, kk⟩
      replace pc := Lib.hid (pc.out.trans kk)
      replace E := Lib.hid (E.out.keep kk)
      replace E6 := Lib.hid (E6.out.keep kk)
      replace E10 := Lib.hid (E10.out.keep kk)
      clear kk
      refine hK0.out _ _ ⟨pc.out.cl g0 (fun h => h), pc.out.cl g1 (fun h => h), pc.out.cl g2 (fun h => h), pc.out.cl e0 (fun h => h), pc.out.cl e1 (fun h => h), pc.out.cl e2 (fun h => h), pc.out.cl d0 (fun h => h), pc.out.cl d1 (fun h => h), pc.out.cl d2 (fun h => h)⟩ (fun hHeld => ?_)
      clear hK0
      try simp only [Act.put, List.setIfInBounds_toArray, List.set_cons_zero, List.set_cons_succ]
      refine wpAnyH_takeL (i := 11) (v := ?_) rfl (by kernel_rfl) (by kernel_rfl) (by kernel_rfl) (fun _ _ _ h => h) (by rfl) hHeld ?_ ?_
      rotate_left
      · (intro w hSw; (try dsimp only at hSw); go_simp; (try with_reducible rfl))
      try simp only [Act.put, List.setIfInBounds_toArray, List.set_cons_zero, List.set_cons_succ]
      refine wpAnyH_takeL (i := 12) (v := ?_) rfl (by kernel_rfl) (by kernel_rfl) (by kernel_rfl) (fun _ _ _ h => h) (by rfl) hHeld ?_ ?_
      rotate_left
      · (intro w hSw; (try dsimp only at hSw); go_simp; (try with_reducible rfl))
      try simp only [Act.put, List.setIfInBounds_toArray, List.set_cons_zero, List.set_cons_succ]
      refine wpAnyH_takeL (i := 13) (v := ?_) rfl (by kernel_rfl) (by kernel_rfl) (by kernel_rfl) (fun _ _ _ h => h) (by rfl) hHeld ?_ ?_
      rotate_left
      · (intro w hSw; (try dsimp only at hSw); go_simp; (try with_reducible rfl))
      try simp only [Act.put, List.setIfInBounds_toArray, List.set_cons_zero, List.set_cons_succ]
      refine wpAnyH_done (by kernel_rfl) ?_ _
      go_wp2_with fail
      exact fin_ hQ ⟨rfl, KW.out.trans ((Ext.refl (fun _ => False) _).drew.trans pc.out)⟩
  · go_enter Try.func6, Try.ntmps6
    go_wp2_with fail
    exact fin_ hQ ⟨rfl, Ext.refl _ _⟩
end Go.Proofs.Ytomgellcpjimjaa
