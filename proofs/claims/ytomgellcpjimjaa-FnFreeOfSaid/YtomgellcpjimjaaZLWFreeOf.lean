/- The drawn law FnFreeOf: the walk. -/
import Derived.Test.YtomgellcpjimjaaHT
import Derived.Test.YtomgellcpjimjaaHQ
import Derived.Test.YtomgellcpjimjaaZMentions
import Derived.Test.YtomgellcpjimjaaZLp3a
namespace Go.Proofs.Ytomgellcpjimjaa
open Go.RowKit

set_option maxRecDepth 100000 in
set_option maxHeartbeats 4000000 in
theorem fnFreeOf_walk (a : Option Addr) (len cap : Nat) (z : Nat → Int) (w : World) (h : Byt w a len z) (hlc : len ≤ cap) :
    Calls Try.prog 11 #[.slice a len cap] w fun e w' => e = .returned (.bool true) ∧ Keep w w' := by
  refine calls_k fun Q hQ => ?_
  by_cases hl : len ≤ 1048576
  · go_enter Try.func11, Try.ntmps11
    go_wp2_with fail
    refine (DrawFreeOf_any a len cap z w h hlc hl).mono ?_
    rintro e w1 ⟨x, ax, nx, cx, v1, rfl, mv1, rx, k1⟩
    have KO := Keep.al w1 (.cells #[.int .i64 x.op, .int .i64 x.num, .slice ax nx cx] 25)
    have K := Lib.hid (k1.trans KO)
    have E0 := Lib.hid (Ev.born w1 (fun _ => True) x ax nx cx (rx.mono (fun _ _ => trivial)))
    clear h rx k1 KO
    go_upto_region 4 with fail
    generalize hW : w1.alloc (.cells #[.int .i64 x.op, .int .i64 x.num, .slice ax nx cx] 25) = W at *
    clear hW
    generalize hS : w1.heap.size = s at *
    clear hS
    have E := E0
    clear E0
    have e0 := E.out.v0
    have e1 := E.out.v1
    have e2 := E.out.v2
    have HV1 : Hid (-1 ≤ v1 ∧ v1 ≤ 100) := by
      simp only [List.mem_cons, List.not_mem_nil, or_false] at mv1
      show _ ∧ _
      omega
    clear mv1
    obtain ⟨F, hF⟩ : ∃ F, F = freeL v1 x.op x.num x.kids := ⟨_, rfl⟩
    have V : Hid (freeL v1 x.op x.num x.kids = F) := hF.symm
    have HFL : Hid (F.length ≤ 1000) := by show _ ≤ _; rw [hF]; exact freeL_len _ _ _ _
    clear hF
    go_wp2_with fail
    refine (implFreeOf v1 x.op x.num x.kids ax nx cx _ _ E.out.k).mono ?_
    rw [V.out]
    rintro e w2 ⟨ao, no, co, rfl, ro, kk⟩
    replace K := Lib.hid (K.out.trans kk)
    replace E := Lib.hid (E.out.keep kk)
    replace e0 := E.out.v0
    replace e1 := E.out.v1
    replace e2 := E.out.v2
    have RO := Lib.hid ro.read
    clear ro
    clear kk
    have hno : F.length = no := (ints_at RO.out).1
    have HNO := Lib.hid hno
    have hno2 : no ≤ 1000 := by have := HFL.out; omega
    clear hno
    go_wp2_with fail
    refine (specFreeOf v1 x.op x.num x.kids ax nx cx _ _ E.out.k).mono ?_
    rw [V.out]
    rintro e w3 ⟨ap, np, cp, rfl, rp, kk⟩
    replace K := Lib.hid (K.out.trans kk)
    replace E := Lib.hid (E.out.keep kk)
    replace RO := Lib.hid (RO.out.k kk)
    replace e0 := E.out.v0
    replace e1 := E.out.v1
    replace e2 := E.out.v2
    have RP := Lib.hid rp
    clear rp
    clear kk
    go_wp2_with fail
    refine (equalInts_same ao no co ap np cp F _ _ _ RO.out.toInts RP.out.toInts (by omega)).mono ?_
    rintro e w4 ⟨rfl, kk⟩
    replace K := Lib.hid (K.out.trans kk)
    replace E := Lib.hid (E.out.keep kk)
    replace RO := Lib.hid (RO.out.k kk)
    replace RP := Lib.hid (RP.out.k kk)
    replace e0 := E.out.v0
    replace e1 := E.out.v1
    replace e2 := E.out.v2
    clear kk
    by_cases h0 : no = 0
    · subst h0
      go_wp2_with fail
      refine (specFreeOf v1 x.op x.num x.kids ax nx cx _ _ E.out.k).mono ?_
      rw [V.out]
      rintro e w5 ⟨aq, nq, cq, rfl, rq, kk⟩
      replace K := Lib.hid (K.out.trans kk)
      replace E := Lib.hid (E.out.keep kk)
      replace RO := Lib.hid (RO.out.k kk)
      replace RP := Lib.hid (RP.out.k kk)
      replace e0 := E.out.v0
      replace e1 := E.out.v1
      replace e2 := E.out.v2
      have RQ := Lib.hid rq
      clear rq
      clear kk
      go_wp2_with fail
      refine (equalInts_same ao 0 co aq nq cq F _ _ _ RO.out.toInts RQ.out.toInts (by omega)).mono ?_
      rintro e w6 ⟨rfl, kk⟩
      replace K := Lib.hid (K.out.trans kk)
      replace E := Lib.hid (E.out.keep kk)
      replace RO := Lib.hid (RO.out.k kk)
      replace RP := Lib.hid (RP.out.k kk)
      replace RQ := Lib.hid (RQ.out.k kk)
      replace e0 := E.out.v0
      replace e1 := E.out.v1
      replace e2 := E.out.v2
      clear kk
      go_wp2_with fail
      exact fin_ hQ ⟨rfl, K.out⟩
    · have h0b : ((no : Int) == 0) = false := by rw [beq_eq_false_iff_ne]; omega
      have hz : nEs x.kids + 1 ≤ 30 := by
        refine Classical.byContradiction fun h => ?_
        have h1 := V.out
        rw [freeL, if_neg h] at h1
        have h2 := HNO.out
        rw [← h1] at h2
        simp at h2; omega
      have HZ := Lib.hid hz
      have HASC : Hid (AscI F) := by show AscI F; rw [← V.out]; exact AscI.of (freeL_asc _ _ _ _)
      have HMEM : Hid (∀ u : Int, u ∈ F ↔ 0 ≤ u ∧ u < v1 ∧ 0 < mE u x) := by
        intro u
        rw [← V.out, freeL_mem hz, expr_eta]
      clear hz e0 e1 e2
      go_wp2_with fail
      go_loopw [6] (fun iv wr => ∃ (j : Nat), (j : Int) ≤ 100 ∧ iv = .int .i64 j ∧ Hid (Keep w wr) ∧ Hid (Ev wr s (fun _ => True) x ax nx cx) ∧ Hid (Rd wr _ (encInts F) (.slice ao no co))) (fun i _ => 101 - (intOf i).toNat)
      case atStart => exact ⟨0, by omega, rfl, K, E, RO⟩
      case round =>
        clear K E RO
        obtain ⟨j, hj, rfl, K, E, RO⟩ := hrel
        by_cases hlt : (j : Int) < v1
        · have KD : Keep wr wr.drew := (Ext.refl (fun _ => False) wr).drew
          have RD := Lib.hid (RO.out.k KD)
          have ED := Lib.hid (E.out.keep KD)
          have e0 : wr.drew.cell? ⟨s, 0, none⟩ = some (.int .i64 x.op) := ED.out.v0
          have e1 : wr.drew.cell? ⟨s, 1, none⟩ = some (.int .i64 x.num) := ED.out.v1
          have e2 : wr.drew.cell? ⟨s, 2, none⟩ = some (.slice ax nx cx) := ED.out.v2
          clear KD
          have hv100 : (j : Int) < 100 := by have := HV1.out; omega
          have V3 : Hid (mentL (j : Int) x.op x.num x.kids = (mE (j : Int) x : Int)) := by show _ = _; rw [mentL_yes HZ.out, expr_eta]
          obtain ⟨M, hM⟩ : ∃ M : Int, M = (mE (j : Int) x : Int) := ⟨_, rfl⟩
          rw [← hM] at V3
          have hme : ((j : Int) ∈ F) ↔ 0 < M := by rw [HMEM.out]; constructor; (rintro ⟨_, _, h⟩; omega); (intro h; exact ⟨by omega, hlt, by omega⟩)
          go_wp2_with fail
          have K_ := K
          refine wp_region_held_drew (S := fun w' => w'.cell? ⟨s, 0, none⟩ = some (.int .i64 x.op) ∧ w'.cell? ⟨s, 1, none⟩ = some (.int .i64 x.num) ∧ w'.cell? ⟨s, 2, none⟩ = some (.slice ax nx cx)) (by kernel_rfl) ⟨e0, e1, e2⟩ (fun hHeld => ?_)
          refine wpAnyH_takeL (i := 0) (v := ?_) rfl (by kernel_rfl) (by kernel_rfl) (by kernel_rfl) (fun _ _ _ h => h) (by rfl) hHeld ?_ ?_
          rotate_left
          · (intro w hSw; (try dsimp only at hSw); go_simp; (try with_reducible rfl))
          try simp only [Act.put, List.setIfInBounds_toArray, List.set_cons_zero, List.set_cons_succ]
          refine wpAnyH_takeL (i := 1) (v := ?_) rfl (by kernel_rfl) (by kernel_rfl) (by kernel_rfl) (fun _ _ _ h => h) (by rfl) hHeld ?_ ?_
          rotate_left
          · (intro w hSw; (try dsimp only at hSw); go_simp; (try with_reducible rfl))
          try simp only [Act.put, List.setIfInBounds_toArray, List.set_cons_zero, List.set_cons_succ]
          refine wpAnyH_takeL (i := 3) (v := ?_) rfl (by kernel_rfl) (by kernel_rfl) (by kernel_rfl) (fun _ _ _ h => h) (by rfl) hHeld ?_ ?_
          rotate_left
          · (intro w hSw; (try dsimp only at hSw); go_simp; (try with_reducible rfl))
          try simp only [Act.put, List.setIfInBounds_toArray, List.set_cons_zero, List.set_cons_succ]
          refine wpAnyH_takeL (i := 4) (v := ?_) rfl (by kernel_rfl) (by kernel_rfl) (by kernel_rfl) (fun _ _ _ h => h) (by rfl) hHeld ?_ ?_
          rotate_left
          · (intro w hSw; (try dsimp only at hSw); go_simp; (try with_reducible rfl))
          try simp only [Act.put, List.setIfInBounds_toArray, List.set_cons_zero, List.set_cons_succ]
          refine wpAnyH_oneL (i := 2) rfl (by kernel_rfl) (by rfl) (fun K0 hK => ?_)
          go_simp
          go_at_call 39
          refine (isIn_any ao no co F (j : Int) _ wr.drew RD.out.toInts (by omega)).mono ?_
          rintro e y1 ⟨rfl, hwn⟩
          subst hwn
          refine hK.out _ _ ⟨e0, e1, e2⟩ (fun hHeld => ?_)
          clear hK
          try simp only [Act.put, List.setIfInBounds_toArray, List.set_cons_zero, List.set_cons_succ]
          refine wpAnyH_oneL (i := 5) rfl (by kernel_rfl) (by rfl) (fun K0 hK => ?_)
          go_simp
          go_at_call 25
          refine (implMentionsOf (j : Int) x.op x.num x.kids ax nx cx _ _ ED.out.k).mono ?_
          rw [V3.out]
          rintro e y2 ⟨rfl, kq⟩
          have KQ := Lib.hid kq
          clear kq
          refine hK.out _ _ ⟨KQ.out.cl e0 (fun h => h), KQ.out.cl e1 (fun h => h), KQ.out.cl e2 (fun h => h)⟩ (fun hHeld => ?_)
          clear hK
          try simp only [Act.put, List.setIfInBounds_toArray, List.set_cons_zero, List.set_cons_succ]
          refine wpAnyH_takeL (i := 6) (v := ?_) rfl (by kernel_rfl) (by kernel_rfl) (by kernel_rfl) (fun _ _ _ h => h) (by rfl) hHeld ?_ ?_
          rotate_left
          · (intro w hSw; (try dsimp only at hSw); go_simp; (try with_reducible rfl))
          try simp only [Act.put, List.setIfInBounds_toArray, List.set_cons_zero, List.set_cons_succ]
          refine wpAnyH_takeL (i := 7) (v := ?_) rfl (by kernel_rfl) (by kernel_rfl) (by kernel_rfl) (fun _ _ _ h => h) (by rfl) hHeld ?_ ?_
          rotate_left
          · (intro w hSw; (try dsimp only at hSw); go_simp; (try with_reducible rfl))
          try simp only [Act.put, List.setIfInBounds_toArray, List.set_cons_zero, List.set_cons_succ]
          refine wpAnyH_done (by kernel_rfl) ?_ _
          have K5 := Lib.hid ((K_.out.trans (Ext.refl (fun _ => False) _).drew).trans KQ.out)
          have E5 := Lib.hid (ED.out.keep KQ.out)
          have R5 := Lib.hid (RD.out.k KQ.out)
          have hb : (decide ((j : Int) ∈ F) != decide (M > 0)) = false := by
            rw [bne_eq_false_iff_eq, decide_eq_decide]; exact hme
          clear e0 e1 e2
          go_wp2_with fail
          go_roundw
          case rel => exact ⟨j + 1, by omega, by go_num, K5, E5, R5⟩
          case measure => simp [intOf]; omega
        · go_wp2_with fail
          refine (ascends_yes ao no co F _ wr RO.out.toInts (by omega) HASC.out).mono ?_
          rintro e w9 ⟨rfl, k9⟩
          replace K := Lib.hid (K.out.trans k9)
          replace RO := Lib.hid (RO.out.k k9)
          clear k9
          have hne : 0 < no := by omega
          obtain ⟨bf, of_, rfl, _, hcf⟩ := RO.out.toInts.2 hne
          have q0 := hcf 0 hne
          have q1 := hcf (no - 1) (by omega)
          simp only [Nat.add_zero] at q0
          have h0m : iAt F 0 ∈ F := by rw [iAt_get (by have := HNO.out; omega)]; exact List.getElem_mem _
          have h1m : iAt F (no - 1) ∈ F := by rw [iAt_get (by have := HNO.out; omega)]; exact List.getElem_mem _
          have hr0 := (HMEM.out _).1 h0m
          have hr1 := (HMEM.out _).1 h1m
          have hx0 : 0 ≤ iAt F 0 := hr0.1
          have hx1 : iAt F (no - 1) < v1 := hr1.2.1
          have hsb : IntKind.i64.wrap ((no : Int) - 1) = ((no - 1 : Nat) : Int) := by rw [IntWalk.i64_in _ (by omega)]; omega
          have hnn : (0 : Int) < (no : Int) := by omega
          have hnl : ((no - 1 : Nat) : Int) < (no : Int) := by omega
          clear hcf hr0 hr1 h0m h1m
          go_wp2_with fail
          exact fin_ hQ ⟨rfl, K.out⟩
  · go_enter Try.func11, Try.ntmps11
    go_wp2_with fail
    exact fin_ hQ ⟨rfl, Ext.refl _ _⟩
end Go.Proofs.Ytomgellcpjimjaa
