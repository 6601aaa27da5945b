/- The drawn law FnMentionsOf: the walk. -/
import Derived.Test.YtomgellcpjimjaaHT
import Derived.Test.YtomgellcpjimjaaZMentions
namespace Go.Proofs.Ytomgellcpjimjaa
open Go.RowKit

set_option maxRecDepth 100000 in
set_option maxHeartbeats 4000000 in
theorem fnMentionsOf_walk (a : Option Addr) (len cap : Nat) (z : Nat → Int) (w : World) (h : Byt w a len z) (hlc : len ≤ cap) :
    Calls Try.prog 5 #[.slice a len cap] w fun e w' => e = .returned (.bool true) ∧ Keep w w' := by
  refine calls_k fun Q hQ => ?_
  by_cases hl : len ≤ 1048576
  · go_enter Try.func5, Try.ntmps5
    go_wp2_with fail
    refine (DrawMentionsOf_any a len cap z w h hlc hl).mono ?_
    rintro e w1 ⟨x, ax, nx, cx, v1, rfl, mv1, rx, k1⟩
    have KO := Keep.al w1 (.cells #[.int .i64 x.op, .int .i64 x.num, .slice ax nx cx] 25)
    have K := Lib.hid (k1.trans KO)
    have E0 := Lib.hid (Ev.born w1 (fun _ => True) x ax nx cx (rx.mono (fun _ _ => trivial)))
    clear h rx k1 KO
    go_upto_region 4 with fail
    generalize hW : w1.alloc (.cells #[.int .i64 x.op, .int .i64 x.num, .slice ax nx cx] 25) = W at *
    clear hW
    generalize hS : w1.heap.size = s at *
    clear hS
    have E := E0
    clear E0
    have e0 := E.out.v0
    have e1 := E.out.v1
    have e2 := E.out.v2
    by_cases hz : nEs x.kids + 1 ≤ 30
    · obtain ⟨M, hM⟩ : ∃ M : Int, M = (mE v1 x : Int) := ⟨_, rfl⟩
      have V : Hid (mentL v1 x.op x.num x.kids = M) := by show _ = _; rw [mentL_yes hz, hM, expr_eta]
      have HM := Lib.hid hM
      have hM0 : ¬ M < 0 := by omega
      clear hM
      have hL : Hid (x.kids.length = nx) := (exprs_at E.out.k).1
      have hnx : nx ≤ 100 := by have h1 := hL.out; have h2 := nEs_len x.kids; omega
      have HZ := Lib.hid hz
      go_wp2_with fail
      refine (implMentionsOf v1 x.op x.num x.kids ax nx cx _ _ E.out.k).mono ?_
      rw [V.out]
      rintro e w2 ⟨rfl, kk⟩
      replace K := Lib.hid (K.out.trans kk)
      replace E := Lib.hid (E.out.keep kk)
      replace e0 := E.out.v0
      replace e1 := E.out.v1
      replace e2 := E.out.v2
      clear kk
      go_wp2_with fail
      refine (specMentionsOf v1 x.op x.num x.kids ax nx cx _ _ E.out.k).mono ?_
      rw [V.out]
      rintro e w3 ⟨rfl, kk⟩
      replace K := Lib.hid (K.out.trans kk)
      replace E := Lib.hid (E.out.keep kk)
      replace e0 := E.out.v0
      replace e1 := E.out.v1
      replace e2 := E.out.v2
      clear kk
      by_cases ho : x.op = 12
      · have t : (x.op == 12) = true := by rw [ho]; rfl
        clear ho
        go_wp2_with fail
        refine (specMentionsOf v1 x.op x.num x.kids ax nx cx _ _ E.out.k).mono ?_
        rw [V.out]
        rintro e w4 ⟨rfl, kk⟩
        replace K := Lib.hid (K.out.trans kk)
        replace E := Lib.hid (E.out.keep kk)
        replace e0 := E.out.v0
        replace e1 := E.out.v1
        replace e2 := E.out.v2
        clear kk
        go_wp2_with fail
        exact fin_ hQ ⟨rfl, K.out⟩
      · have t : (x.op == 12) = false := by rw [beq_eq_false_iff_ne]; exact ho
        have HM2 : Hid (M = (mEs v1 x.kids : Int)) := by
          show _ = _
          rw [HM.out]
          obtain ⟨o1, n1, k1⟩ := x
          rw [mE, if_neg (fun h => ho h.1), Nat.zero_add]
          rfl
        clear ho
        go_wp2_with fail
        go_loopw [6, 7] (fun nv iv wr => ∃ (j : Nat) (v : Int), j ≤ nx ∧ iv = .int .i64 j ∧ nv = .int .i64 v ∧ Hid (v = (mEs v1 (x.kids.take j) : Int)) ∧ Hid (Keep w wr) ∧ Hid (Ev wr s (fun _ => True) x ax nx cx)) (fun _ i _ => nx - (intOf i).toNat)
        case atStart => exact ⟨0, 0, Nat.zero_le _, rfl, rfl, by show _ = _; simp [mEs], K, E⟩
        case round =>
          clear K E e0 e1 e2
          obtain ⟨j, v, hj, rfl, rfl, HV, K, E⟩ := hrel
          have e2 := E.out.v2
          by_cases hlt : j < nx
          · obtain ⟨b, o, rfl, -, a2, n2, c2, d0, d1, d2, r2⟩ := (exprs_at E.out.k).2.2.2 j hlt
            have hjl : j < x.kids.length := by have := hL.out; omega
            have h30 : nEs (eAt x.kids j).kids + 1 ≤ 30 := by have h1 := nE_le x.kids hjl; have h2 := nE_eq (eAt x.kids j); have := HZ.out; omega
            obtain ⟨N, hN⟩ : ∃ N : Int, N = (mE v1 (eAt x.kids j) : Int) := ⟨_, rfl⟩
            have V2 : Hid (mentL v1 (eAt x.kids j).op (eAt x.kids j).num (eAt x.kids j).kids = N) := by show _ = _; rw [mentL_yes h30, hN, expr_eta]
            obtain ⟨v2, hv2⟩ : ∃ v2 : Int, v2 = v + N := ⟨_, rfl⟩
            have HV2 : Hid (v2 = (mEs v1 (x.kids.take (j + 1)) : Int)) := by
              show _ = _
              have h1 := mEs_take v1 x.kids hjl
              have h3 := HV.out
              omega
            have hsum : IntKind.i64.wrap (v + N) = v2 := by
              have h1 := HV2.out
              have h3 := mEs_take_le v1 x.kids (j + 1)
              have h4 := mEs_le v1 x.kids
              have := HZ.out
              rw [← hv2]
              exact IntWalk.i64_in _ (by omega)
            clear hv2 hN h30
            go_wp2_with fail
            refine (implMentionsOf v1 _ _ _ _ _ _ _ _ r2).mono ?_
            rw [V2.out]
            rintro e w5 ⟨rfl, k5⟩
            have K5 := Lib.hid (K.out.trans k5)
            have E5 := Lib.hid (E.out.keep k5)
            clear k5 d0 d1 d2 r2 e2
            go_wp2_with fail
            go_roundw
            case rel => exact ⟨j + 1, v2, by omega, by go_num, rfl, HV2, K5, E5⟩
            case measure => simp [intOf]; omega
          · have HJ : v = M := by
              have h1 := HV.out
              have h2 := HM2.out
              rw [List.take_of_length_le (by have := hL.out; omega)] at h1
              omega
            subst HJ
            go_wp2_with fail
            exact fin_ hQ ⟨rfl, K.out⟩
    · have V := Lib.hid (mentL_no (x := v1) (op := x.op) (num := x.num) hz)
      go_wp2_with fail
      refine (implMentionsOf v1 x.op x.num x.kids ax nx cx _ _ E.out.k).mono ?_
      rw [V.out]
      rintro e w2 ⟨rfl, kk⟩
      replace K := Lib.hid (K.out.trans kk)
      replace E := Lib.hid (E.out.keep kk)
      replace e0 := E.out.v0
      replace e1 := E.out.v1
      replace e2 := E.out.v2
      clear kk
      go_wp2_with fail
      refine (specMentionsOf v1 x.op x.num x.kids ax nx cx _ _ E.out.k).mono ?_
      rw [V.out]
      rintro e w3 ⟨rfl, kk⟩
      replace K := Lib.hid (K.out.trans kk)
      replace E := Lib.hid (E.out.keep kk)
      replace e0 := E.out.v0
      replace e1 := E.out.v1
      replace e2 := E.out.v2
      clear kk
      go_wp2_with fail
      refine (specMentionsOf v1 x.op x.num x.kids ax nx cx _ _ E.out.k).mono ?_
      rw [V.out]
      rintro e w4 ⟨rfl, kk⟩
      replace K := Lib.hid (K.out.trans kk)
      replace E := Lib.hid (E.out.keep kk)
      replace e0 := E.out.v0
      replace e1 := E.out.v1
      replace e2 := E.out.v2
      clear kk
      go_wp2_with fail
      exact fin_ hQ ⟨rfl, K.out⟩
  · go_enter Try.func5, Try.ntmps5
    go_wp2_with fail
    exact fin_ hQ ⟨rfl, Ext.refl _ _⟩
end Go.Proofs.Ytomgellcpjimjaa
