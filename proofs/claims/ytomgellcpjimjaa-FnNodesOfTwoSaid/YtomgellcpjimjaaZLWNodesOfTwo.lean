/- The drawn law FnNodesOfTwo: the walk. -/
import Derived.Test.YtomgellcpjimjaaHT
import Derived.Test.YtomgellcpjimjaaZNodes
namespace Go.Proofs.Ytomgellcpjimjaa
open Go.RowKit

set_option maxRecDepth 100000 in
set_option maxHeartbeats 4000000 in
theorem fnNodesOfTwo_walk (a : Option Addr) (len cap : Nat) (z : Nat → Int) (w : World) (h : Byt w a len z) (hlc : len ≤ cap) :
    Calls Try.prog 4 #[.slice a len cap] w fun e w' => e = .returned (.bool true) ∧ Keep w w' := by
  refine calls_k fun Q hQ => ?_
  by_cases hl : len ≤ 1048576
  · go_enter Try.func4, Try.ntmps4
    go_wp2_with fail
    refine (DrawNodesOf_any a len cap z w h hlc hl).mono ?_
    rintro e w1 ⟨x, ax, nx, cx, rfl, rx, k1⟩
    have KO := Keep.al w1 (.cells #[.int .i64 x.op, .int .i64 x.num, .slice ax nx cx] 25)
    have K := Lib.hid (k1.trans KO)
    have E0 := Lib.hid (Ev.born w1 (fun _ => True) x ax nx cx (rx.mono (fun _ _ => trivial)))
    clear h rx k1 KO
    go_upto_region 4 with fail
    generalize hW : w1.alloc (.cells #[.int .i64 x.op, .int .i64 x.num, .slice ax nx cx] 25) = W at *
    clear hW
    generalize hS : w1.heap.size = s at *
    clear hS
    have E := E0
    clear E0
    have e0 := E.out.v0
    have e1 := E.out.v1
    have e2 := E.out.v2
    by_cases hz : nEs x.kids + 1 ≤ 30
    · obtain ⟨M, hM⟩ : ∃ M : Int, M = ((nEs x.kids + 1 : Nat) : Int) := ⟨_, rfl⟩
      have V : Hid (nodesL x.kids = M) := by show _ = _; rw [nodesL_yes hz, hM]
      have HM := Lib.hid hM
      have hM0 : ¬ M < 0 := by omega
      have hM1 : M ≤ 30 := by omega
      clear hM
      go_wp2_with fail
      refine (implNodesOf x.op x.num x.kids ax nx cx _ _ E.out.k).mono ?_
      rw [V.out]
      rintro e w2 ⟨rfl, kk⟩
      replace K := Lib.hid (K.out.trans kk)
      replace E := Lib.hid (E.out.keep kk)
      replace e0 := E.out.v0
      replace e1 := E.out.v1
      replace e2 := E.out.v2
      clear kk
      go_wp2_with fail
      refine (specNodesOf x.op x.num x.kids ax nx cx _ _ E.out.k).mono ?_
      rw [V.out]
      rintro e w3 ⟨rfl, kk⟩
      replace K := Lib.hid (K.out.trans kk)
      replace E := Lib.hid (E.out.keep kk)
      replace e0 := E.out.v0
      replace e1 := E.out.v1
      replace e2 := E.out.v2
      clear kk
      obtain ⟨T, hT⟩ : ∃ T : Int, T = nodesL [x, x] := ⟨_, rfl⟩
      have VT : Hid (nodesL [x, x] = T) := hT.symm
      have he := nE_eq x
      have hT2 : T = if 2 * M + 1 > 30 then -1 else 2 * M + 1 := by
        have h1 := HM.out
        have h2 : nEs [x, x] + 1 = 2 * (nEs x.kids + 1) + 1 := by simp [nEs]; omega
        rw [hT]
        by_cases h : nEs [x, x] + 1 ≤ 30
        · rw [nodesL_yes h, if_neg (by omega)]; omega
        · rw [nodesL_no h, if_pos (by omega)]
      have HT := Lib.hid hT2
      have h2m : IntKind.i64.wrap (2 * M) = 2 * M := IntWalk.i64_in _ (by omega)
      have h2m1 : IntKind.i64.wrap (2 * M + 1) = 2 * M + 1 := IntWalk.i64_in _ (by omega)
      have RL := Lib.hid (lit_expr2 w3 (fun _ => True) 25 x x ax nx cx ax nx cx trivial E.out.k E.out.k)
      have KL := Keep.al w3 (.cells #[.int .i64 x.op, .int .i64 x.num, .slice ax nx cx, .int .i64 x.op, .int .i64 x.num, .slice ax nx cx] 25)
      clear hT hT2 he
      go_wp2_with fail
      refine (lawNode _ _ _ _ _).mono ?_
      rintro e w8 ⟨rfl, k8⟩
      replace K := Lib.hid (K.out.trans (KL.trans k8))
      replace RL := Lib.hid (RL.out.k k8)
      clear KL k8 e0 e1 e2 E
      go_wp2_with fail
      refine (implNodesOf 1 0 [x, x] _ _ _ _ _ RL.out).mono ?_
      rw [VT.out]
      rintro e w9 ⟨rfl, k9⟩
      replace K := Lib.hid (K.out.trans k9)
      clear k9
      by_cases hg : 2 * M + 1 > 30
      · have ht : T = -1 := by have := HT.out; rw [if_pos hg] at this; exact this
        subst ht
        go_wp2_with fail
        exact fin_ hQ ⟨rfl, K.out⟩
      · have ht : T = 2 * M + 1 := by have := HT.out; rw [if_neg hg] at this; exact this
        subst ht
        go_wp2_with fail
        exact fin_ hQ ⟨rfl, K.out⟩
    · have V := Lib.hid (nodesL_no hz)
      go_wp2_with fail
      refine (implNodesOf x.op x.num x.kids ax nx cx _ _ E.out.k).mono ?_
      rw [V.out]
      rintro e w2 ⟨rfl, kk⟩
      replace K := Lib.hid (K.out.trans kk)
      replace E := Lib.hid (E.out.keep kk)
      replace e0 := E.out.v0
      replace e1 := E.out.v1
      replace e2 := E.out.v2
      clear kk
      go_wp2_with fail
      refine (specNodesOf x.op x.num x.kids ax nx cx _ _ E.out.k).mono ?_
      rw [V.out]
      rintro e w3 ⟨rfl, kk⟩
      replace K := Lib.hid (K.out.trans kk)
      replace E := Lib.hid (E.out.keep kk)
      replace e0 := E.out.v0
      replace e1 := E.out.v1
      replace e2 := E.out.v2
      clear kk
      go_wp2_with fail
      refine (specNodesOf x.op x.num x.kids ax nx cx _ _ E.out.k).mono ?_
      rw [V.out]
      rintro e w4 ⟨rfl, kk⟩
      replace K := Lib.hid (K.out.trans kk)
      replace E := Lib.hid (E.out.keep kk)
      replace e0 := E.out.v0
      replace e1 := E.out.v1
      replace e2 := E.out.v2
      clear kk
      go_wp2_with fail
      exact fin_ hQ ⟨rfl, K.out⟩
  · go_enter Try.func4, Try.ntmps4
    go_wp2_with fail
    exact fin_ hQ ⟨rfl, Ext.refl _ _⟩
end Go.Proofs.Ytomgellcpjimjaa
