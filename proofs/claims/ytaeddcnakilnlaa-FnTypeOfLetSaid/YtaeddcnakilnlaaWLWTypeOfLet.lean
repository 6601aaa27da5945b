/- The drawn law FnTypeOfLet: the walk. -/
import Derived.Test.YtaeddcnakilnlaaMT
import Derived.Test.YtaeddcnakilnlaaWGen25
import Derived.Test.YtaeddcnakilnlaaMZ
import Derived.Test.YtaeddcnakilnlaaWNodes
namespace Go.Proofs.Ytaeddcnakilnlaa
open Go.RowKit

set_option maxRecDepth 100000 in
set_option maxHeartbeats 1000000 in
theorem fnTypeOfLet_walk (a : Option Addr) (len cap : Nat) (z : Nat → Int) (w : World) (h : Byt w a len z) (hlc : len ≤ cap) :
    Calls Try.prog 4 #[.slice a len cap] w fun e w' => e = .returned (.bool true) ∧ Keep w w' := by
  refine calls_k fun Q hQ => ?_
  by_cases hl : len ≤ 1048576
  · go_enter Try.func4, Try.ntmps4
    go_wp2_with fail
    refine (DrawTypeOf_any a len cap z w h hlc hl).mono ?_
    rintro e w1 ⟨ds, fs, a0, n0, c0, a1, n1, c1, vars, av, nv, cv, x, ax, nx, cx, rfl, r0, r1, rv, rx, hf, fx, hnv, k1⟩
    have KO := (Keep.al w1 (.cells #[.slice a0 n0 c0, .slice a1 n1 c1] 50)).trans (Keep.al _ (.cells #[.int .i64 x.op, .int .i64 x.num, .slice ax nx cx] 53))
    have K := Lib.hid (k1.trans KO)
    have P := Lib.hid ((Px.born w1 (.slice a0 n0 c0) (.slice a1 n1 c1)).k (Keep.al _ (.cells #[.int .i64 x.op, .int .i64 x.num, .slice ax nx cx] 53)))
    have hz1 : (w1.alloc (.cells #[.slice a0 n0 c0, .slice a1 n1 c1] 50)).heap.size = w1.heap.size + 1 := World.size_alloc _ _
    have E0 := Lib.hid (Ev.born (w1.alloc (.cells #[.slice a0 n0 c0, .slice a1 n1 c1] 50)) (fun _ => True) x ax nx cx ((rx.k (Keep.al w1 (.cells #[.slice a0 n0 c0, .slice a1 n1 c1] 50))).mono (fun _ _ => trivial)))
    have RD := Lib.hid (r0.k KO)
    have RF := Lib.hid (r1.k KO)
    have RV := Lib.hid (rv.k KO)
    have FX : Hid (allE fitN (.mk x.op x.num x.kids)) := by
      show allE _ _
      rw [expr_eta]; exact gfit_fit (by omega) x fx
    have HVL : Hid (vars.length = nv) := (ints_at rv).1
    clear h r0 r1 rv rx k1 KO hf fx
    go_upto_region 4 with fail
    replace E0 : Hid (Ev ((w1.alloc (.cells #[.slice a0 n0 c0, .slice a1 n1 c1] 50)).alloc (.cells #[.int .i64 x.op, .int .i64 x.num, .slice ax nx cx] 53)) (w1.heap.size + 1) (fun _ => True) x ax nx cx) := by rw [← hz1]; exact E0
    generalize hW : ((w1.alloc (.cells #[.slice a0 n0 c0, .slice a1 n1 c1] 50)).alloc (.cells #[.int .i64 x.op, .int .i64 x.num, .slice ax nx cx] 53)) = W at *
    clear hW hz1
    generalize hS : w1.heap.size = s at *
    clear hS
    have E := E0
    clear E0
    obtain ⟨T, hT⟩ : ∃ T, typeTop ds fs vars (.mk x.op x.num x.kids) = T := ⟨_, rfl⟩
    have V := Lib.hid hT
    rw [expr_eta] at hT
    have VX := Lib.hid hT
    clear hT
    have p0 := P.out.x0
    have p1 := P.out.x1
    have e0 := E.out.v0
    have e1 := E.out.v1
    have e2 := E.out.v2
    go_wp2_with fail
    refine (implTypeOfTop ds fs a0 n0 c0 a1 n1 c1 av nv cv vars x.op x.num x.kids ax nx cx _ _ _ _ _ RD.out RF.out RV.out (by omega) E.out.k FX.out).mono ?_
    rw [V.out]
    rintro e w2 ⟨rfl, kk⟩
    replace K := Lib.hid (K.out.trans kk)
    replace P := Lib.hid (P.out.k kk)
    replace E := Lib.hid (E.out.keep kk)
    replace RD := Lib.hid (RD.out.k kk)
    replace RF := Lib.hid (RF.out.k kk)
    replace RV := Lib.hid (RV.out.k kk)
    clear kk
    clear p0 p1 e0 e1 e2
    have p0 := P.out.x0
    have p1 := P.out.x1
    have e0 := E.out.v0
    have e1 := E.out.v1
    have e2 := E.out.v2
    go_wp2_with fail
    refine (specTypeOfTop ds fs a0 n0 c0 a1 n1 c1 av nv cv vars x.op x.num x.kids ax nx cx _ _ _ _ _ RD.out RF.out RV.out (by omega) E.out.k).mono ?_
    rw [V.out]
    rintro e w3 ⟨rfl, kk⟩
    replace K := Lib.hid (K.out.trans kk)
    replace P := Lib.hid (P.out.k kk)
    replace E := Lib.hid (E.out.keep kk)
    replace RD := Lib.hid (RD.out.k kk)
    replace RF := Lib.hid (RF.out.k kk)
    replace RV := Lib.hid (RV.out.k kk)
    clear kk
    clear p0 p1 e0 e1 e2
    have tt : (T != T) = false := by simp
    have te : (T == T) = true := by simp
    by_cases h0 : T < 0
    · have p0 := P.out.x0
      have p1 := P.out.x1
      have e0 := E.out.v0
      have e1 := E.out.v1
      have e2 := E.out.v2
      go_wp2_with fail
      refine (specTypeOfTop ds fs a0 n0 c0 a1 n1 c1 av nv cv vars x.op x.num x.kids ax nx cx _ _ _ _ _ RD.out RF.out RV.out (by omega) E.out.k).mono ?_
      rw [V.out]
      rintro e w4 ⟨rfl, kk⟩
      replace K := Lib.hid (K.out.trans kk)
      replace P := Lib.hid (P.out.k kk)
      replace E := Lib.hid (E.out.keep kk)
      replace RD := Lib.hid (RD.out.k kk)
      replace RF := Lib.hid (RF.out.k kk)
      replace RV := Lib.hid (RV.out.k kk)
      clear kk
      clear p0 p1 e0 e1 e2
      go_wp2_with fail
      exact fin_ hQ ⟨rfl, K.out⟩
    · have HT0 : Hid (0 ≤ T) := by show _ ≤ _; omega
      have VN : Hid (nodesL x.kids = (nE x : Int)) := nodes_of_top (ds := ds) (fs := fs) (vars := vars) (by rw [VX.out]; exact HT0.out)
      have HN30 : Hid (nE x ≤ 30) := by show _ ≤ _; have := (typeTop_yes (ds := ds) (fs := fs) (vars := vars) (e := x) (by rw [VX.out]; exact HT0.out)).2.1; rw [nE_eq]; exact this
      obtain ⟨M, hM⟩ : ∃ M, M = nE x := ⟨_, rfl⟩
      have HM := Lib.hid hM
      rw [← hM] at VN HN30
      clear hM
      have hM30 : M ≤ 30 := HN30.out
      have hTn : ¬ T < 0 := by omega
      have hgt : IntKind.i64.wrap ((M : Int) + 2) = (M : Int) + 2 := IntWalk.i64_in _ (by omega)
      by_cases hb : M + 2 ≤ 30
      case neg =>
        have hb2 : (30 : Int) < (M : Int) + 2 := by omega
        clear hb
        have p0 := P.out.x0
        have p1 := P.out.x1
        have e0 := E.out.v0
        have e1 := E.out.v1
        have e2 := E.out.v2
        go_wp2_with fail
        refine (implNodesOf x.op x.num x.kids ax nx cx _ _ E.out.k).mono ?_
        rw [VN.out]
        rintro e w4 ⟨rfl, kk⟩
        replace K := Lib.hid (K.out.trans kk)
        replace P := Lib.hid (P.out.k kk)
        replace E := Lib.hid (E.out.keep kk)
        replace RD := Lib.hid (RD.out.k kk)
        replace RF := Lib.hid (RF.out.k kk)
        replace RV := Lib.hid (RV.out.k kk)
        clear kk
        clear p0 p1 e0 e1 e2
        have p0 := P.out.x0
        have p1 := P.out.x1
        have e0 := E.out.v0
        have e1 := E.out.v1
        have e2 := E.out.v2
        go_wp2_with fail
        refine (specTypeOfTop ds fs a0 n0 c0 a1 n1 c1 av nv cv vars x.op x.num x.kids ax nx cx _ _ _ _ _ RD.out RF.out RV.out (by omega) E.out.k).mono ?_
        rw [V.out]
        rintro e w5 ⟨rfl, kk⟩
        replace K := Lib.hid (K.out.trans kk)
        replace P := Lib.hid (P.out.k kk)
        replace E := Lib.hid (E.out.keep kk)
        replace RD := Lib.hid (RD.out.k kk)
        replace RF := Lib.hid (RF.out.k kk)
        replace RV := Lib.hid (RV.out.k kk)
        clear kk
        clear p0 p1 e0 e1 e2
        go_wp2_with fail
        exact fin_ hQ ⟨rfl, K.out⟩
      have hb2 : ¬ (30 : Int) < (M : Int) + 2 := by omega
      have VT : Hid (typeTop ds fs vars (.mk 13 0 [x, .mk 12 (nv : Int) []]) = T) := by
        show _ = _
        rw [← HVL.out]
        exact top_let VX.out HT0.out (by have := HM.out; omega)
      have FT : Hid (allE fitN (.mk 13 0 [x, .mk 12 (nv : Int) []])) := ⟨⟨by omega, by omega⟩, by have h := FX.out; rw [expr_eta] at h; exact h, ⟨⟨by omega, by omega⟩, trivial⟩, trivial⟩
      have p0 := P.out.x0
      have p1 := P.out.x1
      have e0 := E.out.v0
      have e1 := E.out.v1
      have e2 := E.out.v2
      go_wp2_with fail
      refine (implNodesOf x.op x.num x.kids ax nx cx _ _ E.out.k).mono ?_
      rw [VN.out]
      rintro e w4 ⟨rfl, kk⟩
      replace K := Lib.hid (K.out.trans kk)
      replace P := Lib.hid (P.out.k kk)
      replace E := Lib.hid (E.out.keep kk)
      replace RD := Lib.hid (RD.out.k kk)
      replace RF := Lib.hid (RF.out.k kk)
      replace RV := Lib.hid (RV.out.k kk)
      clear kk
      clear p0 p1 e0 e1 e2
      have LA := Lib.hid (lit_expr2 w4 (fun _ => True) 53 x (.mk 12 (nv : Int) []) ax nx cx none 0 0 trivial E.out.k (.nil 3 _ _))
      have KL := Keep.al w4 (.cells #[.int .i64 x.op, .int .i64 x.num, .slice ax nx cx, .int .i64 12, .int .i64 (nv : Int), .slice none 0 0] 53)
      have p0 := P.out.x0
      have p1 := P.out.x1
      have e0 := E.out.v0
      have e1 := E.out.v1
      have e2 := E.out.v2
      go_wp2_with fail
      refine (lawNode 13 _ _ _ _).mono ?_
      rintro e wn ⟨rfl, kk⟩
      have KO := Keep.al wn (.cells #[.int .i64 13, .int .i64 0, .slice (some ⟨w4.heap.size, 0, none⟩) 2 2] 53)
      have K3 := (KL.trans kk).trans KO
      replace K := Lib.hid (K.out.trans K3)
      replace P := Lib.hid (P.out.k K3)
      replace E := Lib.hid (E.out.keep K3)
      replace RD := Lib.hid (RD.out.k K3)
      replace RF := Lib.hid (RF.out.k K3)
      replace RV := Lib.hid (RV.out.k K3)
      have S := Lib.hid (Ev.born wn (fun _ => True) (.mk 13 0 [x, .mk 12 (nv : Int) []]) (some ⟨w4.heap.size, 0, none⟩) 2 2 (LA.out.k kk))
      clear kk KL KO K3 LA p0 p1 e0 e1 e2
      go_upto_region 8 with fail
      replace S : Hid (Ev (wn.alloc (.cells #[.int .i64 13, .int .i64 0, .slice (some ⟨w4.heap.size, 0, none⟩) 2 2] 53)) wn.heap.size (fun _ => True) (.mk 13 0 [x, .mk 12 (nv : Int) []]) (some ⟨w4.heap.size, 0, none⟩) 2 2) := S
      generalize hW : wn.alloc (.cells #[.int .i64 13, .int .i64 0, .slice (some ⟨w4.heap.size, 0, none⟩) 2 2] 53) = W9 at *
      clear hW
      generalize hs : wn.heap.size = s7 at *
      clear hs
      have p0 := P.out.x0
      have p1 := P.out.x1
      have s0 : W9.cell? ⟨s7, 0, none⟩ = some (.int .i64 13) := S.out.v0
      have s1 : W9.cell? ⟨s7, 1, none⟩ = some (.int .i64 0) := S.out.v1
      have s2 := S.out.v2
      go_wp2_with fail
      refine (implTypeOfTop ds fs a0 n0 c0 a1 n1 c1 av nv cv vars 13 0 [x, .mk 12 (nv : Int) []] _ _ _ _ _ _ _ _ RD.out RF.out RV.out (by omega) S.out.k FT.out).mono ?_
      rw [VT.out]
      rintro e w9 ⟨rfl, kk⟩
      replace K := Lib.hid (K.out.trans kk)
      go_wp2_with fail
      exact fin_ hQ ⟨rfl, K.out⟩
  · go_enter Try.func4, Try.ntmps4
    go_wp2_with fail
    exact fin_ hQ ⟨rfl, Ext.refl _ _⟩
end Go.Proofs.Ytaeddcnakilnlaa
