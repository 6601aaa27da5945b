/- The drawn law FnTypeOfIf: the walk. -/
import Derived.Test.YtaeddcnakilnlaaMT
import Derived.Test.YtaeddcnakilnlaaWGen25
import Derived.Test.YtaeddcnakilnlaaMZ
import Derived.Test.YtaeddcnakilnlaaWNodes
import Derived.Test.YtaeddcnakilnlaaMG
namespace Go.Proofs.Ytaeddcnakilnlaa
open Go.RowKit

set_option maxRecDepth 100000 in
set_option maxHeartbeats 1000000 in
theorem fnTypeOfIf_walk (a : Option Addr) (len cap : Nat) (z : Nat → Int) (w : World) (h : Byt w a len z) (hlc : len ≤ cap) :
    Calls Try.prog 6 #[.slice a len cap] w fun e w' => e = .returned (.bool true) ∧ Keep w w' := by
  refine calls_k fun Q hQ => ?_
  by_cases hl : len ≤ 1048576
  · go_enter Try.func6, Try.ntmps6
    go_wp2_with fail
    refine (DrawTypeOf_any a len cap z w h hlc hl).mono ?_
    rintro e w1 ⟨ds, fs, a0, n0, c0, a1, n1, c1, vars, av, nv, cv, x, ax, nx, cx, rfl, r0, r1, rv, rx, hf, fx, hnv, k1⟩
    have KO := (Keep.al w1 (.cells #[.slice a0 n0 c0, .slice a1 n1 c1] 50)).trans (Keep.al _ (.cells #[.int .i64 x.op, .int .i64 x.num, .slice ax nx cx] 53))
    have K := Lib.hid (k1.trans KO)
    have P := Lib.hid ((Px.born w1 (.slice a0 n0 c0) (.slice a1 n1 c1)).k (Keep.al _ (.cells #[.int .i64 x.op, .int .i64 x.num, .slice ax nx cx] 53)))
    have hz1 : (w1.alloc (.cells #[.slice a0 n0 c0, .slice a1 n1 c1] 50)).heap.size = w1.heap.size + 1 := World.size_alloc _ _
    have E0 := Lib.hid (Ev.born (w1.alloc (.cells #[.slice a0 n0 c0, .slice a1 n1 c1] 50)) (fun _ => True) x ax nx cx ((rx.k (Keep.al w1 (.cells #[.slice a0 n0 c0, .slice a1 n1 c1] 50))).mono (fun _ _ => trivial)))
    have RD := Lib.hid (r0.k KO)
    have RF := Lib.hid (r1.k KO)
    have RV := Lib.hid (rv.k KO)
    have FX : Hid (allE fitN (.mk x.op x.num x.kids)) := by
      show allE _ _
      rw [expr_eta]; exact gfit_fit (by omega) x fx
    have HVL : Hid (vars.length = nv) := (ints_at rv).1
    clear h r0 r1 rv rx k1 KO hf fx
    go_upto_region 4 with fail
    replace E0 : Hid (Ev ((w1.alloc (.cells #[.slice a0 n0 c0, .slice a1 n1 c1] 50)).alloc (.cells #[.int .i64 x.op, .int .i64 x.num, .slice ax nx cx] 53)) (w1.heap.size + 1) (fun _ => True) x ax nx cx) := by rw [← hz1]; exact E0
    generalize hW : ((w1.alloc (.cells #[.slice a0 n0 c0, .slice a1 n1 c1] 50)).alloc (.cells #[.int .i64 x.op, .int .i64 x.num, .slice ax nx cx] 53)) = W at *
    clear hW hz1
    generalize hS : w1.heap.size = s at *
    clear hS
    have E := E0
    clear E0
    obtain ⟨T, hT⟩ : ∃ T, typeTop ds fs vars (.mk x.op x.num x.kids) = T := ⟨_, rfl⟩
    have V := Lib.hid hT
    rw [expr_eta] at hT
    have VX := Lib.hid hT
    clear hT
    have p0 := P.out.x0
    have p1 := P.out.x1
    have e0 := E.out.v0
    have e1 := E.out.v1
    have e2 := E.out.v2
    go_wp2_with fail
    refine (implTypeOfTop ds fs a0 n0 c0 a1 n1 c1 av nv cv vars x.op x.num x.kids ax nx cx _ _ _ _ _ RD.out RF.out RV.out (by omega) E.out.k FX.out).mono ?_
    rw [V.out]
    rintro e w2 ⟨rfl, kk⟩
    replace K := Lib.hid (K.out.trans kk)
    replace P := Lib.hid (P.out.k kk)
    replace E := Lib.hid (E.out.keep kk)
    replace RD := Lib.hid (RD.out.k kk)
    replace RF := Lib.hid (RF.out.k kk)
    replace RV := Lib.hid (RV.out.k kk)
    clear kk
    clear p0 p1 e0 e1 e2
    have p0 := P.out.x0
    have p1 := P.out.x1
    have e0 := E.out.v0
    have e1 := E.out.v1
    have e2 := E.out.v2
    go_wp2_with fail
    refine (specTypeOfTop ds fs a0 n0 c0 a1 n1 c1 av nv cv vars x.op x.num x.kids ax nx cx _ _ _ _ _ RD.out RF.out RV.out (by omega) E.out.k).mono ?_
    rw [V.out]
    rintro e w3 ⟨rfl, kk⟩
    replace K := Lib.hid (K.out.trans kk)
    replace P := Lib.hid (P.out.k kk)
    replace E := Lib.hid (E.out.keep kk)
    replace RD := Lib.hid (RD.out.k kk)
    replace RF := Lib.hid (RF.out.k kk)
    replace RV := Lib.hid (RV.out.k kk)
    clear kk
    clear p0 p1 e0 e1 e2
    have tt : (T != T) = false := by simp
    have te : (T == T) = true := by simp
    by_cases h0 : T < 0
    · have p0 := P.out.x0
      have p1 := P.out.x1
      have e0 := E.out.v0
      have e1 := E.out.v1
      have e2 := E.out.v2
      go_wp2_with fail
      refine (specTypeOfTop ds fs a0 n0 c0 a1 n1 c1 av nv cv vars x.op x.num x.kids ax nx cx _ _ _ _ _ RD.out RF.out RV.out (by omega) E.out.k).mono ?_
      rw [V.out]
      rintro e w4 ⟨rfl, kk⟩
      replace K := Lib.hid (K.out.trans kk)
      replace P := Lib.hid (P.out.k kk)
      replace E := Lib.hid (E.out.keep kk)
      replace RD := Lib.hid (RD.out.k kk)
      replace RF := Lib.hid (RF.out.k kk)
      replace RV := Lib.hid (RV.out.k kk)
      clear kk
      clear p0 p1 e0 e1 e2
      go_wp2_with fail
      exact fin_ hQ ⟨rfl, K.out⟩
    · have HT0 : Hid (0 ≤ T) := by show _ ≤ _; omega
      have VN : Hid (nodesL x.kids = (nE x : Int)) := nodes_of_top (ds := ds) (fs := fs) (vars := vars) (by rw [VX.out]; exact HT0.out)
      have HN30 : Hid (nE x ≤ 30) := by show _ ≤ _; have := (typeTop_yes (ds := ds) (fs := fs) (vars := vars) (e := x) (by rw [VX.out]; exact HT0.out)).2.1; rw [nE_eq]; exact this
      obtain ⟨M, hM⟩ : ∃ M, M = nE x := ⟨_, rfl⟩
      have HM := Lib.hid hM
      rw [← hM] at VN HN30
      clear hM
      have hM30 : M ≤ 30 := HN30.out
      have hTn : ¬ T < 0 := by omega
      have hg1 : IntKind.i64.wrap (2 * (M : Int)) = 2 * (M : Int) := IntWalk.i64_in _ (by omega)
      have hg2 : IntKind.i64.wrap (2 * (M : Int) + 2) = 2 * (M : Int) + 2 := IntWalk.i64_in _ (by omega)
      have FX1 : Hid (allE fitN x) := by have h := FX.out; rw [expr_eta] at h; exact h
      by_cases hb : 2 * M + 2 ≤ 30
      case neg =>
        have hb2 : (30 : Int) < 2 * (M : Int) + 2 := by omega
        clear hb
        have p0 := P.out.x0
        have p1 := P.out.x1
        have e0 := E.out.v0
        have e1 := E.out.v1
        have e2 := E.out.v2
        go_wp2_with fail
        refine (implNodesOf x.op x.num x.kids ax nx cx _ _ E.out.k).mono ?_
        rw [VN.out]
        rintro e w4 ⟨rfl, kk⟩
        replace K := Lib.hid (K.out.trans kk)
        replace P := Lib.hid (P.out.k kk)
        replace E := Lib.hid (E.out.keep kk)
        replace RD := Lib.hid (RD.out.k kk)
        replace RF := Lib.hid (RF.out.k kk)
        replace RV := Lib.hid (RV.out.k kk)
        clear kk
        clear p0 p1 e0 e1 e2
        have p0 := P.out.x0
        have p1 := P.out.x1
        have e0 := E.out.v0
        have e1 := E.out.v1
        have e2 := E.out.v2
        go_wp2_with fail
        refine (specTypeOfTop ds fs a0 n0 c0 a1 n1 c1 av nv cv vars x.op x.num x.kids ax nx cx _ _ _ _ _ RD.out RF.out RV.out (by omega) E.out.k).mono ?_
        rw [V.out]
        rintro e w5 ⟨rfl, kk⟩
        replace K := Lib.hid (K.out.trans kk)
        replace P := Lib.hid (P.out.k kk)
        replace E := Lib.hid (E.out.keep kk)
        replace RD := Lib.hid (RD.out.k kk)
        replace RF := Lib.hid (RF.out.k kk)
        replace RV := Lib.hid (RV.out.k kk)
        clear kk
        clear p0 p1 e0 e1 e2
        go_wp2_with fail
        exact fin_ hQ ⟨rfl, K.out⟩
      have hb2 : ¬ (30 : Int) < 2 * (M : Int) + 2 := by omega
      have VT : Hid (typeTop ds fs vars (.mk 7 0 [.mk 0 1 [], x, x]) = T) := by
        show _ = _
        exact top_if VX.out HT0.out (by have := HM.out; omega)
      have FT : Hid (allE fitN (.mk 7 0 [.mk 0 1 [], x, x])) := ⟨⟨by omega, by omega⟩, ⟨⟨by omega, by omega⟩, trivial⟩, FX1.out, FX1.out, trivial⟩
      have p0 := P.out.x0
      have p1 := P.out.x1
      have e0 := E.out.v0
      have e1 := E.out.v1
      have e2 := E.out.v2
      go_wp2_with fail
      refine (implNodesOf x.op x.num x.kids ax nx cx _ _ E.out.k).mono ?_
      rw [VN.out]
      rintro e w4 ⟨rfl, kk⟩
      replace K := Lib.hid (K.out.trans kk)
      replace P := Lib.hid (P.out.k kk)
      replace E := Lib.hid (E.out.keep kk)
      replace RD := Lib.hid (RD.out.k kk)
      replace RF := Lib.hid (RF.out.k kk)
      replace RV := Lib.hid (RV.out.k kk)
      clear kk
      clear p0 p1 e0 e1 e2
      go_upto_region 7 with fail
      go_cut [7] (fun sv wx => ∃ (s7 : Nat) (al : Option Addr) (nl cl : Nat), sv = .pointer (some ⟨s7, 0, none⟩) ∧ Hid (Keep w wx) ∧ Hid (Px wx s (.slice a0 n0 c0) (.slice a1 n1 c1)) ∧ Hid (Ev wx (s + 1) (fun _ => True) x ax nx cx) ∧ Hid (Rd wx (fun _ => True) (encDecls ds) (.slice a0 n0 c0)) ∧ Hid (Rd wx (fun _ => True) (encFuncs fs) (.slice a1 n1 c1)) ∧ Hid (Rd wx (fun _ => True) (encInts vars) (.slice av nv cv)) ∧ Hid (Ev wx s7 (fun _ => True) (.mk 7 0 [.mk 0 1 [], x, x]) al nl cl))
      case first =>
        obtain ⟨B0, hB0⟩ : ∃ B, B = w4.heap.size := ⟨_, rfl⟩
        have QD := Lib.hid RD.out.lt
        have QF := Lib.hid RF.out.lt
        have QV := Lib.hid RV.out.lt
        have RK : Hid (Rd w4 (fun k => k < B0) (encExprs x.kids) (.slice ax nx cx)) := by
          rw [hB0]
          exact E.out.k.lt.mono (fun k hk => hk.2)
        have hsB : s + 1 < B0 := by rw [hB0]; exact E.out.lt
        have HB0 : Hid (w.heap.size ≤ B0) := by show _ ≤ _; rw [hB0]; exact K.out.size
        rw [← hB0] at QD QF QV
        have hBW : B0 ≤ w4.drew.heap.size := by rw [hB0]; exact Nat.le_refl _
        clear hB0
        have KD : Keep w4 w4.drew := (Ext.refl (fun _ => False) w4).drew
        have KW := Lib.hid (K.out.trans KD)
        replace P := Lib.hid (P.out.k KD)
        replace E := Lib.hid (E.out.keep KD)
        replace QD := Lib.hid (QD.out.k KD)
        replace QF := Lib.hid (QF.out.k KD)
        replace QV := Lib.hid (QV.out.k KD)
        replace RK := Lib.hid (RK.out.k KD)
        clear KD
        have e0 : w4.drew.cell? ⟨s + 1, 0, none⟩ = some (.int .i64 x.op) := E.out.v0
        have e1 : w4.drew.cell? ⟨s + 1, 1, none⟩ = some (.int .i64 x.num) := E.out.v1
        have e2 : w4.drew.cell? ⟨s + 1, 2, none⟩ = some (.slice ax nx cx) := E.out.v2
        refine wp_region_held_drew (S := fun w' => w'.cell? ⟨s + 1, 0, none⟩ = some (.int .i64 x.op) ∧ w'.cell? ⟨s + 1, 1, none⟩ = some (.int .i64 x.num) ∧ w'.cell? ⟨s + 1, 2, none⟩ = some (.slice ax nx cx)) (by kernel_rfl) ⟨e0, e1, e2⟩ (fun hHeld => ?_)
        have pc : Hid (Keep w4.drew w4.drew) := Ext.refl _ _
        generalize w4.drew = W0 at *
        refine wT 1 hHeld ?_
        try go_frame
        refine wT 2 hHeld ?_
        try go_frame
        refine wpAnyH_ready (rs := [0, 5]) (by kernel_rfl) (by simp) ?_
        refine allReadyH_consL rfl (by rfl) (fun K0 hK0 => ?_) (allReadyH_consL rfl (by rfl) (fun K0 hK0 => ?_) (AllReadyH.nil))
        · go_simp
          go_at_call 32
          refine (lawInteger 1 W0).mono ?_
          rintro e y1 ⟨rfl, kk⟩
          have hzy1 : W0.heap.size ≤ y1.heap.size := kk.size
          replace pc := Lib.hid (pc.out.trans kk)
          replace E := Lib.hid (E.out.keep kk)
          replace P := Lib.hid (P.out.k kk)
          replace QD := Lib.hid (QD.out.k kk)
          replace QF := Lib.hid (QF.out.k kk)
          replace QV := Lib.hid (QV.out.k kk)
          replace RK := Lib.hid (RK.out.k kk)
          clear kk
          refine hK0.out _ _ ⟨pc.out.cl e0 (fun h => h), pc.out.cl e1 (fun h => h), pc.out.cl e2 (fun h => h)⟩ (fun hHeld => ?_)
          clear hK0
          try go_frame
          refine wpAnyH_ready (rs := [3, 5]) (by kernel_rfl) (by simp) ?_
          refine allReadyH_consL rfl (by rfl) (fun K0 hK0 => ?_) (allReadyH_consL rfl (by rfl) (fun K0 hK0 => ?_) (AllReadyH.nil))
          · go_simp
            obtain ⟨sl, hsl⟩ : ∃ s, s = y1.heap.size := ⟨_, rfl⟩
            obtain ⟨y2, hW⟩ : ∃ N, N = y1.alloc (.cells #[.int .i64 0, .int .i64 1, .slice none 0 0, .int .i64 x.op, .int .i64 x.num, .slice ax nx cx, .int .i64 x.op, .int .i64 x.num, .slice ax nx cx] 53) := ⟨_, rfl⟩
            rw [← hsl, ← hW]
            have kk : Keep y1 y2 := by rw [hW]; exact Keep.al _ _
            have hbsl : sl + 1 ≤ y2.heap.size := by rw [hW, hsl]; exact Nat.le_of_eq (World.size_alloc _ _).symm
            have hasl : y1.heap.size ≤ sl := Nat.le_of_eq hsl.symm
            have LA : Hid (Rd y2 (fun k => k < B0 ∨ k = sl) (encExprs [.mk 0 1 [], x, x]) (.slice (some ⟨sl, 0, none⟩) 3 3)) := by
              rw [hW, hsl]
              exact lit_expr3 y1 (fun k => k < B0 ∨ k = y1.heap.size) 53 (.mk 0 1 []) x x none 0 0 ax nx cx ax nx cx (.inr rfl) (.nil 3 _ _) (RK.out.mono (fun k hk => .inl hk)) (RK.out.mono (fun k hk => .inl hk))
            replace pc := Lib.hid (pc.out.trans kk)
            replace E := Lib.hid (E.out.keep kk)
            replace P := Lib.hid (P.out.k kk)
            replace QD := Lib.hid (QD.out.k kk)
            replace QF := Lib.hid (QF.out.k kk)
            replace QV := Lib.hid (QV.out.k kk)
            replace RK := Lib.hid (RK.out.k kk)
            clear kk hW hsl
            refine hK0.out _ _ ⟨pc.out.cl e0 (fun h => h), pc.out.cl e1 (fun h => h), pc.out.cl e2 (fun h => h)⟩ (fun hHeld => ?_)
            clear hK0
            try go_frame
            refine wpAnyH_ready (rs := [4, 5]) (by kernel_rfl) (by simp) ?_
            refine allReadyH_consL rfl (by rfl) (fun K0 hK0 => ?_) (allReadyH_consL rfl (by rfl) (fun K0 hK0 => ?_) (AllReadyH.nil))
            · go_simp
              go_at_call 27
              refine (lawNode 7 _ _ _ y2).mono ?_
              rintro e y3 ⟨rfl, kk⟩
              have hzy3 : y2.heap.size ≤ y3.heap.size := kk.size
              replace pc := Lib.hid (pc.out.trans kk)
              replace E := Lib.hid (E.out.keep kk)
              replace P := Lib.hid (P.out.k kk)
              replace QD := Lib.hid (QD.out.k kk)
              replace QF := Lib.hid (QF.out.k kk)
              replace QV := Lib.hid (QV.out.k kk)
              replace RK := Lib.hid (RK.out.k kk)
              replace LA := Lib.hid (LA.out.k kk)
              clear kk
              refine hK0.out _ _ ⟨pc.out.cl e0 (fun h => h), pc.out.cl e1 (fun h => h), pc.out.cl e2 (fun h => h)⟩ (fun hHeld => ?_)
              clear hK0
              try go_frame
              refine wO 5 (fun K0 hK0 => ?_)
              go_simp
              obtain ⟨s7, hs7⟩ : ∃ s, s = y3.heap.size := ⟨_, rfl⟩
              obtain ⟨y4, hW⟩ : ∃ N, N = y3.alloc (.cells #[.int .i64 0, .int .i64 0, .slice none 0 0] 53) := ⟨_, rfl⟩
              rw [← hs7, ← hW]
              have kk : Keep y3 y4 := by rw [hW]; exact Keep.al _ _
              have hbs7 : s7 + 1 ≤ y4.heap.size := by rw [hW, hs7]; exact Nat.le_of_eq (World.size_alloc _ _).symm
              have has7 : y3.heap.size ≤ s7 := Nat.le_of_eq hs7.symm
              have EZ : Hid (Ev y4 s7 (fun _ => False) (.mk 0 0 []) none 0 0) := by
                rw [hW, hs7]
                exact Ev.born y3 (fun _ => False) (.mk 0 0 []) none 0 0 (.nil 3 _ _)
              replace pc := Lib.hid (pc.out.trans kk)
              replace E := Lib.hid (E.out.keep kk)
              replace P := Lib.hid (P.out.k kk)
              replace QD := Lib.hid (QD.out.k kk)
              replace QF := Lib.hid (QF.out.k kk)
              replace QV := Lib.hid (QV.out.k kk)
              replace RK := Lib.hid (RK.out.k kk)
              replace LA := Lib.hid (LA.out.k kk)
              clear kk hW hs7
              refine hK0.out _ _ ⟨pc.out.cl e0 (fun h => h), pc.out.cl e1 (fun h => h), pc.out.cl e2 (fun h => h)⟩ (fun hHeld => ?_)
              clear hK0
              try go_frame
              refine wO 6 (fun K0 hK0 => ?_)
              have hs7 : s + 1 ≠ s7 := by omega
              have hsl : sl ≠ s7 := by omega
              have c0 := EZ.out.v0
              have c1 := EZ.out.v1
              have c2 := EZ.out.v2
              have g0 := EZ.out.g0
              have g1 := EZ.out.g1
              have g2 := EZ.out.g2
              go_simp
              clear c0 c1 c2 g0 g1 g2
              have Y := Lib.hid (ext3 y4 s7 (.int .i64 7) (.int .i64 0) (.slice (some ⟨sl, 0, none⟩) 3 3))
              refine hK0.out _ _ ⟨at_set3 (pc.out.cl e0 (fun h => h)) hs7, at_set3 (pc.out.cl e1 (fun h => h)) hs7, at_set3 (pc.out.cl e2 (fun h => h)) hs7⟩ (fun hHeld => ?_)
              clear hK0
              try go_frame
              refine wpAnyH_done (by kernel_rfl) ?_ _
              go_wp2_with fail
              go_meet
              case rel => exact ⟨s7, some ⟨sl, 0, none⟩, 3, 3, rfl, KW.out.trans (pc.out.then_ (S := fun _ => False) Y.out (fun i hi e => by have e2 : i = s7 := e; have h3 := HB0.out; omega)), P.out.e Y.out (by have := P.out.lt; omega), ((Ev.mono (D' := fun k => k < B0) ⟨E.out.r, RK.out⟩ (fun k hk => hk)).ext Y.out (by omega) (fun k hk h => by have e2 : k = s7 := h; omega)).mono (fun _ _ => trivial), (QD.out.ext Y.out (fun k hk h => by have e2 : k = s7 := h; omega)).mono (fun _ _ => trivial), (QF.out.ext Y.out (fun k hk h => by have e2 : k = s7 := h; omega)).mono (fun _ _ => trivial), (QV.out.ext Y.out (fun k hk h => by have e2 : k = s7 := h; omega)).mono (fun _ _ => trivial), (EZ.out.store (y := .mk 7 0 [.mk 0 1 [], x, x]) LA.out (fun k hk => by omega)).mono (fun _ _ => trivial)⟩
            · go_simp
              obtain ⟨s7, hs7⟩ : ∃ s, s = y2.heap.size := ⟨_, rfl⟩
              obtain ⟨y3, hW⟩ : ∃ N, N = y2.alloc (.cells #[.int .i64 0, .int .i64 0, .slice none 0 0] 53) := ⟨_, rfl⟩
              rw [← hs7, ← hW]
              have kk : Keep y2 y3 := by rw [hW]; exact Keep.al _ _
              have hbs7 : s7 + 1 ≤ y3.heap.size := by rw [hW, hs7]; exact Nat.le_of_eq (World.size_alloc _ _).symm
              have has7 : y2.heap.size ≤ s7 := Nat.le_of_eq hs7.symm
              have EZ : Hid (Ev y3 s7 (fun _ => False) (.mk 0 0 []) none 0 0) := by
                rw [hW, hs7]
                exact Ev.born y2 (fun _ => False) (.mk 0 0 []) none 0 0 (.nil 3 _ _)
              replace pc := Lib.hid (pc.out.trans kk)
              replace E := Lib.hid (E.out.keep kk)
              replace P := Lib.hid (P.out.k kk)
              replace QD := Lib.hid (QD.out.k kk)
              replace QF := Lib.hid (QF.out.k kk)
              replace QV := Lib.hid (QV.out.k kk)
              replace RK := Lib.hid (RK.out.k kk)
              replace LA := Lib.hid (LA.out.k kk)
              clear kk hW hs7
              refine hK0.out _ _ ⟨pc.out.cl e0 (fun h => h), pc.out.cl e1 (fun h => h), pc.out.cl e2 (fun h => h)⟩ (fun hHeld => ?_)
              clear hK0
              try go_frame
              refine wO 4 (fun K0 hK0 => ?_)
              go_simp
              go_at_call 27
              refine (lawNode 7 _ _ _ y3).mono ?_
              rintro e y4 ⟨rfl, kk⟩
              have hzy4 : y3.heap.size ≤ y4.heap.size := kk.size
              replace pc := Lib.hid (pc.out.trans kk)
              replace E := Lib.hid (E.out.keep kk)
              replace P := Lib.hid (P.out.k kk)
              replace QD := Lib.hid (QD.out.k kk)
              replace QF := Lib.hid (QF.out.k kk)
              replace QV := Lib.hid (QV.out.k kk)
              replace RK := Lib.hid (RK.out.k kk)
              replace LA := Lib.hid (LA.out.k kk)
              replace EZ := Lib.hid (EZ.out.keep kk)
              clear kk
              refine hK0.out _ _ ⟨pc.out.cl e0 (fun h => h), pc.out.cl e1 (fun h => h), pc.out.cl e2 (fun h => h)⟩ (fun hHeld => ?_)
              clear hK0
              try go_frame
              refine wO 6 (fun K0 hK0 => ?_)
              have hs7 : s + 1 ≠ s7 := by omega
              have hsl : sl ≠ s7 := by omega
              have c0 := EZ.out.v0
              have c1 := EZ.out.v1
              have c2 := EZ.out.v2
              have g0 := EZ.out.g0
              have g1 := EZ.out.g1
              have g2 := EZ.out.g2
              go_simp
              clear c0 c1 c2 g0 g1 g2
              have Y := Lib.hid (ext3 y4 s7 (.int .i64 7) (.int .i64 0) (.slice (some ⟨sl, 0, none⟩) 3 3))
              refine hK0.out _ _ ⟨at_set3 (pc.out.cl e0 (fun h => h)) hs7, at_set3 (pc.out.cl e1 (fun h => h)) hs7, at_set3 (pc.out.cl e2 (fun h => h)) hs7⟩ (fun hHeld => ?_)
              clear hK0
              try go_frame
              refine wpAnyH_done (by kernel_rfl) ?_ _
              go_wp2_with fail
              go_meet
              case rel => exact ⟨s7, some ⟨sl, 0, none⟩, 3, 3, rfl, KW.out.trans (pc.out.then_ (S := fun _ => False) Y.out (fun i hi e => by have e2 : i = s7 := e; have h3 := HB0.out; omega)), P.out.e Y.out (by have := P.out.lt; omega), ((Ev.mono (D' := fun k => k < B0) ⟨E.out.r, RK.out⟩ (fun k hk => hk)).ext Y.out (by omega) (fun k hk h => by have e2 : k = s7 := h; omega)).mono (fun _ _ => trivial), (QD.out.ext Y.out (fun k hk h => by have e2 : k = s7 := h; omega)).mono (fun _ _ => trivial), (QF.out.ext Y.out (fun k hk h => by have e2 : k = s7 := h; omega)).mono (fun _ _ => trivial), (QV.out.ext Y.out (fun k hk h => by have e2 : k = s7 := h; omega)).mono (fun _ _ => trivial), (EZ.out.store (y := .mk 7 0 [.mk 0 1 [], x, x]) LA.out (fun k hk => by omega)).mono (fun _ _ => trivial)⟩
          · go_simp
            obtain ⟨s7, hs7⟩ : ∃ s, s = y1.heap.size := ⟨_, rfl⟩
            obtain ⟨y2, hW⟩ : ∃ N, N = y1.alloc (.cells #[.int .i64 0, .int .i64 0, .slice none 0 0] 53) := ⟨_, rfl⟩
            rw [← hs7, ← hW]
            have kk : Keep y1 y2 := by rw [hW]; exact Keep.al _ _
            have hbs7 : s7 + 1 ≤ y2.heap.size := by rw [hW, hs7]; exact Nat.le_of_eq (World.size_alloc _ _).symm
            have has7 : y1.heap.size ≤ s7 := Nat.le_of_eq hs7.symm
            have EZ : Hid (Ev y2 s7 (fun _ => False) (.mk 0 0 []) none 0 0) := by
              rw [hW, hs7]
              exact Ev.born y1 (fun _ => False) (.mk 0 0 []) none 0 0 (.nil 3 _ _)
            replace pc := Lib.hid (pc.out.trans kk)
            replace E := Lib.hid (E.out.keep kk)
            replace P := Lib.hid (P.out.k kk)
            replace QD := Lib.hid (QD.out.k kk)
            replace QF := Lib.hid (QF.out.k kk)
            replace QV := Lib.hid (QV.out.k kk)
            replace RK := Lib.hid (RK.out.k kk)
            clear kk hW hs7
            refine hK0.out _ _ ⟨pc.out.cl e0 (fun h => h), pc.out.cl e1 (fun h => h), pc.out.cl e2 (fun h => h)⟩ (fun hHeld => ?_)
            clear hK0
            try go_frame
            refine wO 3 (fun K0 hK0 => ?_)
            go_simp
            obtain ⟨sl, hsl⟩ : ∃ s, s = y2.heap.size := ⟨_, rfl⟩
            obtain ⟨y3, hW⟩ : ∃ N, N = y2.alloc (.cells #[.int .i64 0, .int .i64 1, .slice none 0 0, .int .i64 x.op, .int .i64 x.num, .slice ax nx cx, .int .i64 x.op, .int .i64 x.num, .slice ax nx cx] 53) := ⟨_, rfl⟩
            rw [← hsl, ← hW]
            have kk : Keep y2 y3 := by rw [hW]; exact Keep.al _ _
            have hbsl : sl + 1 ≤ y3.heap.size := by rw [hW, hsl]; exact Nat.le_of_eq (World.size_alloc _ _).symm
            have hasl : y2.heap.size ≤ sl := Nat.le_of_eq hsl.symm
            have LA : Hid (Rd y3 (fun k => k < B0 ∨ k = sl) (encExprs [.mk 0 1 [], x, x]) (.slice (some ⟨sl, 0, none⟩) 3 3)) := by
              rw [hW, hsl]
              exact lit_expr3 y2 (fun k => k < B0 ∨ k = y2.heap.size) 53 (.mk 0 1 []) x x none 0 0 ax nx cx ax nx cx (.inr rfl) (.nil 3 _ _) (RK.out.mono (fun k hk => .inl hk)) (RK.out.mono (fun k hk => .inl hk))
            replace pc := Lib.hid (pc.out.trans kk)
            replace E := Lib.hid (E.out.keep kk)
            replace P := Lib.hid (P.out.k kk)
            replace QD := Lib.hid (QD.out.k kk)
            replace QF := Lib.hid (QF.out.k kk)
            replace QV := Lib.hid (QV.out.k kk)
            replace RK := Lib.hid (RK.out.k kk)
            replace EZ := Lib.hid (EZ.out.keep kk)
            clear kk hW hsl
            refine hK0.out _ _ ⟨pc.out.cl e0 (fun h => h), pc.out.cl e1 (fun h => h), pc.out.cl e2 (fun h => h)⟩ (fun hHeld => ?_)
            clear hK0
            try go_frame
            refine wO 4 (fun K0 hK0 => ?_)
            go_simp
            go_at_call 27
            refine (lawNode 7 _ _ _ y3).mono ?_
            rintro e y4 ⟨rfl, kk⟩
            have hzy4 : y3.heap.size ≤ y4.heap.size := kk.size
            replace pc := Lib.hid (pc.out.trans kk)
            replace E := Lib.hid (E.out.keep kk)
            replace P := Lib.hid (P.out.k kk)
            replace QD := Lib.hid (QD.out.k kk)
            replace QF := Lib.hid (QF.out.k kk)
            replace QV := Lib.hid (QV.out.k kk)
            replace RK := Lib.hid (RK.out.k kk)
            replace EZ := Lib.hid (EZ.out.keep kk)
            replace LA := Lib.hid (LA.out.k kk)
            clear kk
            refine hK0.out _ _ ⟨pc.out.cl e0 (fun h => h), pc.out.cl e1 (fun h => h), pc.out.cl e2 (fun h => h)⟩ (fun hHeld => ?_)
            clear hK0
            try go_frame
            refine wO 6 (fun K0 hK0 => ?_)
            have hs7 : s + 1 ≠ s7 := by omega
            have hsl : sl ≠ s7 := by omega
            have c0 := EZ.out.v0
            have c1 := EZ.out.v1
            have c2 := EZ.out.v2
            have g0 := EZ.out.g0
            have g1 := EZ.out.g1
            have g2 := EZ.out.g2
            go_simp
            clear c0 c1 c2 g0 g1 g2
            have Y := Lib.hid (ext3 y4 s7 (.int .i64 7) (.int .i64 0) (.slice (some ⟨sl, 0, none⟩) 3 3))
            refine hK0.out _ _ ⟨at_set3 (pc.out.cl e0 (fun h => h)) hs7, at_set3 (pc.out.cl e1 (fun h => h)) hs7, at_set3 (pc.out.cl e2 (fun h => h)) hs7⟩ (fun hHeld => ?_)
            clear hK0
            try go_frame
            refine wpAnyH_done (by kernel_rfl) ?_ _
            go_wp2_with fail
            go_meet
            case rel => exact ⟨s7, some ⟨sl, 0, none⟩, 3, 3, rfl, KW.out.trans (pc.out.then_ (S := fun _ => False) Y.out (fun i hi e => by have e2 : i = s7 := e; have h3 := HB0.out; omega)), P.out.e Y.out (by have := P.out.lt; omega), ((Ev.mono (D' := fun k => k < B0) ⟨E.out.r, RK.out⟩ (fun k hk => hk)).ext Y.out (by omega) (fun k hk h => by have e2 : k = s7 := h; omega)).mono (fun _ _ => trivial), (QD.out.ext Y.out (fun k hk h => by have e2 : k = s7 := h; omega)).mono (fun _ _ => trivial), (QF.out.ext Y.out (fun k hk h => by have e2 : k = s7 := h; omega)).mono (fun _ _ => trivial), (QV.out.ext Y.out (fun k hk h => by have e2 : k = s7 := h; omega)).mono (fun _ _ => trivial), (EZ.out.store (y := .mk 7 0 [.mk 0 1 [], x, x]) LA.out (fun k hk => by omega)).mono (fun _ _ => trivial)⟩
        · go_simp
          obtain ⟨s7, hs7⟩ : ∃ s, s = W0.heap.size := ⟨_, rfl⟩
          obtain ⟨y1, hW⟩ : ∃ N, N = W0.alloc (.cells #[.int .i64 0, .int .i64 0, .slice none 0 0] 53) := ⟨_, rfl⟩
          rw [← hs7, ← hW]
          have kk : Keep W0 y1 := by rw [hW]; exact Keep.al _ _
          have hbs7 : s7 + 1 ≤ y1.heap.size := by rw [hW, hs7]; exact Nat.le_of_eq (World.size_alloc _ _).symm
          have has7 : W0.heap.size ≤ s7 := Nat.le_of_eq hs7.symm
          have EZ : Hid (Ev y1 s7 (fun _ => False) (.mk 0 0 []) none 0 0) := by
            rw [hW, hs7]
            exact Ev.born W0 (fun _ => False) (.mk 0 0 []) none 0 0 (.nil 3 _ _)
          replace pc := Lib.hid (pc.out.trans kk)
          replace E := Lib.hid (E.out.keep kk)
          replace P := Lib.hid (P.out.k kk)
          replace QD := Lib.hid (QD.out.k kk)
          replace QF := Lib.hid (QF.out.k kk)
          replace QV := Lib.hid (QV.out.k kk)
          replace RK := Lib.hid (RK.out.k kk)
          clear kk hW hs7
          refine hK0.out _ _ ⟨pc.out.cl e0 (fun h => h), pc.out.cl e1 (fun h => h), pc.out.cl e2 (fun h => h)⟩ (fun hHeld => ?_)
          clear hK0
          try go_frame
          refine wO 0 (fun K0 hK0 => ?_)
          go_simp
          go_at_call 32
          refine (lawInteger 1 y1).mono ?_
          rintro e y2 ⟨rfl, kk⟩
          have hzy2 : y1.heap.size ≤ y2.heap.size := kk.size
          replace pc := Lib.hid (pc.out.trans kk)
          replace E := Lib.hid (E.out.keep kk)
          replace P := Lib.hid (P.out.k kk)
          replace QD := Lib.hid (QD.out.k kk)
          replace QF := Lib.hid (QF.out.k kk)
          replace QV := Lib.hid (QV.out.k kk)
          replace RK := Lib.hid (RK.out.k kk)
          replace EZ := Lib.hid (EZ.out.keep kk)
          clear kk
          refine hK0.out _ _ ⟨pc.out.cl e0 (fun h => h), pc.out.cl e1 (fun h => h), pc.out.cl e2 (fun h => h)⟩ (fun hHeld => ?_)
          clear hK0
          try go_frame
          refine wO 3 (fun K0 hK0 => ?_)
          go_simp
          obtain ⟨sl, hsl⟩ : ∃ s, s = y2.heap.size := ⟨_, rfl⟩
          obtain ⟨y3, hW⟩ : ∃ N, N = y2.alloc (.cells #[.int .i64 0, .int .i64 1, .slice none 0 0, .int .i64 x.op, .int .i64 x.num, .slice ax nx cx, .int .i64 x.op, .int .i64 x.num, .slice ax nx cx] 53) := ⟨_, rfl⟩
          rw [← hsl, ← hW]
          have kk : Keep y2 y3 := by rw [hW]; exact Keep.al _ _
          have hbsl : sl + 1 ≤ y3.heap.size := by rw [hW, hsl]; exact Nat.le_of_eq (World.size_alloc _ _).symm
          have hasl : y2.heap.size ≤ sl := Nat.le_of_eq hsl.symm
          have LA : Hid (Rd y3 (fun k => k < B0 ∨ k = sl) (encExprs [.mk 0 1 [], x, x]) (.slice (some ⟨sl, 0, none⟩) 3 3)) := by
            rw [hW, hsl]
            exact lit_expr3 y2 (fun k => k < B0 ∨ k = y2.heap.size) 53 (.mk 0 1 []) x x none 0 0 ax nx cx ax nx cx (.inr rfl) (.nil 3 _ _) (RK.out.mono (fun k hk => .inl hk)) (RK.out.mono (fun k hk => .inl hk))
          replace pc := Lib.hid (pc.out.trans kk)
          replace E := Lib.hid (E.out.keep kk)
          replace P := Lib.hid (P.out.k kk)
          replace QD := Lib.hid (QD.out.k kk)
          replace QF := Lib.hid (QF.out.k kk)
          replace QV := Lib.hid (QV.out.k kk)
          replace RK := Lib.hid (RK.out.k kk)
          replace EZ := Lib.hid (EZ.out.keep kk)
          clear kk hW hsl
          refine hK0.out _ _ ⟨pc.out.cl e0 (fun h => h), pc.out.cl e1 (fun h => h), pc.out.cl e2 (fun h => h)⟩ (fun hHeld => ?_)
          clear hK0
          try go_frame
          refine wO 4 (fun K0 hK0 => ?_)
          go_simp
          go_at_call 27
          refine (lawNode 7 _ _ _ y3).mono ?_
          rintro e y4 ⟨rfl, kk⟩
          have hzy4 : y3.heap.size ≤ y4.heap.size := kk.size
          replace pc := Lib.hid (pc.out.trans kk)
          replace E := Lib.hid (E.out.keep kk)
          replace P := Lib.hid (P.out.k kk)
          replace QD := Lib.hid (QD.out.k kk)
          replace QF := Lib.hid (QF.out.k kk)
          replace QV := Lib.hid (QV.out.k kk)
          replace RK := Lib.hid (RK.out.k kk)
          replace EZ := Lib.hid (EZ.out.keep kk)
          replace LA := Lib.hid (LA.out.k kk)
          clear kk
          refine hK0.out _ _ ⟨pc.out.cl e0 (fun h => h), pc.out.cl e1 (fun h => h), pc.out.cl e2 (fun h => h)⟩ (fun hHeld => ?_)
          clear hK0
          try go_frame
          refine wO 6 (fun K0 hK0 => ?_)
          have hs7 : s + 1 ≠ s7 := by omega
          have hsl : sl ≠ s7 := by omega
          have c0 := EZ.out.v0
          have c1 := EZ.out.v1
          have c2 := EZ.out.v2
          have g0 := EZ.out.g0
          have g1 := EZ.out.g1
          have g2 := EZ.out.g2
          go_simp
          clear c0 c1 c2 g0 g1 g2
          have Y := Lib.hid (ext3 y4 s7 (.int .i64 7) (.int .i64 0) (.slice (some ⟨sl, 0, none⟩) 3 3))
          refine hK0.out _ _ ⟨at_set3 (pc.out.cl e0 (fun h => h)) hs7, at_set3 (pc.out.cl e1 (fun h => h)) hs7, at_set3 (pc.out.cl e2 (fun h => h)) hs7⟩ (fun hHeld => ?_)
          clear hK0
          try go_frame
          refine wpAnyH_done (by kernel_rfl) ?_ _
          go_wp2_with fail
          go_meet
          case rel => exact ⟨s7, some ⟨sl, 0, none⟩, 3, 3, rfl, KW.out.trans (pc.out.then_ (S := fun _ => False) Y.out (fun i hi e => by have e2 : i = s7 := e; have h3 := HB0.out; omega)), P.out.e Y.out (by have := P.out.lt; omega), ((Ev.mono (D' := fun k => k < B0) ⟨E.out.r, RK.out⟩ (fun k hk => hk)).ext Y.out (by omega) (fun k hk h => by have e2 : k = s7 := h; omega)).mono (fun _ _ => trivial), (QD.out.ext Y.out (fun k hk h => by have e2 : k = s7 := h; omega)).mono (fun _ _ => trivial), (QF.out.ext Y.out (fun k hk h => by have e2 : k = s7 := h; omega)).mono (fun _ _ => trivial), (QV.out.ext Y.out (fun k hk h => by have e2 : k = s7 := h; omega)).mono (fun _ _ => trivial), (EZ.out.store (y := .mk 7 0 [.mk 0 1 [], x, x]) LA.out (fun k hk => by omega)).mono (fun _ _ => trivial)⟩
      case rest =>
      clear K P E RD RF RV
      obtain ⟨s7, al, nl, cl, rfl, K, P, E, RD, RF, RV, S⟩ := hcut
      have p0 := P.out.x0
      have p1 := P.out.x1
      have s0 : wc.cell? ⟨s7, 0, none⟩ = some (.int .i64 7) := S.out.v0
      have s1 : wc.cell? ⟨s7, 1, none⟩ = some (.int .i64 0) := S.out.v1
      have s2 := S.out.v2
      go_wp2_with fail
      refine (implTypeOfTop ds fs a0 n0 c0 a1 n1 c1 av nv cv vars 7 0 [.mk 0 1 [], x, x] _ _ _ _ _ _ _ _ RD.out RF.out RV.out (by omega) S.out.k FT.out).mono ?_
      rw [VT.out]
      rintro e w6 ⟨rfl, kk⟩
      replace K := Lib.hid (K.out.trans kk)
      replace P := Lib.hid (P.out.k kk)
      replace E := Lib.hid (E.out.keep kk)
      replace RD := Lib.hid (RD.out.k kk)
      replace RF := Lib.hid (RF.out.k kk)
      replace RV := Lib.hid (RV.out.k kk)
      clear kk p0 p1 s0 s1 s2 S
      by_cases hT0 : T = 0
      · have tz : (T == 0) = true := beq_iff_eq.2 hT0
        clear hT0
        go_wp2_with fail
        exact fin_ hQ ⟨rfl, K.out⟩
      have tz : (T == 0) = false := beq_eq_false_iff_ne.2 hT0
      have HTN := Lib.hid hT0
      clear hT0
      have e0 := E.out.v0
      have e1 := E.out.v1
      have e2 := E.out.v2
      go_wp2_with fail
      refine (implNodesOf x.op x.num x.kids ax nx cx _ _ E.out.k).mono ?_
      rw [VN.out]
      rintro e w7 ⟨rfl, kk⟩
      replace K := Lib.hid (K.out.trans kk)
      replace P := Lib.hid (P.out.k kk)
      replace E := Lib.hid (E.out.keep kk)
      replace RD := Lib.hid (RD.out.k kk)
      replace RF := Lib.hid (RF.out.k kk)
      replace RV := Lib.hid (RV.out.k kk)
      clear kk e0 e1 e2
      have hg3 : IntKind.i64.wrap (3 * (M : Int)) = 3 * (M : Int) := IntWalk.i64_in _ (by omega)
      have hg4 : IntKind.i64.wrap (3 * (M : Int) + 1) = 3 * (M : Int) + 1 := IntWalk.i64_in _ (by omega)
      by_cases hb3 : (30 : Int) < 3 * (M : Int) + 1
      · go_wp2_with fail
        exact fin_ hQ ⟨rfl, K.out⟩
      have VN3 : Hid (typeTop ds fs vars (.mk 7 0 [x, x, x]) = -1) := by
        show _ = _
        exact top_if_not VX.out HT0.out HTN.out (by have := HM.out; omega)
      have FN : Hid (allE fitN (.mk 7 0 [x, x, x])) := ⟨⟨by omega, by omega⟩, FX1.out, FX1.out, FX1.out, trivial⟩
      go_upto_region 12 with fail
      have KD : Keep w7 w7.drew := (Ext.refl (fun _ => False) w7).drew
      have KW := Lib.hid (K.out.trans KD)
      replace P := Lib.hid (P.out.k KD)
      replace E := Lib.hid (E.out.keep KD)
      replace RD := Lib.hid (RD.out.k KD)
      replace RF := Lib.hid (RF.out.k KD)
      replace RV := Lib.hid (RV.out.k KD)
      clear KD
      have p0 : w7.drew.cell? ⟨s, 0, none⟩ = some (.slice a0 n0 c0) := P.out.x0
      have p1 : w7.drew.cell? ⟨s, 1, none⟩ = some (.slice a1 n1 c1) := P.out.x1
      have e0 : w7.drew.cell? ⟨s + 1, 0, none⟩ = some (.int .i64 x.op) := E.out.v0
      have e1 : w7.drew.cell? ⟨s + 1, 1, none⟩ = some (.int .i64 x.num) := E.out.v1
      have e2 : w7.drew.cell? ⟨s + 1, 2, none⟩ = some (.slice ax nx cx) := E.out.v2
      refine wp_region_held_drew (S := fun w' => w'.cell? ⟨s, 0, none⟩ = some (.slice a0 n0 c0) ∧ w'.cell? ⟨s, 1, none⟩ = some (.slice a1 n1 c1) ∧ w'.cell? ⟨s + 1, 0, none⟩ = some (.int .i64 x.op) ∧ w'.cell? ⟨s + 1, 1, none⟩ = some (.int .i64 x.num) ∧ w'.cell? ⟨s + 1, 2, none⟩ = some (.slice ax nx cx)) (by kernel_rfl) ⟨p0, p1, e0, e1, e2⟩ (fun hHeld => ?_)
      have pc : Hid (Keep w7.drew w7.drew) := Ext.refl _ _
      generalize w7.drew = W0 at *
      refine wT 0 hHeld ?_
      try go_frame
      refine wT 1 hHeld ?_
      try go_frame
      refine wT 2 hHeld ?_
      try go_frame
      refine wT 3 hHeld ?_
      try go_frame
      refine wT 4 hHeld ?_
      try go_frame
      refine wO 5 (fun K0 hK0 => ?_)
      go_simp
      obtain ⟨sm, hsm⟩ : ∃ s, s = W0.heap.size := ⟨_, rfl⟩
      obtain ⟨y1, hW⟩ : ∃ N, N = W0.alloc (.cells #[.int .i64 x.op, .int .i64 x.num, .slice ax nx cx, .int .i64 x.op, .int .i64 x.num, .slice ax nx cx, .int .i64 x.op, .int .i64 x.num, .slice ax nx cx] 53) := ⟨_, rfl⟩
      rw [← hsm, ← hW]
      have kk : Keep W0 y1 := by rw [hW]; exact Keep.al _ _
      have hbsm : sm + 1 ≤ y1.heap.size := by rw [hW, hsm]; exact Nat.le_of_eq (World.size_alloc _ _).symm
      have hasm : W0.heap.size ≤ sm := Nat.le_of_eq hsm.symm
      have LB : Hid (Rd y1 (fun _ => True) (encExprs [x, x, x]) (.slice (some ⟨sm, 0, none⟩) 3 3)) := by
        rw [hW, hsm]
        exact lit_expr3 W0 (fun _ => True) 53 x x x ax nx cx ax nx cx ax nx cx trivial E.out.k E.out.k E.out.k
      replace pc := Lib.hid (pc.out.trans kk)
      replace E := Lib.hid (E.out.keep kk)
      replace P := Lib.hid (P.out.k kk)
      replace RD := Lib.hid (RD.out.k kk)
      replace RF := Lib.hid (RF.out.k kk)
      replace RV := Lib.hid (RV.out.k kk)
      clear kk hW hsm
      refine hK0.out _ _ ⟨pc.out.cl p0 (fun h => h), pc.out.cl p1 (fun h => h), pc.out.cl e0 (fun h => h), pc.out.cl e1 (fun h => h), pc.out.cl e2 (fun h => h)⟩ (fun hHeld => ?_)
      clear hK0
      try go_frame
      refine wO 6 (fun K0 hK0 => ?_)
      go_simp
      go_at_call 27
      refine (lawNode 7 _ _ _ y1).mono ?_
      rintro e y2 ⟨rfl, kk⟩
      have hzy2 : y1.heap.size ≤ y2.heap.size := kk.size
      replace pc := Lib.hid (pc.out.trans kk)
      replace E := Lib.hid (E.out.keep kk)
      replace P := Lib.hid (P.out.k kk)
      replace RD := Lib.hid (RD.out.k kk)
      replace RF := Lib.hid (RF.out.k kk)
      replace RV := Lib.hid (RV.out.k kk)
      replace LB := Lib.hid (LB.out.k kk)
      clear kk
      refine hK0.out _ _ ⟨pc.out.cl p0 (fun h => h), pc.out.cl p1 (fun h => h), pc.out.cl e0 (fun h => h), pc.out.cl e1 (fun h => h), pc.out.cl e2 (fun h => h)⟩ (fun hHeld => ?_)
      clear hK0
      try go_frame
      refine wO 7 (fun K0 hK0 => ?_)
      go_simp
      go_at_call 24
      refine (implTypeOfTop ds fs a0 n0 c0 a1 n1 c1 av nv cv vars 7 0 [x, x, x] _ _ _ _ _ _ _ y2 RD.out RF.out RV.out (by omega) LB.out FN.out).mono ?_
      rw [VN3.out]
      rintro e y3 ⟨rfl, kk⟩
      replace pc := Lib.hid (pc.out.trans kk)
      replace E := Lib.hid (E.out.keep kk)
      replace P := Lib.hid (P.out.k kk)
      replace RD := Lib.hid (RD.out.k kk)
      replace RF := Lib.hid (RF.out.k kk)
      replace RV := Lib.hid (RV.out.k kk)
      replace LB := Lib.hid (LB.out.k kk)
      clear kk
      refine hK0.out _ _ ⟨pc.out.cl p0 (fun h => h), pc.out.cl p1 (fun h => h), pc.out.cl e0 (fun h => h), pc.out.cl e1 (fun h => h), pc.out.cl e2 (fun h => h)⟩ (fun hHeld => ?_)
      clear hK0
      try go_frame
      refine wT 8 hHeld ?_
      try go_frame
      refine wT 9 hHeld ?_
      try go_frame
      refine wpAnyH_done (by kernel_rfl) ?_ _
      go_wp2_with fail
      exact fin_ hQ ⟨rfl, KW.out.trans pc.out⟩
  · go_enter Try.func6, Try.ntmps6
    go_wp2_with fail
    exact fin_ hQ ⟨rfl, Ext.refl _ _⟩
end Go.Proofs.Ytaeddcnakilnlaa
