/- The drawn law FnTypeOf: the walk. -/
import Derived.Test.YtaeddcnakilnlaaMT
import Derived.Test.YtaeddcnakilnlaaWGen25
import Derived.Test.YtaeddcnakilnlaaMZ
import Derived.Test.YtaeddcnakilnlaaWNodes
import Derived.Test.YtaeddcnakilnlaaMG
namespace Go.Proofs.Ytaeddcnakilnlaa
open Go.RowKit

mutual
theorem allE_and {P P' : Int → Int → Prop} : ∀ {e : ExprL}, allE P e → allE P' e → allE (fun op num => P op num ∧ P' op num) e
  | .mk _ _ _, h, h' => ⟨⟨h.1, h'.1⟩, allEs_and h.2 h'.2⟩
theorem allEs_and {P P' : Int → Int → Prop} : ∀ {es : List ExprL}, allEs P es → allEs P' es → allEs (fun op num => P op num ∧ P' op num) es
  | [], _, _ => trivial
  | _ :: _, h, h' => ⟨allE_and h.1 h'.1, allEs_and h.2 h'.2⟩
end
set_option maxRecDepth 100000 in
set_option maxHeartbeats 1000000 in
theorem fnTypeOf_walk (a : Option Addr) (len cap : Nat) (z : Nat → Int) (w : World) (h : Byt w a len z) (hlc : len ≤ cap) :
    Calls Try.prog 8 #[.slice a len cap] w fun e w' => e = .returned (.bool true) ∧ Keep w w' := by
  refine calls_k fun Q hQ => ?_
  by_cases hl : len ≤ 1048576
  · go_enter Try.func8, Try.ntmps8
    go_wp2_with fail
    refine (DrawTypeOf_any a len cap z w h hlc hl).mono ?_
    rintro e w1 ⟨ds, fs, a0, n0, c0, a1, n1, c1, vars, av, nv, cv, x, ax, nx, cx, rfl, r0, r1, rv, rx, hf, fx, hnv, k1⟩
    have KO := (Keep.al w1 (.cells #[.slice a0 n0 c0, .slice a1 n1 c1] 50)).trans (Keep.al _ (.cells #[.int .i64 x.op, .int .i64 x.num, .slice ax nx cx] 53))
    have K := Lib.hid (k1.trans KO)
    have P := Lib.hid ((Px.born w1 (.slice a0 n0 c0) (.slice a1 n1 c1)).k (Keep.al _ (.cells #[.int .i64 x.op, .int .i64 x.num, .slice ax nx cx] 53)))
    have hz1 : (w1.alloc (.cells #[.slice a0 n0 c0, .slice a1 n1 c1] 50)).heap.size = w1.heap.size + 1 := World.size_alloc _ _
    have E0 := Lib.hid (Ev.born (w1.alloc (.cells #[.slice a0 n0 c0, .slice a1 n1 c1] 50)) (fun _ => True) x ax nx cx ((rx.k (Keep.al w1 (.cells #[.slice a0 n0 c0, .slice a1 n1 c1] 50))).mono (fun _ _ => trivial)))
    have RD := Lib.hid (r0.k KO)
    have RF := Lib.hid (r1.k KO)
    have RV := Lib.hid (rv.k KO)
    have FX : Hid (allE fitN (.mk x.op x.num x.kids)) := by
      show allE _ _
      rw [expr_eta]; exact gfit_fit (by omega) x fx
    have HVL : Hid (vars.length = nv) := (ints_at rv).1
    clear h r0 r1 rv rx k1 KO hf fx
    go_upto_region 4 with fail
    replace E0 : Hid (Ev ((w1.alloc (.cells #[.slice a0 n0 c0, .slice a1 n1 c1] 50)).alloc (.cells #[.int .i64 x.op, .int .i64 x.num, .slice ax nx cx] 53)) (w1.heap.size + 1) (fun _ => True) x ax nx cx) := by rw [← hz1]; exact E0
    generalize hW : ((w1.alloc (.cells #[.slice a0 n0 c0, .slice a1 n1 c1] 50)).alloc (.cells #[.int .i64 x.op, .int .i64 x.num, .slice ax nx cx] 53)) = W at *
    clear hW hz1
    generalize hS : w1.heap.size = s at *
    clear hS
    have E := E0
    clear E0
    obtain ⟨T, hT⟩ : ∃ T, typeTop ds fs vars (.mk x.op x.num x.kids) = T := ⟨_, rfl⟩
    have V := Lib.hid hT
    rw [expr_eta] at hT
    have VX := Lib.hid hT
    clear hT
    have p0 := P.out.x0
    have p1 := P.out.x1
    have e0 := E.out.v0
    have e1 := E.out.v1
    have e2 := E.out.v2
    go_wp2_with fail
    refine (implTypeOfTop ds fs a0 n0 c0 a1 n1 c1 av nv cv vars x.op x.num x.kids ax nx cx _ _ _ _ _ RD.out RF.out RV.out (by omega) E.out.k FX.out).mono ?_
    rw [V.out]
    rintro e w2 ⟨rfl, kk⟩
    replace K := Lib.hid (K.out.trans kk)
    replace P := Lib.hid (P.out.k kk)
    replace E := Lib.hid (E.out.keep kk)
    replace RD := Lib.hid (RD.out.k kk)
    replace RF := Lib.hid (RF.out.k kk)
    replace RV := Lib.hid (RV.out.k kk)
    clear kk
    clear p0 p1 e0 e1 e2
    have p0 := P.out.x0
    have p1 := P.out.x1
    have e0 := E.out.v0
    have e1 := E.out.v1
    have e2 := E.out.v2
    go_wp2_with fail
    refine (specTypeOfTop ds fs a0 n0 c0 a1 n1 c1 av nv cv vars x.op x.num x.kids ax nx cx _ _ _ _ _ RD.out RF.out RV.out (by omega) E.out.k).mono ?_
    rw [V.out]
    rintro e w3 ⟨rfl, kk⟩
    replace K := Lib.hid (K.out.trans kk)
    replace P := Lib.hid (P.out.k kk)
    replace E := Lib.hid (E.out.keep kk)
    replace RD := Lib.hid (RD.out.k kk)
    replace RF := Lib.hid (RF.out.k kk)
    replace RV := Lib.hid (RV.out.k kk)
    clear kk
    clear p0 p1 e0 e1 e2
    have tt : (T != T) = false := by simp
    have te : (T == T) = true := by simp
    by_cases h0 : T < 0
    · have p0 := P.out.x0
      have p1 := P.out.x1
      have e0 := E.out.v0
      have e1 := E.out.v1
      have e2 := E.out.v2
      go_wp2_with fail
      refine (specTypeOfTop ds fs a0 n0 c0 a1 n1 c1 av nv cv vars x.op x.num x.kids ax nx cx _ _ _ _ _ RD.out RF.out RV.out (by omega) E.out.k).mono ?_
      rw [V.out]
      rintro e w4 ⟨rfl, kk⟩
      replace K := Lib.hid (K.out.trans kk)
      replace P := Lib.hid (P.out.k kk)
      replace E := Lib.hid (E.out.keep kk)
      replace RD := Lib.hid (RD.out.k kk)
      replace RF := Lib.hid (RF.out.k kk)
      replace RV := Lib.hid (RV.out.k kk)
      clear kk
      clear p0 p1 e0 e1 e2
      go_wp2_with fail
      exact fin_ hQ ⟨rfl, K.out⟩
    · have HT0 : Hid (0 ≤ T) := by show _ ≤ _; omega
      have hTn : ¬ T < 0 := by omega
      have HD0 : Hid (ds.length = n0) := (decls_at RD.out).1
      have hle : T ≤ (n0 : Int) := by
        have h := typeTop_range (ds := ds) (fs := fs) (vars := vars) (e := x) (by rw [VX.out]; exact HT0.out)
        rw [VX.out] at h
        have := HD0.out; omega
      have HTY := Lib.hid (typeTop_yes (ds := ds) (fs := fs) (vars := vars) (e := x) (by rw [VX.out]; exact HT0.out))
      obtain ⟨S, hS⟩ : ∃ S, S = shR (nv : Int) 1 x.op x.num x.kids := ⟨_, rfl⟩
      have HVF : Hid (vfE x = true) := top_vars (ds := ds) (fs := fs) (vars := vars) (by rw [VX.out]; exact HT0.out) (by have := HVL.out; omega)
      have VO : Hid (shOk (nv : Int) 1 x.op x.num x.kids = true) := shOk_of HTY.out.2.1 (by omega) (by omega) (by rw [expr_eta]; exact HVF.out)
      have VS : Hid (shR (nv : Int) 1 x.op x.num x.kids = S) := hS.symm
      have HSE : Hid (S = shE (nv : Int) 1 x) := by
        show _ = _
        rw [hS, shR, if_pos VO.out, expr_eta]
      clear hS
      have VT : Hid (typeTop ds fs (vars ++ [0]) (.mk S.op S.num S.kids) = T) := by
        show _ = _
        rw [expr_eta, HSE.out, ← HVL.out]
        exact top_room VX.out HT0.out (by have := HVL.out; omega)
      have FS : Hid (allE fitN (.mk S.op S.num S.kids)) := by
        show allE _ _
        rw [expr_eta, HSE.out]
        refine allE_shE (P := fun op num => fitN op num ∧ (op = 12 → 0 ≤ num ∧ num ≤ 99)) _ _ (fun op num h => ?_) x (allE_and (by have h := FX.out; rw [expr_eta] at h; exact h) ((vfE_all x).1 HVF.out))
        rw [shN_small h.2 (by omega)]
        split
        · next h12 => have := h.2 h12.1; exact ⟨by omega, by omega⟩
        · exact h.1
      have e0 := E.out.v0
      have e1 := E.out.v1
      have e2 := E.out.v2
      go_wp2_with fail
      refine (implShift0 (nv : Int) 1 x.op x.num x.kids ax nx cx _ _ E.out.k).mono ?_
      rw [VS.out, VO.out]
      rintro e wn ⟨ao, no, co, rfl, ro, kk⟩
      have KO := Keep.al wn (.cells #[.int .i64 S.op, .int .i64 S.num, .slice ao no co] 53)
      have K3 := kk.trans KO
      replace K := Lib.hid (K.out.trans K3)
      replace P := Lib.hid (P.out.k K3)
      replace RD := Lib.hid (RD.out.k K3)
      replace RF := Lib.hid (RF.out.k K3)
      replace RV := Lib.hid (RV.out.k K3)
      have E8 := Lib.hid (Ev.born wn (fun _ => True) S ao no co (ro.read.mono (fun _ _ => trivial)))
      clear kk KO K3 ro e0 e1 e2 E
      go_upto_region 8 with fail
      generalize hW : wn.alloc (.cells #[.int .i64 S.op, .int .i64 S.num, .slice ao no co] 53) = W2 at *
      clear hW
      generalize hs : wn.heap.size = s8 at *
      clear hs
      obtain ⟨B0, hB0⟩ : ∃ B, B = W2.heap.size := ⟨_, rfl⟩
      have QD := Lib.hid RD.out.lt
      have QF := Lib.hid RF.out.lt
      have QV := Lib.hid RV.out.lt
      rw [← hB0] at QD QF QV
      have S9 : Hid (Ev W2 s8 (fun k => k < B0) S ao no co) := ⟨E8.out.r, by rw [hB0]; exact E8.out.k.lt.mono (fun k hk => hk.2)⟩
      have hsB1 : s + 1 ≤ B0 := by rw [hB0]; exact P.out.lt
      have hs8a : s8 < B0 := by rw [hB0]; exact E8.out.lt
      have HB0 : Hid (w.heap.size ≤ B0) := by show _ ≤ _; rw [hB0]; exact K.out.size
      have hsB : ¬ B0 ≤ s := by omega
      have hs8 : ¬ B0 ≤ s8 := by omega
      have hBW : B0 ≤ W2.drew.heap.size := by rw [hB0]; exact Nat.le_refl _
      clear hB0
      have KD : Keep W2 W2.drew := (Ext.refl (fun _ => False) W2).drew
      have KW := Lib.hid (K.out.trans KD)
      replace P := Lib.hid (P.out.k KD)
      replace S9 := Lib.hid (S9.out.keep KD)
      replace QD := Lib.hid (QD.out.k KD)
      replace QF := Lib.hid (QF.out.k KD)
      replace QV := Lib.hid (QV.out.k KD)
      clear KD
      have p0 : W2.drew.cell? ⟨s, 0, none⟩ = some (.slice a0 n0 c0) := P.out.x0
      have p1 : W2.drew.cell? ⟨s, 1, none⟩ = some (.slice a1 n1 c1) := P.out.x1
      have s0 : W2.drew.cell? ⟨s8, 0, none⟩ = some (.int .i64 S.op) := S9.out.v0
      have s1 : W2.drew.cell? ⟨s8, 1, none⟩ = some (.int .i64 S.num) := S9.out.v1
      have s2 : W2.drew.cell? ⟨s8, 2, none⟩ = some (.slice ao no co) := S9.out.v2
      refine wp_region_held_drew (S := fun w' => w'.cell? ⟨s, 0, none⟩ = some (.slice a0 n0 c0) ∧ w'.cell? ⟨s, 1, none⟩ = some (.slice a1 n1 c1) ∧ w'.cell? ⟨s8, 0, none⟩ = some (.int .i64 S.op) ∧ w'.cell? ⟨s8, 1, none⟩ = some (.int .i64 S.num) ∧ w'.cell? ⟨s8, 2, none⟩ = some (.slice ao no co)) (by kernel_rfl) ⟨p0, p1, s0, s1, s2⟩ (fun hHeld => ?_)
      have pc : Hid (Ext (fun k => B0 ≤ k) W2.drew W2.drew) := Ext.refl _ _
      generalize W2.drew = W0 at *
      refine wT 0 hHeld ?_
      try go_frame
      refine wT 1 hHeld ?_
      try go_frame
      refine wT 2 hHeld ?_
      try go_frame
      refine wT 3 hHeld ?_
      try go_frame
      refine wT 4 hHeld ?_
      try go_frame
      refine wT 5 hHeld ?_
      try go_frame
      refine wT 6 hHeld ?_
      try go_frame
      refine wT 7 hHeld ?_
      try go_frame
      refine wT 8 hHeld ?_
      try go_frame
      refine wT 9 hHeld ?_
      try go_frame
      refine wT 11 hHeld ?_
      try go_frame
      refine wT 15 hHeld ?_
      try go_frame
      refine wT 17 hHeld ?_
      try go_frame
      refine wpAnyH_ready (rs := [10, 13]) (by kernel_rfl) (by simp) ?_
      refine allReadyH_consL rfl (by rfl) (fun K0 hK0 => ?_) (allReadyH_consL rfl (by rfl) (fun K0 hK0 => ?_) (AllReadyH.nil))
      · go_simp
        obtain ⟨sa, hsa⟩ : ∃ s, s = W0.heap.size := ⟨_, rfl⟩
        obtain ⟨y1, hW⟩ : ∃ N, N = W0.alloc (.cells #[] 3) := ⟨_, rfl⟩
        rw [← hsa, ← hW]
        have kk : Keep W0 y1 := by rw [hW]; exact Keep.al _ _
        have hbsa : sa + 1 ≤ y1.heap.size := by rw [hW, hsa]; exact Nat.le_of_eq (World.size_alloc _ _).symm
        have hasa : W0.heap.size ≤ sa := Nat.le_of_eq hsa.symm
        have AA : Hid (AccR y1 B0 (fun k => False) 3 1 (.slice (some ⟨sa, 0, none⟩) 0 0) []) := by
          rw [hW, hsa]
          exact (AccR.made W0 (fun k => False) 3 1).lower (by omega)
        replace pc := Lib.hid (pc.out.trans (Keep.to kk))
        replace P := Lib.hid (P.out.k kk)
        replace S9 := Lib.hid (S9.out.keep kk)
        replace QD := Lib.hid (QD.out.k kk)
        replace QF := Lib.hid (QF.out.k kk)
        replace QV := Lib.hid (QV.out.k kk)
        clear kk hW hsa
        refine hK0.out _ _ ⟨pc.out.cl p0 hsB, pc.out.cl p1 hsB, pc.out.cl s0 hs8, pc.out.cl s1 hs8, pc.out.cl s2 hs8⟩ (fun hHeld => ?_)
        clear hK0
        try go_frame
        refine wpAnyH_ready (rs := [12, 13]) (by kernel_rfl) (by simp) ?_
        refine allReadyH_consL rfl (by rfl) (fun K0 hK0 => ?_) (allReadyH_consL rfl (by rfl) (fun K0 hK0 => ?_) (AllReadyH.nil))
        · have bnd := AA.out.bound
          refine wp_appR y1 (.tmp 55) (.tmp 56) 26 rfl B0 3 (.int .i64 0) 1 8 Try.underlying26 (by kernel_rfl) rfl (by omega) (fun _ => True) _ _ rfl (AA.out.mono (fun k hk => hk.elim)) _ nv cv (vars.map rowI) _ rfl QV.out (fun k _ hd => ⟨trivial, fun e => by have h1 := bnd k e; have h2 := hd.2; omega⟩) (by simp; omega) (by simp; omega) (by omega) ?_
          intro v1 y2 A1 xA hO1
          have x1 : Ext (fun k => B0 ≤ k) y1 y2 := xA.mono (fun k hk h => (bnd k h).1)
          have hzy2 : y1.heap.size ≤ y2.heap.size := xA.size
          have AB := Lib.hid A1
          replace pc := Lib.hid (pc.out.trans x1)
          replace P := Lib.hid (P.out.e x1 (by omega))
          replace S9 := Lib.hid (S9.out.ext x1 (by omega) (fun k hk h => by omega))
          replace QD := Lib.hid (QD.out.ext x1 (fun k hk h => by omega))
          replace QF := Lib.hid (QF.out.ext x1 (fun k hk h => by omega))
          clear A1 xA x1 hO1 bnd AA QV
          refine hK0.out _ _ ⟨pc.out.cl p0 hsB, pc.out.cl p1 hsB, pc.out.cl s0 hs8, pc.out.cl s1 hs8, pc.out.cl s2 hs8⟩ (fun hHeld => ?_)
          clear hK0
          try go_frame
          refine wO 13 (fun K0 hK0 => ?_)
          go_simp
          obtain ⟨sz, hsz⟩ : ∃ s, s = y2.heap.size := ⟨_, rfl⟩
          obtain ⟨y3, hW⟩ : ∃ N, N = y2.alloc (.cells #[.int .i64 0] 3) := ⟨_, rfl⟩
          rw [← hsz, ← hW]
          have kk : Keep y2 y3 := by rw [hW]; exact Keep.al _ _
          have hbsz : sz + 1 ≤ y3.heap.size := by rw [hW, hsz]; exact Nat.le_of_eq (World.size_alloc _ _).symm
          have hasz : y2.heap.size ≤ sz := Nat.le_of_eq hsz.symm
          have LZ : Hid (Rd y3 (fun k => k = sz) (encInts [0]) (.slice (some ⟨sz, 0, none⟩) 1 1)) := by
            rw [hW, hsz]
            exact lit_intsD y2 (fun k => k = y2.heap.size) 3 [0] #[.int .i64 0] 1 rfl rfl rfl (by omega)
          have hob : Hid (v1.ownBlock ≠ some sz) := fun e => by have := (AB.out.bound _ e).2; omega
          replace pc := Lib.hid (pc.out.trans (Keep.to kk))
          replace P := Lib.hid (P.out.k kk)
          replace S9 := Lib.hid (S9.out.keep kk)
          replace QD := Lib.hid (QD.out.k kk)
          replace QF := Lib.hid (QF.out.k kk)
          replace AB := Lib.hid (AB.out.keep kk)
          clear kk hW hsz
          refine hK0.out _ _ ⟨pc.out.cl p0 hsB, pc.out.cl p1 hsB, pc.out.cl s0 hs8, pc.out.cl s1 hs8, pc.out.cl s2 hs8⟩ (fun hHeld => ?_)
          clear hK0
          try go_frame
          refine wO 14 (fun K0 hK0 => ?_)
          have bnd := AB.out.bound
          refine wp_appR y3 (.tmp 57) (.tmp 58) 26 rfl B0 3 (.int .i64 0) 1 8 Try.underlying26 (by kernel_rfl) rfl (by omega) (fun _ => True) _ _ rfl AB.out _ 1 1 ([0].map rowI) _ rfl LZ.out (fun k _ hd => ⟨trivial, fun e => hob.out (by have e2 : k = sz := hd; rw [← e2]; exact e)⟩) (by have := HVL.out; simp; omega) (by have := HVL.out; simp; omega) (by omega) ?_
          intro v2 y4 A1 xA hO1
          have x1 : Ext (fun k => B0 ≤ k) y3 y4 := xA.mono (fun k hk h => (bnd k h).1)
          have hzy4 : y3.heap.size ≤ y4.heap.size := xA.size
          obtain ⟨a9, c9, e9, hc9, _, rd9⟩ := A1.read (by omega)
          have hl9 : ([] ++ vars.map rowI ++ [0].map rowI).length = nv + 1 := by have := HVL.out; simp; omega
          rw [hl9] at e9 hc9
          subst e9
          have RV9 : Hid (Rd y4 (fun _ => True) (encInts (vars ++ [0])) (.slice a9 (nv + 1) c9)) := by
            have e : encInts (vars ++ [0]) = .arr 1 ([] ++ vars.map rowI ++ [0].map rowI) := by rw [List.nil_append, ← List.map_append]; rfl
            show Rd _ _ _ _
            rw [e]
            exact rd9.mono (fun _ _ => trivial)
          replace pc := Lib.hid (pc.out.trans x1)
          replace P := Lib.hid (P.out.e x1 (by omega))
          replace S9 := Lib.hid (S9.out.ext x1 (by omega) (fun k hk h => by omega))
          replace QD := Lib.hid (QD.out.ext x1 (fun k hk h => by omega))
          replace QF := Lib.hid (QF.out.ext x1 (fun k hk h => by omega))
          clear A1 xA x1 hO1 bnd AB LZ rd9 hc9 hl9
          refine hK0.out _ _ ⟨pc.out.cl p0 hsB, pc.out.cl p1 hsB, pc.out.cl s0 hs8, pc.out.cl s1 hs8, pc.out.cl s2 hs8⟩ (fun hHeld => ?_)
          clear hK0
          try go_frame
          refine wO 16 (fun K0 hK0 => ?_)
          go_simp
          go_at_call 24
          refine (implTypeOfTop ds fs a0 n0 c0 a1 n1 c1 a9 (nv + 1) c9 (vars ++ [0]) S.op S.num S.kids ao no co _ _ _ _ y4 QD.out QF.out RV9.out (by omega) S9.out.k FS.out).mono ?_
          rw [VT.out]
          rintro e y5 ⟨rfl, kk⟩
          replace pc := Lib.hid (pc.out.trans (Keep.to kk))
          clear kk
          refine hK0.out _ _ ⟨pc.out.cl p0 hsB, pc.out.cl p1 hsB, pc.out.cl s0 hs8, pc.out.cl s1 hs8, pc.out.cl s2 hs8⟩ (fun hHeld => ?_)
          clear hK0
          try go_frame
          refine wT 18 hHeld ?_
          try go_frame
          refine wT 19 hHeld ?_
          try go_frame
          refine wT 20 hHeld ?_
          try go_frame
          refine wpAnyH_done (by kernel_rfl) ?_ _
          go_wp2_with fail
          exact fin_ hQ ⟨rfl, KW.out.then_ pc.out (fun k hk h => by have := HB0.out; omega)⟩
        · go_simp
          obtain ⟨sz, hsz⟩ : ∃ s, s = y1.heap.size := ⟨_, rfl⟩
          obtain ⟨y2, hW⟩ : ∃ N, N = y1.alloc (.cells #[.int .i64 0] 3) := ⟨_, rfl⟩
          rw [← hsz, ← hW]
          have kk : Keep y1 y2 := by rw [hW]; exact Keep.al _ _
          have hbsz : sz + 1 ≤ y2.heap.size := by rw [hW, hsz]; exact Nat.le_of_eq (World.size_alloc _ _).symm
          have hasz : y1.heap.size ≤ sz := Nat.le_of_eq hsz.symm
          have LZ : Hid (Rd y2 (fun k => k = sz) (encInts [0]) (.slice (some ⟨sz, 0, none⟩) 1 1)) := by
            rw [hW, hsz]
            exact lit_intsD y1 (fun k => k = y1.heap.size) 3 [0] #[.int .i64 0] 1 rfl rfl rfl (by omega)
          replace pc := Lib.hid (pc.out.trans (Keep.to kk))
          replace P := Lib.hid (P.out.k kk)
          replace S9 := Lib.hid (S9.out.keep kk)
          replace QD := Lib.hid (QD.out.k kk)
          replace QF := Lib.hid (QF.out.k kk)
          replace QV := Lib.hid (QV.out.k kk)
          replace AA := Lib.hid (AA.out.keep kk)
          clear kk hW hsz
          refine hK0.out _ _ ⟨pc.out.cl p0 hsB, pc.out.cl p1 hsB, pc.out.cl s0 hs8, pc.out.cl s1 hs8, pc.out.cl s2 hs8⟩ (fun hHeld => ?_)
          clear hK0
          try go_frame
          refine wO 12 (fun K0 hK0 => ?_)
          have bnd := AA.out.bound
          refine wp_appR y2 (.tmp 55) (.tmp 56) 26 rfl B0 3 (.int .i64 0) 1 8 Try.underlying26 (by kernel_rfl) rfl (by omega) (fun _ => True) _ _ rfl (AA.out.mono (fun k hk => hk.elim)) _ nv cv (vars.map rowI) _ rfl QV.out (fun k _ hd => ⟨trivial, fun e => by have h1 := bnd k e; have h2 := hd.2; omega⟩) (by simp; omega) (by simp; omega) (by omega) ?_
          intro v1 y3 A1 xA hO1
          have x1 : Ext (fun k => B0 ≤ k) y2 y3 := xA.mono (fun k hk h => (bnd k h).1)
          have hzy3 : y2.heap.size ≤ y3.heap.size := xA.size
          have AB := Lib.hid A1
          replace pc := Lib.hid (pc.out.trans x1)
          replace P := Lib.hid (P.out.e x1 (by omega))
          replace S9 := Lib.hid (S9.out.ext x1 (by omega) (fun k hk h => by omega))
          replace QD := Lib.hid (QD.out.ext x1 (fun k hk h => by omega))
          replace QF := Lib.hid (QF.out.ext x1 (fun k hk h => by omega))
          have hob : Hid (v1.ownBlock ≠ some sz) := fun e => by
            rcases hO1 with h | h
            · rw [h] at e; have e3 : sa = sz := Option.some.inj e; omega
            · rw [h] at e; have e3 : y2.heap.size = sz := Option.some.inj e; omega
          replace LZ := Lib.hid (LZ.out.ext xA (fun k hk h => by have e2 : k = sz := hk; have e3 : sa = k := Option.some.inj h; omega))
          clear A1 xA x1 hO1 bnd AA QV
          refine hK0.out _ _ ⟨pc.out.cl p0 hsB, pc.out.cl p1 hsB, pc.out.cl s0 hs8, pc.out.cl s1 hs8, pc.out.cl s2 hs8⟩ (fun hHeld => ?_)
          clear hK0
          try go_frame
          refine wO 14 (fun K0 hK0 => ?_)
          have bnd := AB.out.bound
          refine wp_appR y3 (.tmp 57) (.tmp 58) 26 rfl B0 3 (.int .i64 0) 1 8 Try.underlying26 (by kernel_rfl) rfl (by omega) (fun _ => True) _ _ rfl AB.out _ 1 1 ([0].map rowI) _ rfl LZ.out (fun k _ hd => ⟨trivial, fun e => hob.out (by have e2 : k = sz := hd; rw [← e2]; exact e)⟩) (by have := HVL.out; simp; omega) (by have := HVL.out; simp; omega) (by omega) ?_
          intro v2 y4 A1 xA hO1
          have x1 : Ext (fun k => B0 ≤ k) y3 y4 := xA.mono (fun k hk h => (bnd k h).1)
          have hzy4 : y3.heap.size ≤ y4.heap.size := xA.size
          obtain ⟨a9, c9, e9, hc9, _, rd9⟩ := A1.read (by omega)
          have hl9 : ([] ++ vars.map rowI ++ [0].map rowI).length = nv + 1 := by have := HVL.out; simp; omega
          rw [hl9] at e9 hc9
          subst e9
          have RV9 : Hid (Rd y4 (fun _ => True) (encInts (vars ++ [0])) (.slice a9 (nv + 1) c9)) := by
            have e : encInts (vars ++ [0]) = .arr 1 ([] ++ vars.map rowI ++ [0].map rowI) := by rw [List.nil_append, ← List.map_append]; rfl
            show Rd _ _ _ _
            rw [e]
            exact rd9.mono (fun _ _ => trivial)
          replace pc := Lib.hid (pc.out.trans x1)
          replace P := Lib.hid (P.out.e x1 (by omega))
          replace S9 := Lib.hid (S9.out.ext x1 (by omega) (fun k hk h => by omega))
          replace QD := Lib.hid (QD.out.ext x1 (fun k hk h => by omega))
          replace QF := Lib.hid (QF.out.ext x1 (fun k hk h => by omega))
          clear A1 xA x1 hO1 bnd AB LZ rd9 hc9 hl9
          refine hK0.out _ _ ⟨pc.out.cl p0 hsB, pc.out.cl p1 hsB, pc.out.cl s0 hs8, pc.out.cl s1 hs8, pc.out.cl s2 hs8⟩ (fun hHeld => ?_)
          clear hK0
          try go_frame
          refine wO 16 (fun K0 hK0 => ?_)
          go_simp
          go_at_call 24
          refine (implTypeOfTop ds fs a0 n0 c0 a1 n1 c1 a9 (nv + 1) c9 (vars ++ [0]) S.op S.num S.kids ao no co _ _ _ _ y4 QD.out QF.out RV9.out (by omega) S9.out.k FS.out).mono ?_
          rw [VT.out]
          rintro e y5 ⟨rfl, kk⟩
          replace pc := Lib.hid (pc.out.trans (Keep.to kk))
          clear kk
          refine hK0.out _ _ ⟨pc.out.cl p0 hsB, pc.out.cl p1 hsB, pc.out.cl s0 hs8, pc.out.cl s1 hs8, pc.out.cl s2 hs8⟩ (fun hHeld => ?_)
          clear hK0
          try go_frame
          refine wT 18 hHeld ?_
          try go_frame
          refine wT 19 hHeld ?_
          try go_frame
          refine wT 20 hHeld ?_
          try go_frame
          refine wpAnyH_done (by kernel_rfl) ?_ _
          go_wp2_with fail
          exact fin_ hQ ⟨rfl, KW.out.then_ pc.out (fun k hk h => by have := HB0.out; omega)⟩
      · go_simp
        obtain ⟨sz, hsz⟩ : ∃ s, s = W0.heap.size := ⟨_, rfl⟩
        obtain ⟨y1, hW⟩ : ∃ N, N = W0.alloc (.cells #[.int .i64 0] 3) := ⟨_, rfl⟩
        rw [← hsz, ← hW]
        have kk : Keep W0 y1 := by rw [hW]; exact Keep.al _ _
        have hbsz : sz + 1 ≤ y1.heap.size := by rw [hW, hsz]; exact Nat.le_of_eq (World.size_alloc _ _).symm
        have hasz : W0.heap.size ≤ sz := Nat.le_of_eq hsz.symm
        have LZ : Hid (Rd y1 (fun k => k = sz) (encInts [0]) (.slice (some ⟨sz, 0, none⟩) 1 1)) := by
          rw [hW, hsz]
          exact lit_intsD W0 (fun k => k = W0.heap.size) 3 [0] #[.int .i64 0] 1 rfl rfl rfl (by omega)
        replace pc := Lib.hid (pc.out.trans (Keep.to kk))
        replace P := Lib.hid (P.out.k kk)
        replace S9 := Lib.hid (S9.out.keep kk)
        replace QD := Lib.hid (QD.out.k kk)
        replace QF := Lib.hid (QF.out.k kk)
        replace QV := Lib.hid (QV.out.k kk)
        clear kk hW hsz
        refine hK0.out _ _ ⟨pc.out.cl p0 hsB, pc.out.cl p1 hsB, pc.out.cl s0 hs8, pc.out.cl s1 hs8, pc.out.cl s2 hs8⟩ (fun hHeld => ?_)
        clear hK0
        try go_frame
        refine wO 10 (fun K0 hK0 => ?_)
        go_simp
        obtain ⟨sa, hsa⟩ : ∃ s, s = y1.heap.size := ⟨_, rfl⟩
        obtain ⟨y2, hW⟩ : ∃ N, N = y1.alloc (.cells #[] 3) := ⟨_, rfl⟩
        rw [← hsa, ← hW]
        have kk : Keep y1 y2 := by rw [hW]; exact Keep.al _ _
        have hbsa : sa + 1 ≤ y2.heap.size := by rw [hW, hsa]; exact Nat.le_of_eq (World.size_alloc _ _).symm
        have hasa : y1.heap.size ≤ sa := Nat.le_of_eq hsa.symm
        have AA : Hid (AccR y2 B0 (fun k => False) 3 1 (.slice (some ⟨sa, 0, none⟩) 0 0) []) := by
          rw [hW, hsa]
          exact (AccR.made y1 (fun k => False) 3 1).lower (by omega)
        replace pc := Lib.hid (pc.out.trans (Keep.to kk))
        replace P := Lib.hid (P.out.k kk)
        replace S9 := Lib.hid (S9.out.keep kk)
        replace QD := Lib.hid (QD.out.k kk)
        replace QF := Lib.hid (QF.out.k kk)
        replace QV := Lib.hid (QV.out.k kk)
        replace LZ := Lib.hid (LZ.out.k kk)
        clear kk hW hsa
        refine hK0.out _ _ ⟨pc.out.cl p0 hsB, pc.out.cl p1 hsB, pc.out.cl s0 hs8, pc.out.cl s1 hs8, pc.out.cl s2 hs8⟩ (fun hHeld => ?_)
        clear hK0
        try go_frame
        refine wO 12 (fun K0 hK0 => ?_)
        have bnd := AA.out.bound
        refine wp_appR y2 (.tmp 55) (.tmp 56) 26 rfl B0 3 (.int .i64 0) 1 8 Try.underlying26 (by kernel_rfl) rfl (by omega) (fun _ => True) _ _ rfl (AA.out.mono (fun k hk => hk.elim)) _ nv cv (vars.map rowI) _ rfl QV.out (fun k _ hd => ⟨trivial, fun e => by have h1 := bnd k e; have h2 := hd.2; omega⟩) (by simp; omega) (by simp; omega) (by omega) ?_
        intro v1 y3 A1 xA hO1
        have x1 : Ext (fun k => B0 ≤ k) y2 y3 := xA.mono (fun k hk h => (bnd k h).1)
        have hzy3 : y2.heap.size ≤ y3.heap.size := xA.size
        have AB := Lib.hid A1
        replace pc := Lib.hid (pc.out.trans x1)
        replace P := Lib.hid (P.out.e x1 (by omega))
        replace S9 := Lib.hid (S9.out.ext x1 (by omega) (fun k hk h => by omega))
        replace QD := Lib.hid (QD.out.ext x1 (fun k hk h => by omega))
        replace QF := Lib.hid (QF.out.ext x1 (fun k hk h => by omega))
        have hob : Hid (v1.ownBlock ≠ some sz) := fun e => by
          rcases hO1 with h | h
          · rw [h] at e; have e3 : sa = sz := Option.some.inj e; omega
          · rw [h] at e; have e3 : y2.heap.size = sz := Option.some.inj e; omega
        replace LZ := Lib.hid (LZ.out.ext xA (fun k hk h => by have e2 : k = sz := hk; have e3 : sa = k := Option.some.inj h; omega))
        clear A1 xA x1 hO1 bnd AA QV
        refine hK0.out _ _ ⟨pc.out.cl p0 hsB, pc.out.cl p1 hsB, pc.out.cl s0 hs8, pc.out.cl s1 hs8, pc.out.cl s2 hs8⟩ (fun hHeld => ?_)
        clear hK0
        try go_frame
        refine wO 14 (fun K0 hK0 => ?_)
        have bnd := AB.out.bound
        refine wp_appR y3 (.tmp 57) (.tmp 58) 26 rfl B0 3 (.int .i64 0) 1 8 Try.underlying26 (by kernel_rfl) rfl (by omega) (fun _ => True) _ _ rfl AB.out _ 1 1 ([0].map rowI) _ rfl LZ.out (fun k _ hd => ⟨trivial, fun e => hob.out (by have e2 : k = sz := hd; rw [← e2]; exact e)⟩) (by have := HVL.out; simp; omega) (by have := HVL.out; simp; omega) (by omega) ?_
        intro v2 y4 A1 xA hO1
        have x1 : Ext (fun k => B0 ≤ k) y3 y4 := xA.mono (fun k hk h => (bnd k h).1)
        have hzy4 : y3.heap.size ≤ y4.heap.size := xA.size
        obtain ⟨a9, c9, e9, hc9, _, rd9⟩ := A1.read (by omega)
        have hl9 : ([] ++ vars.map rowI ++ [0].map rowI).length = nv + 1 := by have := HVL.out; simp; omega
        rw [hl9] at e9 hc9
        subst e9
        have RV9 : Hid (Rd y4 (fun _ => True) (encInts (vars ++ [0])) (.slice a9 (nv + 1) c9)) := by
          have e : encInts (vars ++ [0]) = .arr 1 ([] ++ vars.map rowI ++ [0].map rowI) := by rw [List.nil_append, ← List.map_append]; rfl
          show Rd _ _ _ _
          rw [e]
          exact rd9.mono (fun _ _ => trivial)
        replace pc := Lib.hid (pc.out.trans x1)
        replace P := Lib.hid (P.out.e x1 (by omega))
        replace S9 := Lib.hid (S9.out.ext x1 (by omega) (fun k hk h => by omega))
        replace QD := Lib.hid (QD.out.ext x1 (fun k hk h => by omega))
        replace QF := Lib.hid (QF.out.ext x1 (fun k hk h => by omega))
        clear A1 xA x1 hO1 bnd AB LZ rd9 hc9 hl9
        refine hK0.out _ _ ⟨pc.out.cl p0 hsB, pc.out.cl p1 hsB, pc.out.cl s0 hs8, pc.out.cl s1 hs8, pc.out.cl s2 hs8⟩ (fun hHeld => ?_)
        clear hK0
        try go_frame
        refine wO 16 (fun K0 hK0 => ?_)
        go_simp
        go_at_call 24
        refine (implTypeOfTop ds fs a0 n0 c0 a1 n1 c1 a9 (nv + 1) c9 (vars ++ [0]) S.op S.num S.kids ao no co _ _ _ _ y4 QD.out QF.out RV9.out (by omega) S9.out.k FS.out).mono ?_
        rw [VT.out]
        rintro e y5 ⟨rfl, kk⟩
        replace pc := Lib.hid (pc.out.trans (Keep.to kk))
        clear kk
        refine hK0.out _ _ ⟨pc.out.cl p0 hsB, pc.out.cl p1 hsB, pc.out.cl s0 hs8, pc.out.cl s1 hs8, pc.out.cl s2 hs8⟩ (fun hHeld => ?_)
        clear hK0
        try go_frame
        refine wT 18 hHeld ?_
        try go_frame
        refine wT 19 hHeld ?_
        try go_frame
        refine wT 20 hHeld ?_
        try go_frame
        refine wpAnyH_done (by kernel_rfl) ?_ _
        go_wp2_with fail
        exact fin_ hQ ⟨rfl, KW.out.then_ pc.out (fun k hk h => by have := HB0.out; omega)⟩
  · go_enter Try.func8, Try.ntmps8
    go_wp2_with fail
    exact fin_ hQ ⟨rfl, Ext.refl _ _⟩
end Go.Proofs.Ytaeddcnakilnlaa
