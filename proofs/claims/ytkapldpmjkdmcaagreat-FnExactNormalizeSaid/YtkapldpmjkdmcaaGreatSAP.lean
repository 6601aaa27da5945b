/- normalize and Normalize of the reference. -/
import Derived.Test.YtkapldpmjkdmcaaGreatSAN
import Derived.Test.YtkapldpmjkdmcaaGreatSAO
namespace Go.Proofs.YtkapldpmjkdmcaaGreat
open Go.RowKit

theorem decl_fields {ds : List DeclL} (h : typesOk ds = true) (j k : Nat) : (cAt (dAt ds j).cons k).length ≤ 1000 := by
  by_cases hj : j < ds.length
  · by_cases hk : k < (dAt ds j).cons.length
    · have hd := typesOk_decl h hj
      unfold declOk at hd
      rw [if_pos (by omega)] at hd
      simp only [Bool.and_eq_true] at hd
      have := cAll.1 hd.2 _ hk
      simp only [conOk, Bool.and_eq_true, decide_eq_true_eq] at this
      omega
    · rw [cAt, List.getD, List.getElem?_eq_none (by omega)]; simp
  · have e : dAt ds j = default := by rw [dAt, List.getD, List.getElem?_eq_none (by omega)]; rfl
    rw [e]
    have : (default : DeclL).cons = [] := rfl
    rw [this]; simp [cAt]
theorem lit_rout1 (w : World) (D : Nat → Prop) (T : TypeId) (f : RoutL) (a0 : Option Addr) (n0 c0 : Nat) (a1 : Option Addr) (n1 c1 : Nat) (a3 : Option Addr) (n3 c3 : Nat) (hB : D w.heap.size) (h0 : Rd w D (encInts f.params) (.slice a0 n0 c0)) (h1 : Rd w D (encInts f.lent) (.slice a1 n1 c1)) (h3 : Rd w D (encSteps f.body.steps) (.slice a3 n3 c3)) :
    Rd (w.alloc (.cells #[.slice a0 n0 c0, .slice a1 n1 c1, .int .i64 f.result, .slice a3 n3 c3, .int .i64 f.body.result] T)) D (.arr 5 [rowR f]) (.slice (some ⟨w.heap.size, 0, none⟩) 1 1) := by
  refine Rd.litD w D T 5 _ [rowR f] 1 hB (by simp) (by omega) (by omega) (by simp) (fun i hi => ?_) (fun i j hi hj => ?_)
  · obtain rfl : i = 0 := by simp at hi; exact hi
    rfl
  · obtain rfl : i = 0 := by simp at hi; exact hi
    rcases (show j = 0 ∨ j = 1 ∨ j = 2 ∨ j = 3 ∨ j = 4 by omega) with rfl | rfl | rfl | rfl | rfl
    · exact ⟨_, rfl, h0⟩
    · exact ⟨_, rfl, h1⟩
    · exact ⟨_, rfl, .num _⟩
    · exact ⟨_, rfl, h3⟩
    · exact ⟨_, rfl, .num _⟩

theorem AccR.extQ {w w' : World} {base : Nat} {D S : Nat → Prop} {T : TypeId} {s : Nat} {v : Value} {rows : List (List Dat)} (h : AccR w base D T s v rows) (hx : Ext S w w') (hs : ∀ k, k < w.heap.size → D k → ¬ S k) (ho : ∀ k, v.ownBlock = some k → ¬ S k) : AccR w' base D T s v rows := by
  obtain ⟨xs, h1, h2, h5⟩ := h
  refine ⟨xs, ⟨h1.1, ?_⟩, h2, fun i j hi hj => ?_⟩
  · rcases h1.2 with h | ⟨g, cap, cur, e, hb, hg, rest⟩
    · exact .inl h
    · have hlt : g < w.heap.size := (Array.getElem?_eq_some_iff.1 hg).1
      exact .inr ⟨g, cap, cur, e, hb, (hx.block g hlt (ho g (by rw [e]; rfl))).trans hg, rest⟩
  · obtain ⟨u, hu, ho⟩ := h5 i j hi hj
    exact ⟨u, hu, (ho.ext hx (fun k hk => hs k hk.2.2 hk.1)).mono (fun k hk => ⟨hk.1, hk.2.1, Nat.lt_of_lt_of_le hk.2.2 hx.size⟩)⟩

set_option maxRecDepth 100000 in
set_option maxHeartbeats 4000000 in
theorem specNormalize0 (ds : List DeclL) (fs : List FuncL) (hp : progOk ds fs = true) (a0 : Option Addr) (n0 c0 : Nat) (a1 : Option Addr) (n1 c1 : Nat) (D0 D1 : Nat → Prop) (w : World) (r0 : Rd w D0 (encDecls ds) (.slice a0 n0 c0)) (r1 : Rd w D1 (encFuncs fs) (.slice a1 n1 c1)) :
    Calls Tryz.prog 50 #[.agg #[.slice a0 n0 c0, .slice a1 n1 c1]] w fun e w' => ∃ ad nd cd ar nr cr, e = .returned (.agg #[.slice ad nd cd, .slice ar nr cr]) ∧ Rd w' (fun k => w.heap.size ≤ k) (encDecls ds) (.slice ad nd cd) ∧ Rd w' (fun k => w.heap.size ≤ k) (encRouts (fs.map (nrmF ds))) (.slice ar nr cr) ∧ Keep w w' := by
  refine calls_k fun Q hQ => ?_
  have HP := Lib.hid hp
  have hok := (progOk_parts hp).1
  have ht := (sigsOk_parts hok).1
  have HOK := Lib.hid hok
  have K0 := (Keep.al w (.cells #[.slice a0 n0 c0, .slice a1 n1 c1] 44)).trans (Keep.al _ (.cells #[.slice none 0 0, .slice none 0 0] 30))
  have R0 := Lib.hid ((rowOf w #[.slice a0 n0 c0, .slice a1 n1 c1] 44).alloc (.cells #[.slice none 0 0, .slice none 0 0] 30))
  have RZ0 := rowOf (w.alloc (.cells #[.slice a0 n0 c0, .slice a1 n1 c1] 44)) #[.slice none 0 0, .slice none 0 0] 30
  simp only [World.size_alloc] at RZ0
  have RZ0 := Lib.hid RZ0
  have hq0 := r0.lt.k K0
  have hq1 := r1.lt.k K0
  have KW0 := Lib.hid K0
  have hsz : ((w.alloc (.cells #[.slice a0 n0 c0, .slice a1 n1 c1] 44)).alloc (.cells #[.slice none 0 0, .slice none 0 0] 30)).heap.size = w.heap.size + 2 := by simp
  have HSZ := Lib.hid hsz
  have hnf : fs.length ≤ 4 := (progOk_len hp).2
  have HFW := Few.of_ok ht
  clear hp hok r0 r1 K0 hsz
  go_enter Tryz.func50, Tryz.ntmps50
  go_wp2_with fail
  refine (specCopyDecls ds _ _ _ _ _ hq0 HFW (fun j k => decl_fields ht j k)).mono ?_
  rintro e w1 ⟨ad, nd, cd, rfl, rd, p1⟩
  have K1 := Lib.hid (KW0.out.trans p1)
  have hw1 : w.heap.size + 2 ≤ w1.heap.size := by have := p1.size; have := HSZ.out; omega
  have RD := Lib.hid (rd.lt.mono (D' := fun k => w.heap.size + 2 ≤ k ∧ k < w1.heap.size) (fun k hk => ⟨by have := hk.1; have := HSZ.out; omega, hk.2⟩))
  have Q0 := Lib.hid (hq0.k p1)
  have Q1 := Lib.hid (hq1.k p1)
  have R0 := Lib.hid (row_ext R0.out p1 (fun h => h))
  have RZ0 := Lib.hid (row_ext RZ0.out p1 (fun h => h))
  clear hq0 hq1 rd p1
  have KA := Keep.al w1 (.cells #[] 71)
  have RQ0 := rowOf (w1.alloc (.cells #[] 71)) #[.slice ad nd cd, .slice (some ⟨w1.heap.size, 0, none⟩) 0 0] 30
  have A0 := (AccR.made w1 (fun k => w1.heap.size + 2 ≤ k) 71 5).keep (Keep.al _ (.cells #[.slice ad nd cd, .slice (some ⟨w1.heap.size, 0, none⟩) 0 0] 30))
  have KQ0 := KA.trans (Keep.al _ (.cells #[.slice ad nd cd, .slice (some ⟨w1.heap.size, 0, none⟩) 0 0] 30))
  simp only [World.size_alloc] at RQ0
  have RQ0 := Lib.hid RQ0
  have A0 := Lib.hid A0
  have KQ0 := Lib.hid KQ0
  have E0 : Hid (Ext (fun k => k = w1.heap.size ∨ k = w1.heap.size + 1) w1 ((w1.alloc (.cells #[] 71)).alloc (.cells #[.slice ad nd cd, .slice (some ⟨w1.heap.size, 0, none⟩) 0 0] 30))) := Keep.to KQ0.out
  have B0 : Hid (∀ k, (Value.slice (some ⟨w1.heap.size, 0, none⟩) 0 0).ownBlock = some k → k = w1.heap.size ∨ w1.heap.size + 2 ≤ k) := fun k hk => .inl (by have : w1.heap.size = k := (by simpa [Value.ownBlock] using hk); omega)
  have Z0 : Hid (w1.heap.size + 2 ≤ ((w1.alloc (.cells #[] 71)).alloc (.cells #[.slice ad nd cd, .slice (some ⟨w1.heap.size, 0, none⟩) 0 0] 30)).heap.size) := by show _ ≤ _; simp
  clear KA
  go_wp2_with fail
  go_loopw [4] (fun iv wr => ∃ (j : Nat) (vk : Value), j ≤ n1 ∧ iv = .int .i64 j ∧ Hid (wr.rowIs (w1.heap.size + 1) 30 2 (fun i => (#[.slice ad nd cd, vk] : Array Value).getD i undef)) ∧ Hid (AccR wr w1.heap.size (fun k => w1.heap.size + 2 ≤ k) 71 5 vk ((fs.take j).map (fun f => rowR (nrmF ds f)))) ∧ Hid (Ext (fun k => k = w1.heap.size ∨ k = w1.heap.size + 1) w1 wr) ∧ Hid (∀ k, vk.ownBlock = some k → k = w1.heap.size ∨ w1.heap.size + 2 ≤ k) ∧ Hid (w1.heap.size + 2 ≤ wr.heap.size)) (fun iv _ => n1 - (intOf iv).toNat)
  case atStart => exact ⟨0, _, Nat.zero_le _, rfl, RQ0, A0, E0, B0, Z0⟩
  case round =>
    obtain ⟨j, vk, hj, rfl, RQ, HA, HE, HB, HZ⟩ := hrel
    obtain ⟨wo, rfl⟩ : ∃ wo : World, wo = wr := ⟨_, rfl⟩
    clear RQ0 A0 KQ0 E0 B0 Z0
    obtain ⟨e1, hnc, hnm, hat⟩ := funcs_at Q1.out
    have HL := Lib.hid e1
    have x0 : wo.cell? ⟨w.heap.size, 0, none⟩ = some (.slice a0 n0 c0) := HE.out.cq (R0.out.cell (i := 0) (by simp)) (fun h => by change w.heap.size = _ ∨ w.heap.size = _ at h; omega)
    have x1 : wo.cell? ⟨w.heap.size, 1, none⟩ = some (.slice a1 n1 c1) := HE.out.cq (R0.out.cell (i := 1) (by simp)) (fun h => by change w.heap.size = _ ∨ w.heap.size = _ at h; omega)
    have z0 : wo.cell? ⟨w1.heap.size + 1, 0, none⟩ = some (.slice ad nd cd) := RQ.out.cell (i := 0) (by omega)
    have z1 : wo.cell? ⟨w1.heap.size + 1, 1, none⟩ = some vk := RQ.out.cell (i := 1) (by omega)
    by_cases hlt : j < n1
    · have hjl : j < fs.length := by omega
      obtain ⟨bf, o, rfl, hbf, ap, np, cp, ak, nk, ck, d0, d1, d2, d3, d4, rp, rk⟩ := hat j hlt
      have hns : ∀ k, (D1 k ∧ k < w.heap.size) → ¬ (k = w1.heap.size ∨ k = w1.heap.size + 1) := fun k hk h => by omega
      have hns0 : ∀ k, (D0 k ∧ k < w.heap.size) → ¬ (k = w1.heap.size ∨ k = w1.heap.size + 1) := fun k hk h => by omega
      have d0 := HE.out.cq d0 (hns _ hbf)
      have d1 := HE.out.cq d1 (hns _ hbf)
      have d2 := HE.out.cq d2 (hns _ hbf)
      have d3 := HE.out.cq d3 (hns _ hbf)
      have d4 := HE.out.cq d4 (hns _ hbf)
      have qp := rp.ext HE.out hns
      have qk := rk.ext HE.out hns
      have qd := Q0.out.ext HE.out hns0
      have hnp : (fAt fs j).params.length = np := (ints_at rp).1
      have hpl := (sigF_at HOK.out hjl).1
      have hbo := bodyOk_parts HOK.out hjl ((progOk_parts HP.out).2 j hjl)
      have hnb : nE (fAt fs j).body ≤ 30 := by rw [nE_eq]; exact hbo.1
      have TY : Hid (0 ≤ tyE ds (fs.map sigF) (fAt fs j).params (fAt fs j).body) := by show _ ≤ _; rw [hbo.2]; exact (sigF_at HOK.out hjl).2.2
      have hn3 : np ≤ 3 := by omega
      have HL9 : Hid ((fAt fs j).params.length = (numsL 0 np).length) := by show _ = _; rw [numsL_len, hnp]
      have HB9 : Hid ((numsL 0 np).length + 4 * nE (fAt fs j).body ≤ 4000) := by show _ ≤ _; rw [numsL_len]; omega
      have HC9 : Hid (np + 4 * nE (fAt fs j).body ≤ 4000) := by show _ ≤ _; omega
      have LB := Lib.hid (specLowerBlock ds (fs.map sigF) HOK.out (fAt fs j).body)
      obtain ⟨s9, hs9⟩ : ∃ s, (lowE ds (fAt fs j).body (numsL 0 np) np).1 = s := ⟨_, rfl⟩
      obtain ⟨y9, hy9⟩ : ∃ s, (lowE ds (fAt fs j).body (numsL 0 np) np).2 = s := ⟨_, rfl⟩
      have HS9 := Lib.hid hs9
      have HY9 := Lib.hid hy9
      have HNF : Hid (rowR (nrmF ds (fAt fs j)) = rowR ⟨(fAt fs j).params, [], (fAt fs j).result, .mk s9 y9⟩) := by show _ = _; rw [nrmF, hnp, hs9, hy9]
      have HTK : Hid ((fs.take (j + 1)).map (fun f => rowR (nrmF ds f)) = (fs.take j).map (fun f => rowR (nrmF ds f)) ++ [rowR (nrmF ds (fAt fs j))]) := by show _ = _; rw [List.take_succ_eq_append_getElem hjl, List.map_append, fAt_get hjl]; rfl
      have HLR : Hid (((fs.take j).map (fun f => rowR (nrmF ds f))).length = j) := by show _ = _; rw [List.length_map, List.length_take]; omega
      have KF := Keep.al wo (.cells #[.slice ap np cp, .int .i64 (fAt fs j).result, .int .i64 (fAt fs j).body.op, .int .i64 (fAt fs j).body.num, .slice ak nk ck] 60)
      have RF := rowOf wo #[.slice ap np cp, .int .i64 (fAt fs j).result, .int .i64 (fAt fs j).body.op, .int .i64 (fAt fs j).body.num, .slice ak nk ck] 60
      have HA1 := Lib.hid (HA.out.keep KF)
      have RQ1 := Lib.hid (row_ext RQ.out KF (fun h => h))
      have QP := qp.k KF
      have QK := Lib.hid (qk.k KF)
      have QD := Lib.hid (qd.k KF)
      have QP := Lib.hid QP
      have y0 := KF.cq x0 (fun h => h)
      have y1 := KF.cq x1 (fun h => h)
      have y2 := KF.cq z1 (fun h => h)
      have sF : (wo.alloc (.cells #[.slice ap np cp, .int .i64 (fAt fs j).result, .int .i64 (fAt fs j).body.op, .int .i64 (fAt fs j).body.num, .slice ak nk ck] 60)).heap.size = wo.heap.size + 1 := by simp
      have SF := Lib.hid sF
      have KF' := Lib.hid KF
      have hwo := HZ.out
      clear qp qk qd rp rk hnp hpl hbo hnb hs9 hy9 hat hns hns0 sF KF e1
      go_wp2_with fail
      have RF' := Lib.hid RF
      obtain ⟨fb, hfb⟩ : ∃ g, g = wo.heap.size := ⟨_, rfl⟩
      have HFB := Lib.hid hfb
      rw [← hfb] at RF RF'
      rw [← hfb]
      obtain ⟨wf, hwf⟩ : ∃ y : World, y = wo.alloc (.cells #[.slice ap np cp, .int .i64 (fAt fs j).result, .int .i64 (fAt fs j).body.op, .int .i64 (fAt fs j).body.num, .slice ak nk ck] 60) := ⟨_, rfl⟩
      rw [← hwf] at RF RF' KF' RQ1 HA1 QP QK QD SF y0 y1 y2
      rw [← hwf]
      have x0 := y0
      have x1 := y1
      have h2 : wf.cell? ⟨fb, 2, none⟩ = some (.int .i64 (fAt fs j).body.op) := RF.cell (i := 2) (by simp)
      have h3 : wf.cell? ⟨fb, 3, none⟩ = some (.int .i64 (fAt fs j).body.num) := RF.cell (i := 3) (by simp)
      have h4 : wf.cell? ⟨fb, 4, none⟩ = some (.slice ak nk ck) := RF.cell (i := 4) (by simp)
      have hfw : fb < wf.heap.size := by have := SF.out; omega
      have hww : w.heap.size + 2 < wf.heap.size := by have := SF.out; omega
      have hw9 : w1.heap.size + 2 < wf.heap.size := by have := SF.out; have := HZ.out; omega
      clear y0 y1 y2 hwf hfb RF z0 z1 d0 d1 d2 d3 d4
      refine wp_region_held_drew (S := fun w' => w'.cell? ⟨w.heap.size, 0, none⟩ = some (.slice a0 n0 c0) ∧ w'.cell? ⟨w.heap.size, 1, none⟩ = some (.slice (some ⟨bf, o, none⟩) n1 c1) ∧ w'.cell? ⟨fb, 2, none⟩ = some (.int .i64 (fAt fs j).body.op) ∧ w'.cell? ⟨fb, 3, none⟩ = some (.int .i64 (fAt fs j).body.num) ∧ w'.cell? ⟨fb, 4, none⟩ = some (.slice ak nk ck)) (by kernel_rfl) ⟨x0, x1, h2, h3, h4⟩ (fun hHeld => ?_)
      refine wT 0 hHeld ?_
      try go_frame
      refine wT 1 hHeld ?_
      try go_frame
      refine wT 2 hHeld ?_
      try go_frame
      refine wT 3 hHeld ?_
      try go_frame
      refine wT 5 hHeld ?_
      try go_frame
      refine wpAnyH_ready (rs := [4, 7]) (by kernel_rfl) (by simp) ?_
      refine allReadyH_consL rfl (by rfl) (fun K hK => ?_) (allReadyH_consL rfl (by rfl) (fun K hK => ?_) (AllReadyH.nil))
      go_simp
      go_at_call 101
      refine (specNumbersFrom 0 np 0 (np : Int) rfl rfl wf.drew (by omega) (by omega)).mono ?_
      rintro e y1 ⟨vn, rfl, hvn, ky1⟩
      have x0y1 := Keep.at ky1 x0
      have x1y1 := Keep.at ky1 x1
      have h2y1 := Keep.at ky1 h2
      have h3y1 := Keep.at ky1 h3
      have h4y1 := Keep.at ky1 h4
      obtain ⟨an, cn, e9, hcn, on⟩ := hvn.slice
      rw [numsL_len] at e9 hcn on
      subst e9
      have ON := Lib.hid (on.read.toRd hcn (by omega))
      clear on hvn
      have KYy1 := Lib.hid (((Ext.refl (fun _ => False) wf).drew.trans ky1))
      refine hK.out _ _ ⟨x0y1, x1y1, h2y1, h3y1, h4y1⟩ (fun hHeld => ?_)
      clear hK K
      try go_frame
      refine wpAnyH_ready (rs := [6, 7]) (by kernel_rfl) (by simp) ?_
      refine allReadyH_consL rfl (by rfl) (fun K hK => ?_) (allReadyH_consL rfl (by rfl) (fun K hK => ?_) (AllReadyH.nil))
      go_simp
      go_at_call 100
      refine (LB.out _ _ np (np : Int) _ _ _ _ _ _ _ _ _ _ _ _ y1 rfl (QD.out.k KYy1.out).t ON.out.t (QK.out.k KYy1.out).t TY.out HL9.out HB9.out HC9.out).mono ?_
      rw [HS9.out, HY9.out]
      rintro e y2 ⟨ab, nb, cb, rfl, ob, ky2⟩
      have x0y2 := ky2.cq x0y1 (fun h => h)
      have x1y2 := ky2.cq x1y1 (fun h => h)
      have h2y2 := ky2.cq h2y1 (fun h => h)
      have h3y2 := ky2.cq h3y1 (fun h => h)
      have h4y2 := ky2.cq h4y1 (fun h => h)
      have OS := Lib.hid ob.lt
      have HWL : Hid (wf.heap.size ≤ y1.heap.size) := KYy1.out.size
      clear ob
      have KYy2 := Lib.hid ((KYy1.out.trans ky2))
      refine hK.out _ _ ⟨x0y2, x1y2, h2y2, h3y2, h4y2⟩ (fun hHeld => ?_)
      clear hK K
      try go_frame
      refine wO 7 (fun K hK => ?_)
      go_simp
      obtain ⟨y3, hWy3⟩ : ∃ y : World, y = (y2.alloc (.cells #[.slice none 0 0, .int .i64 0] 69)) := ⟨_, rfl⟩
      rw [← hWy3]
      have ky3 : Keep y2 y3 := by rw [hWy3]; exact Keep.al y2 (.cells #[.slice none 0 0, .int .i64 0] 69)
      have hzy3 : Hid (y3.heap.size = y2.heap.size + 1) := by show _ = _; rw [hWy3]; exact World.size_alloc _ _
      have x0y3 := ky3.cq x0y2 (fun h => h)
      have x1y3 := ky3.cq x1y2 (fun h => h)
      have h2y3 := ky3.cq h2y2 (fun h => h)
      have h3y3 := ky3.cq h3y2 (fun h => h)
      have h4y3 := ky3.cq h4y2 (fun h => h)
      replace hWy3 := Lib.hid hWy3
      have RZy3 : Hid (y3.rowIs y2.heap.size 69 2 (fun i => (#[.slice none 0 0, .int .i64 0] : Array Value).getD i undef)) := by show World.rowIs _ _ _ _ _; rw [hWy3.out]; exact rowOf y2 #[.slice none 0 0, .int .i64 0] 69
      have HG : Hid (wf.heap.size ≤ y2.heap.size) := KYy2.out.size
      have KYy3 := Lib.hid ((KYy2.out.trans ky3))
      have HGW : Hid (y2.heap.size ≤ y2.heap.size) := Nat.le_refl _
      replace OS := Lib.hid (OS.out.ext ky3 (fun _ _ h => h))
      refine hK.out _ _ ⟨x0y3, x1y3, h2y3, h3y3, h4y3⟩ (fun hHeld => ?_)
      clear hK K
      try go_frame
      refine wO 8 (fun K hK => ?_)
      obtain ⟨gb, hgb⟩ : ∃ g, g = y2.heap.size := ⟨_, rfl⟩
      have RG : Hid (y3.rowIs gb 69 2 (fun i => (#[.slice none 0 0, .int .i64 0] : Array Value).getD i undef)) := by show World.rowIs _ _ _ _ _; rw [hgb]; exact RZy3.out
      have HGB : Hid (wf.heap.size ≤ gb) := by show _ ≤ _; rw [hgb]; exact HG.out
      have HGX : Hid (∀ k, (y1.heap.size ≤ k ∧ k < y2.heap.size) → k ≠ gb) := fun k hk e => by have := HGW.out; rw [← hgb] at this; omega
      rw [← hgb]
      clear hgb
      have v0 : y3.cell? ⟨gb, 0, none⟩ = some (.slice none 0 0) := RG.out.cell (i := 0) (by omega)
      have v1 : y3.cell? ⟨gb, 1, none⟩ = some (.int .i64 0) := RG.out.cell (i := 1) (by omega)
      have v2 := RG.out.frozen 0
      have v3 := RG.out.frozen 1
      go_simp
      obtain ⟨wg, hWg⟩ : ∃ y : World, y = (y3.setCell ⟨gb, 0, none⟩ (.slice ab nb cb)).setCell ⟨gb, 1, none⟩ (.int .i64 y9) := ⟨_, rfl⟩
      rw [← hWg]
      have XG : Hid (Ext (fun k => k = gb) y3 wg) := by show Ext _ _ _; rw [hWg]; exact ((Ext.refl (fun k => k = gb) y3).setCell (p := ⟨gb, 0, none⟩) (.inr rfl) _).setCell (p := ⟨gb, 1, none⟩) (.inr rfl) _
      have RB : Hid (wg.rowIs gb 69 2 (fun i => (#[.slice ab nb cb, .int .i64 y9] : Array Value).getD i undef)) := by
        show World.rowIs _ _ _ _ _
        rw [hWg]
        exact ((RG.out.set 0 _).set 1 _).congr (fun i hi => by rcases (show i = 0 ∨ i = 1 by omega) with rfl | rfl <;> rfl)
      have x0g := XG.out.cq x0y3 (fun h => by have := HGB.out; change w.heap.size = gb at h; omega)
      have x1g := XG.out.cq x1y3 (fun h => by have := HGB.out; change w.heap.size = gb at h; omega)
      have h2g := XG.out.cq h2y3 (fun h => by have := HGB.out; change fb = gb at h; omega)
      have h3g := XG.out.cq h3y3 (fun h => by have := HGB.out; change fb = gb at h; omega)
      have h4g := XG.out.cq h4y3 (fun h => by have := HGB.out; change fb = gb at h; omega)
      have KG : Hid (Ext (fun k => k = gb) wf wg) := (Keep.to KYy3.out).trans XG.out
      have OG : Hid (Own wg (fun k => wf.heap.size ≤ k ∧ k ≠ gb) (encSteps s9) (.slice ab nb cb)) := (OS.out.mono (D' := fun k => wf.heap.size ≤ k ∧ k ≠ gb) (fun k hk => ⟨Nat.le_trans HWL.out hk.1, HGX.out k hk⟩)).ext XG.out (fun k hk e => hk.2 e)
      clear OS HGX HWL HGW RG hWg v0 v1 v2 v3
      refine hK.out _ _ ⟨x0g, x1g, h2g, h3g, h4g⟩ (fun hHeld => ?_)
      clear hK K
      try go_frame
      refine wpAnyH_done (by kernel_rfl) ?_ _
      rotate_left
      go_simp
      obtain ⟨y2, hWy2⟩ : ∃ y : World, y = (y1.alloc (.cells #[.slice none 0 0, .int .i64 0] 69)) := ⟨_, rfl⟩
      rw [← hWy2]
      have ky2 : Keep y1 y2 := by rw [hWy2]; exact Keep.al y1 (.cells #[.slice none 0 0, .int .i64 0] 69)
      have hzy2 : Hid (y2.heap.size = y1.heap.size + 1) := by show _ = _; rw [hWy2]; exact World.size_alloc _ _
      have x0y2 := ky2.cq x0y1 (fun h => h)
      have x1y2 := ky2.cq x1y1 (fun h => h)
      have h2y2 := ky2.cq h2y1 (fun h => h)
      have h3y2 := ky2.cq h3y1 (fun h => h)
      have h4y2 := ky2.cq h4y1 (fun h => h)
      replace hWy2 := Lib.hid hWy2
      have RZy2 : Hid (y2.rowIs y1.heap.size 69 2 (fun i => (#[.slice none 0 0, .int .i64 0] : Array Value).getD i undef)) := by show World.rowIs _ _ _ _ _; rw [hWy2.out]; exact rowOf y1 #[.slice none 0 0, .int .i64 0] 69
      have HG : Hid (wf.heap.size ≤ y1.heap.size) := KYy1.out.size
      have KYy2 := Lib.hid ((KYy1.out.trans ky2))
      replace ON := Lib.hid (ON.out.k ky2)
      refine hK.out _ _ ⟨x0y2, x1y2, h2y2, h3y2, h4y2⟩ (fun hHeld => ?_)
      clear hK K
      try go_frame
      refine wO 6 (fun K hK => ?_)
      go_simp
      go_at_call 100
      refine (LB.out _ _ np (np : Int) _ _ _ _ _ _ _ _ _ _ _ _ y2 rfl (QD.out.k KYy2.out).t ON.out.t (QK.out.k KYy2.out).t TY.out HL9.out HB9.out HC9.out).mono ?_
      rw [HS9.out, HY9.out]
      rintro e y3 ⟨ab, nb, cb, rfl, ob, ky3⟩
      have x0y3 := ky3.cq x0y2 (fun h => h)
      have x1y3 := ky3.cq x1y2 (fun h => h)
      have h2y3 := ky3.cq h2y2 (fun h => h)
      have h3y3 := ky3.cq h3y2 (fun h => h)
      have h4y3 := ky3.cq h4y2 (fun h => h)
      have OS := Lib.hid ob.lt
      have HWL : Hid (wf.heap.size ≤ y2.heap.size) := KYy2.out.size
      clear ob
      have HGW : Hid (y1.heap.size < y2.heap.size) := RZy2.out.lt
      have KYy3 := Lib.hid ((KYy2.out.trans ky3))
      have RZy3 := Lib.hid (row_ext RZy2.out ky3 (fun h => h))
      refine hK.out _ _ ⟨x0y3, x1y3, h2y3, h3y3, h4y3⟩ (fun hHeld => ?_)
      clear hK K
      try go_frame
      refine wO 8 (fun K hK => ?_)
      obtain ⟨gb, hgb⟩ : ∃ g, g = y1.heap.size := ⟨_, rfl⟩
      have RG : Hid (y3.rowIs gb 69 2 (fun i => (#[.slice none 0 0, .int .i64 0] : Array Value).getD i undef)) := by show World.rowIs _ _ _ _ _; rw [hgb]; exact RZy3.out
      have HGB : Hid (wf.heap.size ≤ gb) := by show _ ≤ _; rw [hgb]; exact HG.out
      have HGX : Hid (∀ k, (y2.heap.size ≤ k ∧ k < y3.heap.size) → k ≠ gb) := fun k hk e => by have := HGW.out; rw [← hgb] at this; omega
      rw [← hgb]
      clear hgb
      have v0 : y3.cell? ⟨gb, 0, none⟩ = some (.slice none 0 0) := RG.out.cell (i := 0) (by omega)
      have v1 : y3.cell? ⟨gb, 1, none⟩ = some (.int .i64 0) := RG.out.cell (i := 1) (by omega)
      have v2 := RG.out.frozen 0
      have v3 := RG.out.frozen 1
      go_simp
      obtain ⟨wg, hWg⟩ : ∃ y : World, y = (y3.setCell ⟨gb, 0, none⟩ (.slice ab nb cb)).setCell ⟨gb, 1, none⟩ (.int .i64 y9) := ⟨_, rfl⟩
      rw [← hWg]
      have XG : Hid (Ext (fun k => k = gb) y3 wg) := by show Ext _ _ _; rw [hWg]; exact ((Ext.refl (fun k => k = gb) y3).setCell (p := ⟨gb, 0, none⟩) (.inr rfl) _).setCell (p := ⟨gb, 1, none⟩) (.inr rfl) _
      have RB : Hid (wg.rowIs gb 69 2 (fun i => (#[.slice ab nb cb, .int .i64 y9] : Array Value).getD i undef)) := by
        show World.rowIs _ _ _ _ _
        rw [hWg]
        exact ((RG.out.set 0 _).set 1 _).congr (fun i hi => by rcases (show i = 0 ∨ i = 1 by omega) with rfl | rfl <;> rfl)
      have x0g := XG.out.cq x0y3 (fun h => by have := HGB.out; change w.heap.size = gb at h; omega)
      have x1g := XG.out.cq x1y3 (fun h => by have := HGB.out; change w.heap.size = gb at h; omega)
      have h2g := XG.out.cq h2y3 (fun h => by have := HGB.out; change fb = gb at h; omega)
      have h3g := XG.out.cq h3y3 (fun h => by have := HGB.out; change fb = gb at h; omega)
      have h4g := XG.out.cq h4y3 (fun h => by have := HGB.out; change fb = gb at h; omega)
      have KG : Hid (Ext (fun k => k = gb) wf wg) := (Keep.to KYy3.out).trans XG.out
      have OG : Hid (Own wg (fun k => wf.heap.size ≤ k ∧ k ≠ gb) (encSteps s9) (.slice ab nb cb)) := (OS.out.mono (D' := fun k => wf.heap.size ≤ k ∧ k ≠ gb) (fun k hk => ⟨Nat.le_trans HWL.out hk.1, HGX.out k hk⟩)).ext XG.out (fun k hk e => hk.2 e)
      clear OS HGX HWL HGW RG hWg v0 v1 v2 v3
      refine hK.out _ _ ⟨x0g, x1g, h2g, h3g, h4g⟩ (fun hHeld => ?_)
      clear hK K
      try go_frame
      refine wpAnyH_done (by kernel_rfl) ?_ _
      rotate_left
      go_simp
      obtain ⟨y1, hWy1⟩ : ∃ y : World, y = (wf.alloc (.cells #[.slice none 0 0, .int .i64 0] 69)).drew := ⟨_, rfl⟩
      rw [← hWy1]
      have ky1 : Keep wf.drew y1 := by rw [hWy1]; exact Keep.al wf.drew (.cells #[.slice none 0 0, .int .i64 0] 69)
      have hzy1 : Hid (y1.heap.size = wf.heap.size + 1) := by show _ = _; rw [hWy1]; exact World.size_alloc _ _
      have x0y1 := Keep.at ky1 x0
      have x1y1 := Keep.at ky1 x1
      have h2y1 := Keep.at ky1 h2
      have h3y1 := Keep.at ky1 h3
      have h4y1 := Keep.at ky1 h4
      replace hWy1 := Lib.hid hWy1
      have RZy1 : Hid (y1.rowIs wf.heap.size 69 2 (fun i => (#[.slice none 0 0, .int .i64 0] : Array Value).getD i undef)) := by show World.rowIs _ _ _ _ _; rw [hWy1.out]; exact rowOf wf.drew #[.slice none 0 0, .int .i64 0] 69
      have HG : Hid (wf.heap.size ≤ wf.heap.size) := Nat.le_refl _
      have KYy1 := Lib.hid (((Ext.refl (fun _ => False) wf).drew.trans ky1))
      refine hK.out _ _ ⟨x0y1, x1y1, h2y1, h3y1, h4y1⟩ (fun hHeld => ?_)
      clear hK K
      try go_frame
      refine wO 4 (fun K hK => ?_)
      go_simp
      go_at_call 101
      refine (specNumbersFrom 0 np 0 (np : Int) rfl rfl y1 (by omega) (by omega)).mono ?_
      rintro e y2 ⟨vn, rfl, hvn, ky2⟩
      have x0y2 := ky2.cq x0y1 (fun h => h)
      have x1y2 := ky2.cq x1y1 (fun h => h)
      have h2y2 := ky2.cq h2y1 (fun h => h)
      have h3y2 := ky2.cq h3y1 (fun h => h)
      have h4y2 := ky2.cq h4y1 (fun h => h)
      obtain ⟨an, cn, e9, hcn, on⟩ := hvn.slice
      rw [numsL_len] at e9 hcn on
      subst e9
      have ON := Lib.hid (on.read.toRd hcn (by omega))
      clear on hvn
      have KYy2 := Lib.hid ((KYy1.out.trans ky2))
      have RZy2 := Lib.hid (row_ext RZy1.out ky2 (fun h => h))
      refine hK.out _ _ ⟨x0y2, x1y2, h2y2, h3y2, h4y2⟩ (fun hHeld => ?_)
      clear hK K
      try go_frame
      refine wO 6 (fun K hK => ?_)
      go_simp
      go_at_call 100
      refine (LB.out _ _ np (np : Int) _ _ _ _ _ _ _ _ _ _ _ _ y2 rfl (QD.out.k KYy2.out).t ON.out.t (QK.out.k KYy2.out).t TY.out HL9.out HB9.out HC9.out).mono ?_
      rw [HS9.out, HY9.out]
      rintro e y3 ⟨ab, nb, cb, rfl, ob, ky3⟩
      have x0y3 := ky3.cq x0y2 (fun h => h)
      have x1y3 := ky3.cq x1y2 (fun h => h)
      have h2y3 := ky3.cq h2y2 (fun h => h)
      have h3y3 := ky3.cq h3y2 (fun h => h)
      have h4y3 := ky3.cq h4y2 (fun h => h)
      have OS := Lib.hid ob.lt
      have HWL : Hid (wf.heap.size ≤ y2.heap.size) := KYy2.out.size
      clear ob
      have HGW : Hid (wf.heap.size < y2.heap.size) := RZy2.out.lt
      have KYy3 := Lib.hid ((KYy2.out.trans ky3))
      have RZy3 := Lib.hid (row_ext RZy2.out ky3 (fun h => h))
      refine hK.out _ _ ⟨x0y3, x1y3, h2y3, h3y3, h4y3⟩ (fun hHeld => ?_)
      clear hK K
      try go_frame
      refine wO 8 (fun K hK => ?_)
      obtain ⟨gb, hgb⟩ : ∃ g, g = wf.heap.size := ⟨_, rfl⟩
      have RG : Hid (y3.rowIs gb 69 2 (fun i => (#[.slice none 0 0, .int .i64 0] : Array Value).getD i undef)) := by show World.rowIs _ _ _ _ _; rw [hgb]; exact RZy3.out
      have HGB : Hid (wf.heap.size ≤ gb) := by show _ ≤ _; rw [hgb]; exact HG.out
      have HGX : Hid (∀ k, (y2.heap.size ≤ k ∧ k < y3.heap.size) → k ≠ gb) := fun k hk e => by have := HGW.out; rw [← hgb] at this; omega
      rw [← hgb]
      clear hgb
      have v0 : y3.cell? ⟨gb, 0, none⟩ = some (.slice none 0 0) := RG.out.cell (i := 0) (by omega)
      have v1 : y3.cell? ⟨gb, 1, none⟩ = some (.int .i64 0) := RG.out.cell (i := 1) (by omega)
      have v2 := RG.out.frozen 0
      have v3 := RG.out.frozen 1
      go_simp
      obtain ⟨wg, hWg⟩ : ∃ y : World, y = (y3.setCell ⟨gb, 0, none⟩ (.slice ab nb cb)).setCell ⟨gb, 1, none⟩ (.int .i64 y9) := ⟨_, rfl⟩
      rw [← hWg]
      have XG : Hid (Ext (fun k => k = gb) y3 wg) := by show Ext _ _ _; rw [hWg]; exact ((Ext.refl (fun k => k = gb) y3).setCell (p := ⟨gb, 0, none⟩) (.inr rfl) _).setCell (p := ⟨gb, 1, none⟩) (.inr rfl) _
      have RB : Hid (wg.rowIs gb 69 2 (fun i => (#[.slice ab nb cb, .int .i64 y9] : Array Value).getD i undef)) := by
        show World.rowIs _ _ _ _ _
        rw [hWg]
        exact ((RG.out.set 0 _).set 1 _).congr (fun i hi => by rcases (show i = 0 ∨ i = 1 by omega) with rfl | rfl <;> rfl)
      have x0g := XG.out.cq x0y3 (fun h => by have := HGB.out; change w.heap.size = gb at h; omega)
      have x1g := XG.out.cq x1y3 (fun h => by have := HGB.out; change w.heap.size = gb at h; omega)
      have h2g := XG.out.cq h2y3 (fun h => by have := HGB.out; change fb = gb at h; omega)
      have h3g := XG.out.cq h3y3 (fun h => by have := HGB.out; change fb = gb at h; omega)
      have h4g := XG.out.cq h4y3 (fun h => by have := HGB.out; change fb = gb at h; omega)
      have KG : Hid (Ext (fun k => k = gb) wf wg) := (Keep.to KYy3.out).trans XG.out
      have OG : Hid (Own wg (fun k => wf.heap.size ≤ k ∧ k ≠ gb) (encSteps s9) (.slice ab nb cb)) := (OS.out.mono (D' := fun k => wf.heap.size ≤ k ∧ k ≠ gb) (fun k hk => ⟨Nat.le_trans HWL.out hk.1, HGX.out k hk⟩)).ext XG.out (fun k hk e => hk.2 e)
      clear OS HGX HWL HGW RG hWg v0 v1 v2 v3
      refine hK.out _ _ ⟨x0g, x1g, h2g, h3g, h4g⟩ (fun hHeld => ?_)
      clear hK K
      try go_frame
      refine wpAnyH_done (by kernel_rfl) ?_ _
      rotate_left
      all_goals
        have zn0 := row_ext RQ1.out KG.out (fun h => by have := HGB.out; omega)
        have RQ2 := Lib.hid zn0
        have z1 : wg.cell? ⟨w1.heap.size + 1, 1, none⟩ = some vk := RQ2.out.cell (i := 1) (by omega)
        have RF2 := Lib.hid (row_ext RF'.out KG.out (fun h => by have := HGB.out; omega))
        have h0 : wg.cell? ⟨fb, 0, none⟩ = some (.slice ap np cp) := RF2.out.cell (i := 0) (by simp)
        have h1 : wg.cell? ⟨fb, 1, none⟩ = some (.int .i64 (fAt fs j).result) := RF2.out.cell (i := 1) (by simp)
        have b0 : wg.cell? ⟨gb, 0, none⟩ = some (.slice ab nb cb) := RB.out.cell (i := 0) (by omega)
        have b1 : wg.cell? ⟨gb, 1, none⟩ = some (.int .i64 y9) := RB.out.cell (i := 1) (by omega)
        have HA2 := Lib.hid (HA1.out.ext KG.out (fun k hk _ e => by have := HGB.out; omega))
        have QP2 := Lib.hid (QP.out.ext KG.out (fun k hk e => by have := HGB.out; omega))
        have QPD := Lib.hid QP2.out.kd
        have ZG : Hid (wf.heap.size ≤ wg.heap.size) := KG.out.size
        have OSL := Lib.hid (OG.out.read.mono (D' := fun k => wf.heap.size ≤ k) (fun k hk => hk.1))
        clear zn0
        go_wp2_with fail
        refine wp_region_held_drew (S := fun w' => w'.cell? ⟨fb, 0, none⟩ = some (.slice ap np cp) ∧ w'.cell? ⟨fb, 1, none⟩ = some (.int .i64 (fAt fs j).result) ∧ w'.cell? ⟨gb, 0, none⟩ = some (.slice ab nb cb) ∧ w'.cell? ⟨gb, 1, none⟩ = some (.int .i64 y9)) (by kernel_rfl) ⟨h0, h1, b0, b1⟩ (fun hHeld => ?_)
        refine wT 0 hHeld ?_
        try go_frame
        refine wT 2 hHeld ?_
        try go_frame
        refine wT 3 hHeld ?_
        try go_frame
        refine wT 6 hHeld ?_
        try go_frame
        refine wT 7 hHeld ?_
        try go_frame
        refine wT 8 hHeld ?_
        try go_frame
        refine wpAnyH_ready (rs := [1, 4, 5]) (by kernel_rfl) (by simp) ?_
        refine allReadyH_consL rfl (by rfl) (fun K hK => ?_) (allReadyH_consL rfl (by rfl) (fun K hK => ?_) (allReadyH_consL rfl (by rfl) (fun K hK => ?_) (AllReadyH.nil)))
        go_simp
        refine hK.out _ _ ⟨h0, h1, b0, b1⟩ (fun hHeld => ?_)
        clear hK K
        try go_frame
        refine wpAnyH_ready (rs := [4, 5]) (by kernel_rfl) (by simp) ?_
        refine allReadyH_consL rfl (by rfl) (fun K hK => ?_) (allReadyH_consL rfl (by rfl) (fun K hK => ?_) (AllReadyH.nil))
        go_simp
        go_at_call 102
        refine (copyInts_any ap np cp _ _ wg.drew QPD.out.toInts (by omega)).mono ?_
        rintro e y1 ⟨a5, c5, rfl, hc5, o5, ky1⟩
        have h0y1 := Keep.at ky1 h0
        have h1y1 := Keep.at ky1 h1
        have b0y1 := Keep.at ky1 b0
        have b1y1 := Keep.at ky1 b1
        have z1y1 := Keep.at ky1 z1
        have OP := Lib.hid ((o5.read.toRd hc5 (by omega)).mono (D' := fun k => wf.heap.size ≤ k) (fun k hk => Nat.le_trans (Nat.le_trans ZG.out (Nat.le_refl _)) hk))
        clear o5
        have KVy1 : Hid (Keep wg y1) := Keep.dt ky1
        refine hK.out _ _ ⟨h0y1, h1y1, b0y1, b1y1⟩ (fun hHeld => ?_)
        clear hK K
        try go_frame
        refine wO 5 (fun K hK => ?_)
        go_simp
        obtain ⟨y2, hWy2⟩ : ∃ y : World, y = (y1.alloc (.cells #[] 3)) := ⟨_, rfl⟩
        rw [← hWy2]
        have ky2 : Keep y1 y2 := by rw [hWy2]; exact Keep.al y1 (.cells #[] 3)
        have hzy2 : Hid (y2.heap.size = y1.heap.size + 1) := by show _ = _; rw [hWy2]; exact World.size_alloc _ _
        have h0y2 := ky2.cq h0y1 (fun h => h)
        have h1y2 := ky2.cq h1y1 (fun h => h)
        have b0y2 := ky2.cq b0y1 (fun h => h)
        have b1y2 := ky2.cq b1y1 (fun h => h)
        have z1y2 := ky2.cq z1y1 (fun h => h)
        replace hWy2 := Lib.hid hWy2
        replace OP := Lib.hid (OP.out.k ky2)
        have KVy2 : Hid (Keep wg y2) := KVy1.out.trans ky2
        refine hK.out _ _ ⟨h0y2, h1y2, b0y2, b1y2⟩ (fun hHeld => ?_)
        clear hK K
        try go_frame
        refine wT 9 hHeld ?_
        try go_frame
        refine wO 10 (fun K hK => ?_)
        go_simp
        obtain ⟨y3, hWy3⟩ : ∃ y : World, y = (y2.alloc (.cells #[.slice a5 np c5, .slice (some ⟨y1.heap.size, 0, none⟩) 0 0, .int .i64 (fAt fs j).result, .slice ab nb cb, .int .i64 y9] 71)) := ⟨_, rfl⟩
        rw [← hWy3]
        have ky3 : Keep y2 y3 := by rw [hWy3]; exact Keep.al y2 (.cells #[.slice a5 np c5, .slice (some ⟨y1.heap.size, 0, none⟩) 0 0, .int .i64 (fAt fs j).result, .slice ab nb cb, .int .i64 y9] 71)
        have hzy3 : Hid (y3.heap.size = y2.heap.size + 1) := by show _ = _; rw [hWy3]; exact World.size_alloc _ _
        have h0y3 := ky3.cq h0y2 (fun h => h)
        have h1y3 := ky3.cq h1y2 (fun h => h)
        have b0y3 := ky3.cq b0y2 (fun h => h)
        have b1y3 := ky3.cq b1y2 (fun h => h)
        have z1y3 := ky3.cq z1y2 (fun h => h)
        have RL : Hid (Rd y3 (fun k => wf.heap.size ≤ k) (.arr 5 [rowR ⟨(fAt fs j).params, [], (fAt fs j).result, .mk s9 y9⟩]) (.slice (some ⟨y2.heap.size, 0, none⟩) 1 1)) := by
          show Rd _ _ _ _
          rw [hWy3]
          exact lit_rout1 y2 (fun k => wf.heap.size ≤ k) 71 ⟨(fAt fs j).params, [], (fAt fs j).result, .mk s9 y9⟩ _ _ _ (some ⟨y1.heap.size, 0, none⟩) 0 0 _ _ _ (Nat.le_trans ZG.out KVy2.out.size) OP.out (.nil _ _ _) (OSL.out.k KVy2.out)
        have hbr : w1.heap.size ≤ y3.heap.size := by have h5 := ky3.size; have h6 := KVy2.out.size; have h7 := ZG.out; omega
        replace hWy3 := Lib.hid hWy3
        have KVy3 : Hid (Keep wg y3) := KVy2.out.trans ky3
        refine hK.out _ _ ⟨h0y3, h1y3, b0y3, b1y3⟩ (fun hHeld => ?_)
        clear hK K
        try go_frame
        refine wO 11 (fun K hK => ?_)
        refine wp_appR _ (.tmp 36) (.tmp 45) 28 rfl w1.heap.size 71 (.agg #[.slice none 0 0, .slice none 0 0, .int .i64 0, .slice none 0 0, .int .i64 0]) 5 88 Tryz.underlying28 (by kernel_rfl) rfl (by omega) (fun k => w1.heap.size + 2 ≤ k) vk _ rfl (HA2.out.keep KVy3.out) _ 1 1 [rowR ⟨(fAt fs j).params, [], (fAt fs j).result, .mk s9 y9⟩] _ rfl RL.out (fun k _ hk => ⟨Nat.le_trans (Nat.le_of_lt hw9) hk, fun e => absurd (HA1.out.bound k e).2 (Nat.not_lt.2 hk)⟩) (by rw [HLR.out]; omega) (by rw [HLR.out]; omega) hbr ?_
        intro v1 wz hA9 x9 q9
        have hno : ∀ k, wf.heap.size ≤ k ∨ k = fb → ¬ vk.ownBlock = some k := fun k hk e => by
          have h5 := (HA1.out.bound k e).2
          rcases hk with hk | hk
          · omega
          · have h6 := (HA.out.bound k e).2; have h7 := HFB.out; omega
        have KZ := Lib.hid ((Keep.to KVy3.out : Ext (fun k => vk.ownBlock = some k) wg y3).trans x9)
        have X9 := Lib.hid x9
        have A9 := Lib.hid hA9
        have B9 : Hid (∀ k, v1.ownBlock = some k → vk.ownBlock = some k ∨ w1.heap.size + 2 ≤ k) := fun k hk => by
          rcases q9 with e | e
          · rw [e] at hk; exact .inl hk
          · rw [e] at hk; injection hk with hk; have h5 := KVy3.out.size; have h6 := ZG.out; exact .inr (by omega)
        obtain ⟨av, cv, e9, _, _, _⟩ := hA9.read (by omega)
        obtain ⟨nv9, hnv9⟩ : ∃ m, ((fs.take j).map (fun f => rowR (nrmF ds f)) ++ [rowR ⟨(fAt fs j).params, [], (fAt fs j).result, .mk s9 y9⟩]).length = m := ⟨_, rfl⟩
        rw [hnv9] at e9
        clear hnv9
        subst e9
        clear hA9 x9 q9
        have h0z := X9.out.cq h0y3 (hno _ (.inr rfl))
        have h1z := X9.out.cq h1y3 (hno _ (.inr rfl))
        have b0z := X9.out.cq b0y3 (hno _ (.inl HGB.out))
        have b1z := X9.out.cq b1y3 (hno _ (.inl HGB.out))
        refine hK.out _ _ ⟨h0z, h1z, b0z, b1z⟩ (fun hHeld => ?_)
        clear hK K
        try go_frame
        refine wT 12 hHeld ?_
        try go_frame
        refine wO 13 (fun K hK => ?_)
        have RQ9 : Hid (wz.rowIs (w1.heap.size + 1) 30 2 (fun i => (#[.slice ad nd cd, vk] : Array Value).getD i undef)) := row_ext RQ2.out KZ.out (fun e => by rcases HB.out _ e with h | h <;> omega)
        have g1 : wz.cell? ⟨w1.heap.size + 1, 1, none⟩ = some vk := RQ9.out.cell (i := 1) (by omega)
        have g2 := RQ9.out.frozen 1
        have hq1 : w1.heap.size + 1 ≠ fb := by have := HFB.out; have := HZ.out; omega
        have hq2 : w1.heap.size + 1 ≠ gb := by have := HGB.out; omega
        go_simp
        obtain ⟨wy, hWy⟩ : ∃ y : World, y = wz.setCell ⟨w1.heap.size + 1, 1, none⟩ (.slice av nv9 cv) := ⟨_, rfl⟩
        rw [← hWy]
        have XY : Hid (Ext (fun k => k = w1.heap.size + 1) wz wy) := by show Ext _ _ _; rw [hWy]; exact (Ext.refl (fun k => k = w1.heap.size + 1) wz).setCell (p := ⟨w1.heap.size + 1, 1, none⟩) (.inr rfl) _
        have RY : Hid (wy.rowIs (w1.heap.size + 1) 30 2 (fun i => (#[.slice ad nd cd, .slice av nv9 cv] : Array Value).getD i undef)) := by
          show World.rowIs _ _ _ _ _
          rw [hWy]
          exact (RQ9.out.set 1 _).congr (fun i hi => by rcases (show i = 0 ∨ i = 1 by omega) with rfl | rfl <;> rfl)
        replace hWy := Lib.hid hWy
        have h0y := XY.out.cq h0z (fun h => hq1 h.symm)
        have h1y := XY.out.cq h1z (fun h => hq1 h.symm)
        have b0y := XY.out.cq b0z (fun h => hq2 h.symm)
        have b1y := XY.out.cq b1z (fun h => hq2 h.symm)
        refine hK.out _ _ ⟨h0y, h1y, b0y, b1y⟩ (fun hHeld => ?_)
        clear hK K
        try go_frame
        refine wpAnyH_done (by kernel_rfl) ?_ _
        rotate_left
        go_simp
        obtain ⟨y1, hWy1⟩ : ∃ y : World, y = (wg.alloc (.cells #[] 3)).drew := ⟨_, rfl⟩
        rw [← hWy1]
        have ky1 : Keep wg.drew y1 := by rw [hWy1]; exact Keep.al wg.drew (.cells #[] 3)
        have hzy1 : Hid (y1.heap.size = wg.heap.size + 1) := by show _ = _; rw [hWy1]; exact World.size_alloc _ _
        have h0y1 := Keep.at ky1 h0
        have h1y1 := Keep.at ky1 h1
        have b0y1 := Keep.at ky1 b0
        have b1y1 := Keep.at ky1 b1
        have z1y1 := Keep.at ky1 z1
        replace hWy1 := Lib.hid hWy1
        have KVy1 : Hid (Keep wg y1) := Keep.dt ky1
        refine hK.out _ _ ⟨h0y1, h1y1, b0y1, b1y1⟩ (fun hHeld => ?_)
        clear hK K
        try go_frame
        refine wO 4 (fun K hK => ?_)
        go_simp
        go_at_call 102
        refine (copyInts_any ap np cp _ _ y1 (QP2.out.k KVy1.out).toInts (by omega)).mono ?_
        rintro e y2 ⟨a5, c5, rfl, hc5, o5, ky2⟩
        have h0y2 := ky2.cq h0y1 (fun h => h)
        have h1y2 := ky2.cq h1y1 (fun h => h)
        have b0y2 := ky2.cq b0y1 (fun h => h)
        have b1y2 := ky2.cq b1y1 (fun h => h)
        have z1y2 := ky2.cq z1y1 (fun h => h)
        have OP := Lib.hid ((o5.read.toRd hc5 (by omega)).mono (D' := fun k => wf.heap.size ≤ k) (fun k hk => Nat.le_trans (Nat.le_trans ZG.out KVy1.out.size) hk))
        clear o5
        have KVy2 : Hid (Keep wg y2) := KVy1.out.trans ky2
        refine hK.out _ _ ⟨h0y2, h1y2, b0y2, b1y2⟩ (fun hHeld => ?_)
        clear hK K
        try go_frame
        refine wT 9 hHeld ?_
        try go_frame
        refine wO 10 (fun K hK => ?_)
        go_simp
        obtain ⟨y3, hWy3⟩ : ∃ y : World, y = (y2.alloc (.cells #[.slice a5 np c5, .slice (some ⟨wg.heap.size, 0, none⟩) 0 0, .int .i64 (fAt fs j).result, .slice ab nb cb, .int .i64 y9] 71)) := ⟨_, rfl⟩
        rw [← hWy3]
        have ky3 : Keep y2 y3 := by rw [hWy3]; exact Keep.al y2 (.cells #[.slice a5 np c5, .slice (some ⟨wg.heap.size, 0, none⟩) 0 0, .int .i64 (fAt fs j).result, .slice ab nb cb, .int .i64 y9] 71)
        have hzy3 : Hid (y3.heap.size = y2.heap.size + 1) := by show _ = _; rw [hWy3]; exact World.size_alloc _ _
        have h0y3 := ky3.cq h0y2 (fun h => h)
        have h1y3 := ky3.cq h1y2 (fun h => h)
        have b0y3 := ky3.cq b0y2 (fun h => h)
        have b1y3 := ky3.cq b1y2 (fun h => h)
        have z1y3 := ky3.cq z1y2 (fun h => h)
        have RL : Hid (Rd y3 (fun k => wf.heap.size ≤ k) (.arr 5 [rowR ⟨(fAt fs j).params, [], (fAt fs j).result, .mk s9 y9⟩]) (.slice (some ⟨y2.heap.size, 0, none⟩) 1 1)) := by
          show Rd _ _ _ _
          rw [hWy3]
          exact lit_rout1 y2 (fun k => wf.heap.size ≤ k) 71 ⟨(fAt fs j).params, [], (fAt fs j).result, .mk s9 y9⟩ _ _ _ (some ⟨wg.heap.size, 0, none⟩) 0 0 _ _ _ (Nat.le_trans ZG.out KVy2.out.size) OP.out (.nil _ _ _) (OSL.out.k KVy2.out)
        have hbr : w1.heap.size ≤ y3.heap.size := by have h5 := ky3.size; have h6 := KVy2.out.size; have h7 := ZG.out; omega
        replace hWy3 := Lib.hid hWy3
        have KVy3 : Hid (Keep wg y3) := KVy2.out.trans ky3
        refine hK.out _ _ ⟨h0y3, h1y3, b0y3, b1y3⟩ (fun hHeld => ?_)
        clear hK K
        try go_frame
        refine wO 11 (fun K hK => ?_)
        refine wp_appR _ (.tmp 36) (.tmp 45) 28 rfl w1.heap.size 71 (.agg #[.slice none 0 0, .slice none 0 0, .int .i64 0, .slice none 0 0, .int .i64 0]) 5 88 Tryz.underlying28 (by kernel_rfl) rfl (by omega) (fun k => w1.heap.size + 2 ≤ k) vk _ rfl (HA2.out.keep KVy3.out) _ 1 1 [rowR ⟨(fAt fs j).params, [], (fAt fs j).result, .mk s9 y9⟩] _ rfl RL.out (fun k _ hk => ⟨Nat.le_trans (Nat.le_of_lt hw9) hk, fun e => absurd (HA1.out.bound k e).2 (Nat.not_lt.2 hk)⟩) (by rw [HLR.out]; omega) (by rw [HLR.out]; omega) hbr ?_
        intro v1 wz hA9 x9 q9
        have hno : ∀ k, wf.heap.size ≤ k ∨ k = fb → ¬ vk.ownBlock = some k := fun k hk e => by
          have h5 := (HA1.out.bound k e).2
          rcases hk with hk | hk
          · omega
          · have h6 := (HA.out.bound k e).2; have h7 := HFB.out; omega
        have KZ := Lib.hid ((Keep.to KVy3.out : Ext (fun k => vk.ownBlock = some k) wg y3).trans x9)
        have X9 := Lib.hid x9
        have A9 := Lib.hid hA9
        have B9 : Hid (∀ k, v1.ownBlock = some k → vk.ownBlock = some k ∨ w1.heap.size + 2 ≤ k) := fun k hk => by
          rcases q9 with e | e
          · rw [e] at hk; exact .inl hk
          · rw [e] at hk; injection hk with hk; have h5 := KVy3.out.size; have h6 := ZG.out; exact .inr (by omega)
        obtain ⟨av, cv, e9, _, _, _⟩ := hA9.read (by omega)
        obtain ⟨nv9, hnv9⟩ : ∃ m, ((fs.take j).map (fun f => rowR (nrmF ds f)) ++ [rowR ⟨(fAt fs j).params, [], (fAt fs j).result, .mk s9 y9⟩]).length = m := ⟨_, rfl⟩
        rw [hnv9] at e9
        clear hnv9
        subst e9
        clear hA9 x9 q9
        have h0z := X9.out.cq h0y3 (hno _ (.inr rfl))
        have h1z := X9.out.cq h1y3 (hno _ (.inr rfl))
        have b0z := X9.out.cq b0y3 (hno _ (.inl HGB.out))
        have b1z := X9.out.cq b1y3 (hno _ (.inl HGB.out))
        refine hK.out _ _ ⟨h0z, h1z, b0z, b1z⟩ (fun hHeld => ?_)
        clear hK K
        try go_frame
        refine wT 12 hHeld ?_
        try go_frame
        refine wO 13 (fun K hK => ?_)
        have RQ9 : Hid (wz.rowIs (w1.heap.size + 1) 30 2 (fun i => (#[.slice ad nd cd, vk] : Array Value).getD i undef)) := row_ext RQ2.out KZ.out (fun e => by rcases HB.out _ e with h | h <;> omega)
        have g1 : wz.cell? ⟨w1.heap.size + 1, 1, none⟩ = some vk := RQ9.out.cell (i := 1) (by omega)
        have g2 := RQ9.out.frozen 1
        have hq1 : w1.heap.size + 1 ≠ fb := by have := HFB.out; have := HZ.out; omega
        have hq2 : w1.heap.size + 1 ≠ gb := by have := HGB.out; omega
        go_simp
        obtain ⟨wy, hWy⟩ : ∃ y : World, y = wz.setCell ⟨w1.heap.size + 1, 1, none⟩ (.slice av nv9 cv) := ⟨_, rfl⟩
        rw [← hWy]
        have XY : Hid (Ext (fun k => k = w1.heap.size + 1) wz wy) := by show Ext _ _ _; rw [hWy]; exact (Ext.refl (fun k => k = w1.heap.size + 1) wz).setCell (p := ⟨w1.heap.size + 1, 1, none⟩) (.inr rfl) _
        have RY : Hid (wy.rowIs (w1.heap.size + 1) 30 2 (fun i => (#[.slice ad nd cd, .slice av nv9 cv] : Array Value).getD i undef)) := by
          show World.rowIs _ _ _ _ _
          rw [hWy]
          exact (RQ9.out.set 1 _).congr (fun i hi => by rcases (show i = 0 ∨ i = 1 by omega) with rfl | rfl <;> rfl)
        replace hWy := Lib.hid hWy
        have h0y := XY.out.cq h0z (fun h => hq1 h.symm)
        have h1y := XY.out.cq h1z (fun h => hq1 h.symm)
        have b0y := XY.out.cq b0z (fun h => hq2 h.symm)
        have b1y := XY.out.cq b1z (fun h => hq2 h.symm)
        refine hK.out _ _ ⟨h0y, h1y, b0y, b1y⟩ (fun hHeld => ?_)
        clear hK K
        try go_frame
        refine wpAnyH_done (by kernel_rfl) ?_ _
        rotate_left
        go_simp
        go_at_call 102
        refine (copyInts_any ap np cp _ _ wg.drew QPD.out.toInts (by omega)).mono ?_
        rintro e y1 ⟨a5, c5, rfl, hc5, o5, ky1⟩
        have h0y1 := Keep.at ky1 h0
        have h1y1 := Keep.at ky1 h1
        have b0y1 := Keep.at ky1 b0
        have b1y1 := Keep.at ky1 b1
        have z1y1 := Keep.at ky1 z1
        have OP := Lib.hid ((o5.read.toRd hc5 (by omega)).mono (D' := fun k => wf.heap.size ≤ k) (fun k hk => Nat.le_trans (Nat.le_trans ZG.out (Nat.le_refl _)) hk))
        clear o5
        have KVy1 : Hid (Keep wg y1) := Keep.dt ky1
        refine hK.out _ _ ⟨h0y1, h1y1, b0y1, b1y1⟩ (fun hHeld => ?_)
        clear hK K
        try go_frame
        refine wpAnyH_ready (rs := [1, 5]) (by kernel_rfl) (by simp) ?_
        refine allReadyH_consL rfl (by rfl) (fun K hK => ?_) (allReadyH_consL rfl (by rfl) (fun K hK => ?_) (AllReadyH.nil))
        go_simp
        refine hK.out _ _ ⟨h0y1, h1y1, b0y1, b1y1⟩ (fun hHeld => ?_)
        clear hK K
        try go_frame
        refine wO 5 (fun K hK => ?_)
        go_simp
        obtain ⟨y2, hWy2⟩ : ∃ y : World, y = (y1.alloc (.cells #[] 3)) := ⟨_, rfl⟩
        rw [← hWy2]
        have ky2 : Keep y1 y2 := by rw [hWy2]; exact Keep.al y1 (.cells #[] 3)
        have hzy2 : Hid (y2.heap.size = y1.heap.size + 1) := by show _ = _; rw [hWy2]; exact World.size_alloc _ _
        have h0y2 := ky2.cq h0y1 (fun h => h)
        have h1y2 := ky2.cq h1y1 (fun h => h)
        have b0y2 := ky2.cq b0y1 (fun h => h)
        have b1y2 := ky2.cq b1y1 (fun h => h)
        have z1y2 := ky2.cq z1y1 (fun h => h)
        replace hWy2 := Lib.hid hWy2
        replace OP := Lib.hid (OP.out.k ky2)
        have KVy2 : Hid (Keep wg y2) := KVy1.out.trans ky2
        refine hK.out _ _ ⟨h0y2, h1y2, b0y2, b1y2⟩ (fun hHeld => ?_)
        clear hK K
        try go_frame
        refine wT 9 hHeld ?_
        try go_frame
        refine wO 10 (fun K hK => ?_)
        go_simp
        obtain ⟨y3, hWy3⟩ : ∃ y : World, y = (y2.alloc (.cells #[.slice a5 np c5, .slice (some ⟨y1.heap.size, 0, none⟩) 0 0, .int .i64 (fAt fs j).result, .slice ab nb cb, .int .i64 y9] 71)) := ⟨_, rfl⟩
        rw [← hWy3]
        have ky3 : Keep y2 y3 := by rw [hWy3]; exact Keep.al y2 (.cells #[.slice a5 np c5, .slice (some ⟨y1.heap.size, 0, none⟩) 0 0, .int .i64 (fAt fs j).result, .slice ab nb cb, .int .i64 y9] 71)
        have hzy3 : Hid (y3.heap.size = y2.heap.size + 1) := by show _ = _; rw [hWy3]; exact World.size_alloc _ _
        have h0y3 := ky3.cq h0y2 (fun h => h)
        have h1y3 := ky3.cq h1y2 (fun h => h)
        have b0y3 := ky3.cq b0y2 (fun h => h)
        have b1y3 := ky3.cq b1y2 (fun h => h)
        have z1y3 := ky3.cq z1y2 (fun h => h)
        have RL : Hid (Rd y3 (fun k => wf.heap.size ≤ k) (.arr 5 [rowR ⟨(fAt fs j).params, [], (fAt fs j).result, .mk s9 y9⟩]) (.slice (some ⟨y2.heap.size, 0, none⟩) 1 1)) := by
          show Rd _ _ _ _
          rw [hWy3]
          exact lit_rout1 y2 (fun k => wf.heap.size ≤ k) 71 ⟨(fAt fs j).params, [], (fAt fs j).result, .mk s9 y9⟩ _ _ _ (some ⟨y1.heap.size, 0, none⟩) 0 0 _ _ _ (Nat.le_trans ZG.out KVy2.out.size) OP.out (.nil _ _ _) (OSL.out.k KVy2.out)
        have hbr : w1.heap.size ≤ y3.heap.size := by have h5 := ky3.size; have h6 := KVy2.out.size; have h7 := ZG.out; omega
        replace hWy3 := Lib.hid hWy3
        have KVy3 : Hid (Keep wg y3) := KVy2.out.trans ky3
        refine hK.out _ _ ⟨h0y3, h1y3, b0y3, b1y3⟩ (fun hHeld => ?_)
        clear hK K
        try go_frame
        refine wO 11 (fun K hK => ?_)
        refine wp_appR _ (.tmp 36) (.tmp 45) 28 rfl w1.heap.size 71 (.agg #[.slice none 0 0, .slice none 0 0, .int .i64 0, .slice none 0 0, .int .i64 0]) 5 88 Tryz.underlying28 (by kernel_rfl) rfl (by omega) (fun k => w1.heap.size + 2 ≤ k) vk _ rfl (HA2.out.keep KVy3.out) _ 1 1 [rowR ⟨(fAt fs j).params, [], (fAt fs j).result, .mk s9 y9⟩] _ rfl RL.out (fun k _ hk => ⟨Nat.le_trans (Nat.le_of_lt hw9) hk, fun e => absurd (HA1.out.bound k e).2 (Nat.not_lt.2 hk)⟩) (by rw [HLR.out]; omega) (by rw [HLR.out]; omega) hbr ?_
        intro v1 wz hA9 x9 q9
        have hno : ∀ k, wf.heap.size ≤ k ∨ k = fb → ¬ vk.ownBlock = some k := fun k hk e => by
          have h5 := (HA1.out.bound k e).2
          rcases hk with hk | hk
          · omega
          · have h6 := (HA.out.bound k e).2; have h7 := HFB.out; omega
        have KZ := Lib.hid ((Keep.to KVy3.out : Ext (fun k => vk.ownBlock = some k) wg y3).trans x9)
        have X9 := Lib.hid x9
        have A9 := Lib.hid hA9
        have B9 : Hid (∀ k, v1.ownBlock = some k → vk.ownBlock = some k ∨ w1.heap.size + 2 ≤ k) := fun k hk => by
          rcases q9 with e | e
          · rw [e] at hk; exact .inl hk
          · rw [e] at hk; injection hk with hk; have h5 := KVy3.out.size; have h6 := ZG.out; exact .inr (by omega)
        obtain ⟨av, cv, e9, _, _, _⟩ := hA9.read (by omega)
        obtain ⟨nv9, hnv9⟩ : ∃ m, ((fs.take j).map (fun f => rowR (nrmF ds f)) ++ [rowR ⟨(fAt fs j).params, [], (fAt fs j).result, .mk s9 y9⟩]).length = m := ⟨_, rfl⟩
        rw [hnv9] at e9
        clear hnv9
        subst e9
        clear hA9 x9 q9
        have h0z := X9.out.cq h0y3 (hno _ (.inr rfl))
        have h1z := X9.out.cq h1y3 (hno _ (.inr rfl))
        have b0z := X9.out.cq b0y3 (hno _ (.inl HGB.out))
        have b1z := X9.out.cq b1y3 (hno _ (.inl HGB.out))
        refine hK.out _ _ ⟨h0z, h1z, b0z, b1z⟩ (fun hHeld => ?_)
        clear hK K
        try go_frame
        refine wT 12 hHeld ?_
        try go_frame
        refine wO 13 (fun K hK => ?_)
        have RQ9 : Hid (wz.rowIs (w1.heap.size + 1) 30 2 (fun i => (#[.slice ad nd cd, vk] : Array Value).getD i undef)) := row_ext RQ2.out KZ.out (fun e => by rcases HB.out _ e with h | h <;> omega)
        have g1 : wz.cell? ⟨w1.heap.size + 1, 1, none⟩ = some vk := RQ9.out.cell (i := 1) (by omega)
        have g2 := RQ9.out.frozen 1
        have hq1 : w1.heap.size + 1 ≠ fb := by have := HFB.out; have := HZ.out; omega
        have hq2 : w1.heap.size + 1 ≠ gb := by have := HGB.out; omega
        go_simp
        obtain ⟨wy, hWy⟩ : ∃ y : World, y = wz.setCell ⟨w1.heap.size + 1, 1, none⟩ (.slice av nv9 cv) := ⟨_, rfl⟩
        rw [← hWy]
        have XY : Hid (Ext (fun k => k = w1.heap.size + 1) wz wy) := by show Ext _ _ _; rw [hWy]; exact (Ext.refl (fun k => k = w1.heap.size + 1) wz).setCell (p := ⟨w1.heap.size + 1, 1, none⟩) (.inr rfl) _
        have RY : Hid (wy.rowIs (w1.heap.size + 1) 30 2 (fun i => (#[.slice ad nd cd, .slice av nv9 cv] : Array Value).getD i undef)) := by
          show World.rowIs _ _ _ _ _
          rw [hWy]
          exact (RQ9.out.set 1 _).congr (fun i hi => by rcases (show i = 0 ∨ i = 1 by omega) with rfl | rfl <;> rfl)
        replace hWy := Lib.hid hWy
        have h0y := XY.out.cq h0z (fun h => hq1 h.symm)
        have h1y := XY.out.cq h1z (fun h => hq1 h.symm)
        have b0y := XY.out.cq b0z (fun h => hq2 h.symm)
        have b1y := XY.out.cq b1z (fun h => hq2 h.symm)
        refine hK.out _ _ ⟨h0y, h1y, b0y, b1y⟩ (fun hHeld => ?_)
        clear hK K
        try go_frame
        refine wpAnyH_done (by kernel_rfl) ?_ _
        rotate_left
        go_simp
        obtain ⟨y2, hWy2⟩ : ∃ y : World, y = (y1.alloc (.cells #[] 3)) := ⟨_, rfl⟩
        rw [← hWy2]
        have ky2 : Keep y1 y2 := by rw [hWy2]; exact Keep.al y1 (.cells #[] 3)
        have hzy2 : Hid (y2.heap.size = y1.heap.size + 1) := by show _ = _; rw [hWy2]; exact World.size_alloc _ _
        have h0y2 := ky2.cq h0y1 (fun h => h)
        have h1y2 := ky2.cq h1y1 (fun h => h)
        have b0y2 := ky2.cq b0y1 (fun h => h)
        have b1y2 := ky2.cq b1y1 (fun h => h)
        have z1y2 := ky2.cq z1y1 (fun h => h)
        replace hWy2 := Lib.hid hWy2
        replace OP := Lib.hid (OP.out.k ky2)
        have KVy2 : Hid (Keep wg y2) := KVy1.out.trans ky2
        refine hK.out _ _ ⟨h0y2, h1y2, b0y2, b1y2⟩ (fun hHeld => ?_)
        clear hK K
        try go_frame
        refine wT 9 hHeld ?_
        try go_frame
        refine wpAnyH_ready (rs := [1, 10]) (by kernel_rfl) (by simp) ?_
        refine allReadyH_consL rfl (by rfl) (fun K hK => ?_) (allReadyH_consL rfl (by rfl) (fun K hK => ?_) (AllReadyH.nil))
        go_simp
        refine hK.out _ _ ⟨h0y2, h1y2, b0y2, b1y2⟩ (fun hHeld => ?_)
        clear hK K
        try go_frame
        refine wO 10 (fun K hK => ?_)
        go_simp
        obtain ⟨y3, hWy3⟩ : ∃ y : World, y = (y2.alloc (.cells #[.slice a5 np c5, .slice (some ⟨y1.heap.size, 0, none⟩) 0 0, .int .i64 (fAt fs j).result, .slice ab nb cb, .int .i64 y9] 71)) := ⟨_, rfl⟩
        rw [← hWy3]
        have ky3 : Keep y2 y3 := by rw [hWy3]; exact Keep.al y2 (.cells #[.slice a5 np c5, .slice (some ⟨y1.heap.size, 0, none⟩) 0 0, .int .i64 (fAt fs j).result, .slice ab nb cb, .int .i64 y9] 71)
        have hzy3 : Hid (y3.heap.size = y2.heap.size + 1) := by show _ = _; rw [hWy3]; exact World.size_alloc _ _
        have h0y3 := ky3.cq h0y2 (fun h => h)
        have h1y3 := ky3.cq h1y2 (fun h => h)
        have b0y3 := ky3.cq b0y2 (fun h => h)
        have b1y3 := ky3.cq b1y2 (fun h => h)
        have z1y3 := ky3.cq z1y2 (fun h => h)
        have RL : Hid (Rd y3 (fun k => wf.heap.size ≤ k) (.arr 5 [rowR ⟨(fAt fs j).params, [], (fAt fs j).result, .mk s9 y9⟩]) (.slice (some ⟨y2.heap.size, 0, none⟩) 1 1)) := by
          show Rd _ _ _ _
          rw [hWy3]
          exact lit_rout1 y2 (fun k => wf.heap.size ≤ k) 71 ⟨(fAt fs j).params, [], (fAt fs j).result, .mk s9 y9⟩ _ _ _ (some ⟨y1.heap.size, 0, none⟩) 0 0 _ _ _ (Nat.le_trans ZG.out KVy2.out.size) OP.out (.nil _ _ _) (OSL.out.k KVy2.out)
        have hbr : w1.heap.size ≤ y3.heap.size := by have h5 := ky3.size; have h6 := KVy2.out.size; have h7 := ZG.out; omega
        replace hWy3 := Lib.hid hWy3
        have KVy3 : Hid (Keep wg y3) := KVy2.out.trans ky3
        refine hK.out _ _ ⟨h0y3, h1y3, b0y3, b1y3⟩ (fun hHeld => ?_)
        clear hK K
        try go_frame
        refine wO 11 (fun K hK => ?_)
        refine wp_appR _ (.tmp 36) (.tmp 45) 28 rfl w1.heap.size 71 (.agg #[.slice none 0 0, .slice none 0 0, .int .i64 0, .slice none 0 0, .int .i64 0]) 5 88 Tryz.underlying28 (by kernel_rfl) rfl (by omega) (fun k => w1.heap.size + 2 ≤ k) vk _ rfl (HA2.out.keep KVy3.out) _ 1 1 [rowR ⟨(fAt fs j).params, [], (fAt fs j).result, .mk s9 y9⟩] _ rfl RL.out (fun k _ hk => ⟨Nat.le_trans (Nat.le_of_lt hw9) hk, fun e => absurd (HA1.out.bound k e).2 (Nat.not_lt.2 hk)⟩) (by rw [HLR.out]; omega) (by rw [HLR.out]; omega) hbr ?_
        intro v1 wz hA9 x9 q9
        have hno : ∀ k, wf.heap.size ≤ k ∨ k = fb → ¬ vk.ownBlock = some k := fun k hk e => by
          have h5 := (HA1.out.bound k e).2
          rcases hk with hk | hk
          · omega
          · have h6 := (HA.out.bound k e).2; have h7 := HFB.out; omega
        have KZ := Lib.hid ((Keep.to KVy3.out : Ext (fun k => vk.ownBlock = some k) wg y3).trans x9)
        have X9 := Lib.hid x9
        have A9 := Lib.hid hA9
        have B9 : Hid (∀ k, v1.ownBlock = some k → vk.ownBlock = some k ∨ w1.heap.size + 2 ≤ k) := fun k hk => by
          rcases q9 with e | e
          · rw [e] at hk; exact .inl hk
          · rw [e] at hk; injection hk with hk; have h5 := KVy3.out.size; have h6 := ZG.out; exact .inr (by omega)
        obtain ⟨av, cv, e9, _, _, _⟩ := hA9.read (by omega)
        obtain ⟨nv9, hnv9⟩ : ∃ m, ((fs.take j).map (fun f => rowR (nrmF ds f)) ++ [rowR ⟨(fAt fs j).params, [], (fAt fs j).result, .mk s9 y9⟩]).length = m := ⟨_, rfl⟩
        rw [hnv9] at e9
        clear hnv9
        subst e9
        clear hA9 x9 q9
        have h0z := X9.out.cq h0y3 (hno _ (.inr rfl))
        have h1z := X9.out.cq h1y3 (hno _ (.inr rfl))
        have b0z := X9.out.cq b0y3 (hno _ (.inl HGB.out))
        have b1z := X9.out.cq b1y3 (hno _ (.inl HGB.out))
        refine hK.out _ _ ⟨h0z, h1z, b0z, b1z⟩ (fun hHeld => ?_)
        clear hK K
        try go_frame
        refine wT 12 hHeld ?_
        try go_frame
        refine wO 13 (fun K hK => ?_)
        have RQ9 : Hid (wz.rowIs (w1.heap.size + 1) 30 2 (fun i => (#[.slice ad nd cd, vk] : Array Value).getD i undef)) := row_ext RQ2.out KZ.out (fun e => by rcases HB.out _ e with h | h <;> omega)
        have g1 : wz.cell? ⟨w1.heap.size + 1, 1, none⟩ = some vk := RQ9.out.cell (i := 1) (by omega)
        have g2 := RQ9.out.frozen 1
        have hq1 : w1.heap.size + 1 ≠ fb := by have := HFB.out; have := HZ.out; omega
        have hq2 : w1.heap.size + 1 ≠ gb := by have := HGB.out; omega
        go_simp
        obtain ⟨wy, hWy⟩ : ∃ y : World, y = wz.setCell ⟨w1.heap.size + 1, 1, none⟩ (.slice av nv9 cv) := ⟨_, rfl⟩
        rw [← hWy]
        have XY : Hid (Ext (fun k => k = w1.heap.size + 1) wz wy) := by show Ext _ _ _; rw [hWy]; exact (Ext.refl (fun k => k = w1.heap.size + 1) wz).setCell (p := ⟨w1.heap.size + 1, 1, none⟩) (.inr rfl) _
        have RY : Hid (wy.rowIs (w1.heap.size + 1) 30 2 (fun i => (#[.slice ad nd cd, .slice av nv9 cv] : Array Value).getD i undef)) := by
          show World.rowIs _ _ _ _ _
          rw [hWy]
          exact (RQ9.out.set 1 _).congr (fun i hi => by rcases (show i = 0 ∨ i = 1 by omega) with rfl | rfl <;> rfl)
        replace hWy := Lib.hid hWy
        have h0y := XY.out.cq h0z (fun h => hq1 h.symm)
        have h1y := XY.out.cq h1z (fun h => hq1 h.symm)
        have b0y := XY.out.cq b0z (fun h => hq2 h.symm)
        have b1y := XY.out.cq b1z (fun h => hq2 h.symm)
        refine hK.out _ _ ⟨h0y, h1y, b0y, b1y⟩ (fun hHeld => ?_)
        clear hK K
        try go_frame
        refine wpAnyH_done (by kernel_rfl) ?_ _
        rotate_left
        go_simp
        obtain ⟨y3, hWy3⟩ : ∃ y : World, y = (y2.alloc (.cells #[.slice a5 np c5, .slice (some ⟨y1.heap.size, 0, none⟩) 0 0, .int .i64 (fAt fs j).result, .slice ab nb cb, .int .i64 y9] 71)) := ⟨_, rfl⟩
        rw [← hWy3]
        have ky3 : Keep y2 y3 := by rw [hWy3]; exact Keep.al y2 (.cells #[.slice a5 np c5, .slice (some ⟨y1.heap.size, 0, none⟩) 0 0, .int .i64 (fAt fs j).result, .slice ab nb cb, .int .i64 y9] 71)
        have hzy3 : Hid (y3.heap.size = y2.heap.size + 1) := by show _ = _; rw [hWy3]; exact World.size_alloc _ _
        have h0y3 := ky3.cq h0y2 (fun h => h)
        have h1y3 := ky3.cq h1y2 (fun h => h)
        have b0y3 := ky3.cq b0y2 (fun h => h)
        have b1y3 := ky3.cq b1y2 (fun h => h)
        have z1y3 := ky3.cq z1y2 (fun h => h)
        have RL : Hid (Rd y3 (fun k => wf.heap.size ≤ k) (.arr 5 [rowR ⟨(fAt fs j).params, [], (fAt fs j).result, .mk s9 y9⟩]) (.slice (some ⟨y2.heap.size, 0, none⟩) 1 1)) := by
          show Rd _ _ _ _
          rw [hWy3]
          exact lit_rout1 y2 (fun k => wf.heap.size ≤ k) 71 ⟨(fAt fs j).params, [], (fAt fs j).result, .mk s9 y9⟩ _ _ _ (some ⟨y1.heap.size, 0, none⟩) 0 0 _ _ _ (Nat.le_trans ZG.out KVy2.out.size) OP.out (.nil _ _ _) (OSL.out.k KVy2.out)
        have hbr : w1.heap.size ≤ y3.heap.size := by have h5 := ky3.size; have h6 := KVy2.out.size; have h7 := ZG.out; omega
        replace hWy3 := Lib.hid hWy3
        have KVy3 : Hid (Keep wg y3) := KVy2.out.trans ky3
        refine hK.out _ _ ⟨h0y3, h1y3, b0y3, b1y3⟩ (fun hHeld => ?_)
        clear hK K
        try go_frame
        refine wO 1 (fun K hK => ?_)
        go_simp
        refine hK.out _ _ ⟨h0y3, h1y3, b0y3, b1y3⟩ (fun hHeld => ?_)
        clear hK K
        try go_frame
        refine wO 11 (fun K hK => ?_)
        refine wp_appR _ (.tmp 36) (.tmp 45) 28 rfl w1.heap.size 71 (.agg #[.slice none 0 0, .slice none 0 0, .int .i64 0, .slice none 0 0, .int .i64 0]) 5 88 Tryz.underlying28 (by kernel_rfl) rfl (by omega) (fun k => w1.heap.size + 2 ≤ k) vk _ rfl (HA2.out.keep KVy3.out) _ 1 1 [rowR ⟨(fAt fs j).params, [], (fAt fs j).result, .mk s9 y9⟩] _ rfl RL.out (fun k _ hk => ⟨Nat.le_trans (Nat.le_of_lt hw9) hk, fun e => absurd (HA1.out.bound k e).2 (Nat.not_lt.2 hk)⟩) (by rw [HLR.out]; omega) (by rw [HLR.out]; omega) hbr ?_
        intro v1 wz hA9 x9 q9
        have hno : ∀ k, wf.heap.size ≤ k ∨ k = fb → ¬ vk.ownBlock = some k := fun k hk e => by
          have h5 := (HA1.out.bound k e).2
          rcases hk with hk | hk
          · omega
          · have h6 := (HA.out.bound k e).2; have h7 := HFB.out; omega
        have KZ := Lib.hid ((Keep.to KVy3.out : Ext (fun k => vk.ownBlock = some k) wg y3).trans x9)
        have X9 := Lib.hid x9
        have A9 := Lib.hid hA9
        have B9 : Hid (∀ k, v1.ownBlock = some k → vk.ownBlock = some k ∨ w1.heap.size + 2 ≤ k) := fun k hk => by
          rcases q9 with e | e
          · rw [e] at hk; exact .inl hk
          · rw [e] at hk; injection hk with hk; have h5 := KVy3.out.size; have h6 := ZG.out; exact .inr (by omega)
        obtain ⟨av, cv, e9, _, _, _⟩ := hA9.read (by omega)
        obtain ⟨nv9, hnv9⟩ : ∃ m, ((fs.take j).map (fun f => rowR (nrmF ds f)) ++ [rowR ⟨(fAt fs j).params, [], (fAt fs j).result, .mk s9 y9⟩]).length = m := ⟨_, rfl⟩
        rw [hnv9] at e9
        clear hnv9
        subst e9
        clear hA9 x9 q9
        have h0z := X9.out.cq h0y3 (hno _ (.inr rfl))
        have h1z := X9.out.cq h1y3 (hno _ (.inr rfl))
        have b0z := X9.out.cq b0y3 (hno _ (.inl HGB.out))
        have b1z := X9.out.cq b1y3 (hno _ (.inl HGB.out))
        refine hK.out _ _ ⟨h0z, h1z, b0z, b1z⟩ (fun hHeld => ?_)
        clear hK K
        try go_frame
        refine wT 12 hHeld ?_
        try go_frame
        refine wO 13 (fun K hK => ?_)
        have RQ9 : Hid (wz.rowIs (w1.heap.size + 1) 30 2 (fun i => (#[.slice ad nd cd, vk] : Array Value).getD i undef)) := row_ext RQ2.out KZ.out (fun e => by rcases HB.out _ e with h | h <;> omega)
        have g1 : wz.cell? ⟨w1.heap.size + 1, 1, none⟩ = some vk := RQ9.out.cell (i := 1) (by omega)
        have g2 := RQ9.out.frozen 1
        have hq1 : w1.heap.size + 1 ≠ fb := by have := HFB.out; have := HZ.out; omega
        have hq2 : w1.heap.size + 1 ≠ gb := by have := HGB.out; omega
        go_simp
        obtain ⟨wy, hWy⟩ : ∃ y : World, y = wz.setCell ⟨w1.heap.size + 1, 1, none⟩ (.slice av nv9 cv) := ⟨_, rfl⟩
        rw [← hWy]
        have XY : Hid (Ext (fun k => k = w1.heap.size + 1) wz wy) := by show Ext _ _ _; rw [hWy]; exact (Ext.refl (fun k => k = w1.heap.size + 1) wz).setCell (p := ⟨w1.heap.size + 1, 1, none⟩) (.inr rfl) _
        have RY : Hid (wy.rowIs (w1.heap.size + 1) 30 2 (fun i => (#[.slice ad nd cd, .slice av nv9 cv] : Array Value).getD i undef)) := by
          show World.rowIs _ _ _ _ _
          rw [hWy]
          exact (RQ9.out.set 1 _).congr (fun i hi => by rcases (show i = 0 ∨ i = 1 by omega) with rfl | rfl <;> rfl)
        replace hWy := Lib.hid hWy
        have h0y := XY.out.cq h0z (fun h => hq1 h.symm)
        have h1y := XY.out.cq h1z (fun h => hq1 h.symm)
        have b0y := XY.out.cq b0z (fun h => hq2 h.symm)
        have b1y := XY.out.cq b1z (fun h => hq2 h.symm)
        refine hK.out _ _ ⟨h0y, h1y, b0y, b1y⟩ (fun hHeld => ?_)
        clear hK K
        try go_frame
        refine wpAnyH_done (by kernel_rfl) ?_ _
        rotate_left
        go_simp
        obtain ⟨y1, hWy1⟩ : ∃ y : World, y = (wg.alloc (.cells #[] 3)).drew := ⟨_, rfl⟩
        rw [← hWy1]
        have ky1 : Keep wg.drew y1 := by rw [hWy1]; exact Keep.al wg.drew (.cells #[] 3)
        have hzy1 : Hid (y1.heap.size = wg.heap.size + 1) := by show _ = _; rw [hWy1]; exact World.size_alloc _ _
        have h0y1 := Keep.at ky1 h0
        have h1y1 := Keep.at ky1 h1
        have b0y1 := Keep.at ky1 b0
        have b1y1 := Keep.at ky1 b1
        have z1y1 := Keep.at ky1 z1
        replace hWy1 := Lib.hid hWy1
        have KVy1 : Hid (Keep wg y1) := Keep.dt ky1
        refine hK.out _ _ ⟨h0y1, h1y1, b0y1, b1y1⟩ (fun hHeld => ?_)
        clear hK K
        try go_frame
        refine wpAnyH_ready (rs := [1, 4]) (by kernel_rfl) (by simp) ?_
        refine allReadyH_consL rfl (by rfl) (fun K hK => ?_) (allReadyH_consL rfl (by rfl) (fun K hK => ?_) (AllReadyH.nil))
        go_simp
        refine hK.out _ _ ⟨h0y1, h1y1, b0y1, b1y1⟩ (fun hHeld => ?_)
        clear hK K
        try go_frame
        refine wO 4 (fun K hK => ?_)
        go_simp
        go_at_call 102
        refine (copyInts_any ap np cp _ _ y1 (QP2.out.k KVy1.out).toInts (by omega)).mono ?_
        rintro e y2 ⟨a5, c5, rfl, hc5, o5, ky2⟩
        have h0y2 := ky2.cq h0y1 (fun h => h)
        have h1y2 := ky2.cq h1y1 (fun h => h)
        have b0y2 := ky2.cq b0y1 (fun h => h)
        have b1y2 := ky2.cq b1y1 (fun h => h)
        have z1y2 := ky2.cq z1y1 (fun h => h)
        have OP := Lib.hid ((o5.read.toRd hc5 (by omega)).mono (D' := fun k => wf.heap.size ≤ k) (fun k hk => Nat.le_trans (Nat.le_trans ZG.out KVy1.out.size) hk))
        clear o5
        have KVy2 : Hid (Keep wg y2) := KVy1.out.trans ky2
        refine hK.out _ _ ⟨h0y2, h1y2, b0y2, b1y2⟩ (fun hHeld => ?_)
        clear hK K
        try go_frame
        refine wT 9 hHeld ?_
        try go_frame
        refine wO 10 (fun K hK => ?_)
        go_simp
        obtain ⟨y3, hWy3⟩ : ∃ y : World, y = (y2.alloc (.cells #[.slice a5 np c5, .slice (some ⟨wg.heap.size, 0, none⟩) 0 0, .int .i64 (fAt fs j).result, .slice ab nb cb, .int .i64 y9] 71)) := ⟨_, rfl⟩
        rw [← hWy3]
        have ky3 : Keep y2 y3 := by rw [hWy3]; exact Keep.al y2 (.cells #[.slice a5 np c5, .slice (some ⟨wg.heap.size, 0, none⟩) 0 0, .int .i64 (fAt fs j).result, .slice ab nb cb, .int .i64 y9] 71)
        have hzy3 : Hid (y3.heap.size = y2.heap.size + 1) := by show _ = _; rw [hWy3]; exact World.size_alloc _ _
        have h0y3 := ky3.cq h0y2 (fun h => h)
        have h1y3 := ky3.cq h1y2 (fun h => h)
        have b0y3 := ky3.cq b0y2 (fun h => h)
        have b1y3 := ky3.cq b1y2 (fun h => h)
        have z1y3 := ky3.cq z1y2 (fun h => h)
        have RL : Hid (Rd y3 (fun k => wf.heap.size ≤ k) (.arr 5 [rowR ⟨(fAt fs j).params, [], (fAt fs j).result, .mk s9 y9⟩]) (.slice (some ⟨y2.heap.size, 0, none⟩) 1 1)) := by
          show Rd _ _ _ _
          rw [hWy3]
          exact lit_rout1 y2 (fun k => wf.heap.size ≤ k) 71 ⟨(fAt fs j).params, [], (fAt fs j).result, .mk s9 y9⟩ _ _ _ (some ⟨wg.heap.size, 0, none⟩) 0 0 _ _ _ (Nat.le_trans ZG.out KVy2.out.size) OP.out (.nil _ _ _) (OSL.out.k KVy2.out)
        have hbr : w1.heap.size ≤ y3.heap.size := by have h5 := ky3.size; have h6 := KVy2.out.size; have h7 := ZG.out; omega
        replace hWy3 := Lib.hid hWy3
        have KVy3 : Hid (Keep wg y3) := KVy2.out.trans ky3
        refine hK.out _ _ ⟨h0y3, h1y3, b0y3, b1y3⟩ (fun hHeld => ?_)
        clear hK K
        try go_frame
        refine wO 11 (fun K hK => ?_)
        refine wp_appR _ (.tmp 36) (.tmp 45) 28 rfl w1.heap.size 71 (.agg #[.slice none 0 0, .slice none 0 0, .int .i64 0, .slice none 0 0, .int .i64 0]) 5 88 Tryz.underlying28 (by kernel_rfl) rfl (by omega) (fun k => w1.heap.size + 2 ≤ k) vk _ rfl (HA2.out.keep KVy3.out) _ 1 1 [rowR ⟨(fAt fs j).params, [], (fAt fs j).result, .mk s9 y9⟩] _ rfl RL.out (fun k _ hk => ⟨Nat.le_trans (Nat.le_of_lt hw9) hk, fun e => absurd (HA1.out.bound k e).2 (Nat.not_lt.2 hk)⟩) (by rw [HLR.out]; omega) (by rw [HLR.out]; omega) hbr ?_
        intro v1 wz hA9 x9 q9
        have hno : ∀ k, wf.heap.size ≤ k ∨ k = fb → ¬ vk.ownBlock = some k := fun k hk e => by
          have h5 := (HA1.out.bound k e).2
          rcases hk with hk | hk
          · omega
          · have h6 := (HA.out.bound k e).2; have h7 := HFB.out; omega
        have KZ := Lib.hid ((Keep.to KVy3.out : Ext (fun k => vk.ownBlock = some k) wg y3).trans x9)
        have X9 := Lib.hid x9
        have A9 := Lib.hid hA9
        have B9 : Hid (∀ k, v1.ownBlock = some k → vk.ownBlock = some k ∨ w1.heap.size + 2 ≤ k) := fun k hk => by
          rcases q9 with e | e
          · rw [e] at hk; exact .inl hk
          · rw [e] at hk; injection hk with hk; have h5 := KVy3.out.size; have h6 := ZG.out; exact .inr (by omega)
        obtain ⟨av, cv, e9, _, _, _⟩ := hA9.read (by omega)
        obtain ⟨nv9, hnv9⟩ : ∃ m, ((fs.take j).map (fun f => rowR (nrmF ds f)) ++ [rowR ⟨(fAt fs j).params, [], (fAt fs j).result, .mk s9 y9⟩]).length = m := ⟨_, rfl⟩
        rw [hnv9] at e9
        clear hnv9
        subst e9
        clear hA9 x9 q9
        have h0z := X9.out.cq h0y3 (hno _ (.inr rfl))
        have h1z := X9.out.cq h1y3 (hno _ (.inr rfl))
        have b0z := X9.out.cq b0y3 (hno _ (.inl HGB.out))
        have b1z := X9.out.cq b1y3 (hno _ (.inl HGB.out))
        refine hK.out _ _ ⟨h0z, h1z, b0z, b1z⟩ (fun hHeld => ?_)
        clear hK K
        try go_frame
        refine wT 12 hHeld ?_
        try go_frame
        refine wO 13 (fun K hK => ?_)
        have RQ9 : Hid (wz.rowIs (w1.heap.size + 1) 30 2 (fun i => (#[.slice ad nd cd, vk] : Array Value).getD i undef)) := row_ext RQ2.out KZ.out (fun e => by rcases HB.out _ e with h | h <;> omega)
        have g1 : wz.cell? ⟨w1.heap.size + 1, 1, none⟩ = some vk := RQ9.out.cell (i := 1) (by omega)
        have g2 := RQ9.out.frozen 1
        have hq1 : w1.heap.size + 1 ≠ fb := by have := HFB.out; have := HZ.out; omega
        have hq2 : w1.heap.size + 1 ≠ gb := by have := HGB.out; omega
        go_simp
        obtain ⟨wy, hWy⟩ : ∃ y : World, y = wz.setCell ⟨w1.heap.size + 1, 1, none⟩ (.slice av nv9 cv) := ⟨_, rfl⟩
        rw [← hWy]
        have XY : Hid (Ext (fun k => k = w1.heap.size + 1) wz wy) := by show Ext _ _ _; rw [hWy]; exact (Ext.refl (fun k => k = w1.heap.size + 1) wz).setCell (p := ⟨w1.heap.size + 1, 1, none⟩) (.inr rfl) _
        have RY : Hid (wy.rowIs (w1.heap.size + 1) 30 2 (fun i => (#[.slice ad nd cd, .slice av nv9 cv] : Array Value).getD i undef)) := by
          show World.rowIs _ _ _ _ _
          rw [hWy]
          exact (RQ9.out.set 1 _).congr (fun i hi => by rcases (show i = 0 ∨ i = 1 by omega) with rfl | rfl <;> rfl)
        replace hWy := Lib.hid hWy
        have h0y := XY.out.cq h0z (fun h => hq1 h.symm)
        have h1y := XY.out.cq h1z (fun h => hq1 h.symm)
        have b0y := XY.out.cq b0z (fun h => hq2 h.symm)
        have b1y := XY.out.cq b1z (fun h => hq2 h.symm)
        refine hK.out _ _ ⟨h0y, h1y, b0y, b1y⟩ (fun hHeld => ?_)
        clear hK K
        try go_frame
        refine wpAnyH_done (by kernel_rfl) ?_ _
        rotate_left
        go_simp
        go_at_call 102
        refine (copyInts_any ap np cp _ _ y1 (QP2.out.k KVy1.out).toInts (by omega)).mono ?_
        rintro e y2 ⟨a5, c5, rfl, hc5, o5, ky2⟩
        have h0y2 := ky2.cq h0y1 (fun h => h)
        have h1y2 := ky2.cq h1y1 (fun h => h)
        have b0y2 := ky2.cq b0y1 (fun h => h)
        have b1y2 := ky2.cq b1y1 (fun h => h)
        have z1y2 := ky2.cq z1y1 (fun h => h)
        have OP := Lib.hid ((o5.read.toRd hc5 (by omega)).mono (D' := fun k => wf.heap.size ≤ k) (fun k hk => Nat.le_trans (Nat.le_trans ZG.out KVy1.out.size) hk))
        clear o5
        have KVy2 : Hid (Keep wg y2) := KVy1.out.trans ky2
        refine hK.out _ _ ⟨h0y2, h1y2, b0y2, b1y2⟩ (fun hHeld => ?_)
        clear hK K
        try go_frame
        refine wT 9 hHeld ?_
        try go_frame
        refine wpAnyH_ready (rs := [1, 10]) (by kernel_rfl) (by simp) ?_
        refine allReadyH_consL rfl (by rfl) (fun K hK => ?_) (allReadyH_consL rfl (by rfl) (fun K hK => ?_) (AllReadyH.nil))
        go_simp
        refine hK.out _ _ ⟨h0y2, h1y2, b0y2, b1y2⟩ (fun hHeld => ?_)
        clear hK K
        try go_frame
        refine wO 10 (fun K hK => ?_)
        go_simp
        obtain ⟨y3, hWy3⟩ : ∃ y : World, y = (y2.alloc (.cells #[.slice a5 np c5, .slice (some ⟨wg.heap.size, 0, none⟩) 0 0, .int .i64 (fAt fs j).result, .slice ab nb cb, .int .i64 y9] 71)) := ⟨_, rfl⟩
        rw [← hWy3]
        have ky3 : Keep y2 y3 := by rw [hWy3]; exact Keep.al y2 (.cells #[.slice a5 np c5, .slice (some ⟨wg.heap.size, 0, none⟩) 0 0, .int .i64 (fAt fs j).result, .slice ab nb cb, .int .i64 y9] 71)
        have hzy3 : Hid (y3.heap.size = y2.heap.size + 1) := by show _ = _; rw [hWy3]; exact World.size_alloc _ _
        have h0y3 := ky3.cq h0y2 (fun h => h)
        have h1y3 := ky3.cq h1y2 (fun h => h)
        have b0y3 := ky3.cq b0y2 (fun h => h)
        have b1y3 := ky3.cq b1y2 (fun h => h)
        have z1y3 := ky3.cq z1y2 (fun h => h)
        have RL : Hid (Rd y3 (fun k => wf.heap.size ≤ k) (.arr 5 [rowR ⟨(fAt fs j).params, [], (fAt fs j).result, .mk s9 y9⟩]) (.slice (some ⟨y2.heap.size, 0, none⟩) 1 1)) := by
          show Rd _ _ _ _
          rw [hWy3]
          exact lit_rout1 y2 (fun k => wf.heap.size ≤ k) 71 ⟨(fAt fs j).params, [], (fAt fs j).result, .mk s9 y9⟩ _ _ _ (some ⟨wg.heap.size, 0, none⟩) 0 0 _ _ _ (Nat.le_trans ZG.out KVy2.out.size) OP.out (.nil _ _ _) (OSL.out.k KVy2.out)
        have hbr : w1.heap.size ≤ y3.heap.size := by have h5 := ky3.size; have h6 := KVy2.out.size; have h7 := ZG.out; omega
        replace hWy3 := Lib.hid hWy3
        have KVy3 : Hid (Keep wg y3) := KVy2.out.trans ky3
        refine hK.out _ _ ⟨h0y3, h1y3, b0y3, b1y3⟩ (fun hHeld => ?_)
        clear hK K
        try go_frame
        refine wO 11 (fun K hK => ?_)
        refine wp_appR _ (.tmp 36) (.tmp 45) 28 rfl w1.heap.size 71 (.agg #[.slice none 0 0, .slice none 0 0, .int .i64 0, .slice none 0 0, .int .i64 0]) 5 88 Tryz.underlying28 (by kernel_rfl) rfl (by omega) (fun k => w1.heap.size + 2 ≤ k) vk _ rfl (HA2.out.keep KVy3.out) _ 1 1 [rowR ⟨(fAt fs j).params, [], (fAt fs j).result, .mk s9 y9⟩] _ rfl RL.out (fun k _ hk => ⟨Nat.le_trans (Nat.le_of_lt hw9) hk, fun e => absurd (HA1.out.bound k e).2 (Nat.not_lt.2 hk)⟩) (by rw [HLR.out]; omega) (by rw [HLR.out]; omega) hbr ?_
        intro v1 wz hA9 x9 q9
        have hno : ∀ k, wf.heap.size ≤ k ∨ k = fb → ¬ vk.ownBlock = some k := fun k hk e => by
          have h5 := (HA1.out.bound k e).2
          rcases hk with hk | hk
          · omega
          · have h6 := (HA.out.bound k e).2; have h7 := HFB.out; omega
        have KZ := Lib.hid ((Keep.to KVy3.out : Ext (fun k => vk.ownBlock = some k) wg y3).trans x9)
        have X9 := Lib.hid x9
        have A9 := Lib.hid hA9
        have B9 : Hid (∀ k, v1.ownBlock = some k → vk.ownBlock = some k ∨ w1.heap.size + 2 ≤ k) := fun k hk => by
          rcases q9 with e | e
          · rw [e] at hk; exact .inl hk
          · rw [e] at hk; injection hk with hk; have h5 := KVy3.out.size; have h6 := ZG.out; exact .inr (by omega)
        obtain ⟨av, cv, e9, _, _, _⟩ := hA9.read (by omega)
        obtain ⟨nv9, hnv9⟩ : ∃ m, ((fs.take j).map (fun f => rowR (nrmF ds f)) ++ [rowR ⟨(fAt fs j).params, [], (fAt fs j).result, .mk s9 y9⟩]).length = m := ⟨_, rfl⟩
        rw [hnv9] at e9
        clear hnv9
        subst e9
        clear hA9 x9 q9
        have h0z := X9.out.cq h0y3 (hno _ (.inr rfl))
        have h1z := X9.out.cq h1y3 (hno _ (.inr rfl))
        have b0z := X9.out.cq b0y3 (hno _ (.inl HGB.out))
        have b1z := X9.out.cq b1y3 (hno _ (.inl HGB.out))
        refine hK.out _ _ ⟨h0z, h1z, b0z, b1z⟩ (fun hHeld => ?_)
        clear hK K
        try go_frame
        refine wT 12 hHeld ?_
        try go_frame
        refine wO 13 (fun K hK => ?_)
        have RQ9 : Hid (wz.rowIs (w1.heap.size + 1) 30 2 (fun i => (#[.slice ad nd cd, vk] : Array Value).getD i undef)) := row_ext RQ2.out KZ.out (fun e => by rcases HB.out _ e with h | h <;> omega)
        have g1 : wz.cell? ⟨w1.heap.size + 1, 1, none⟩ = some vk := RQ9.out.cell (i := 1) (by omega)
        have g2 := RQ9.out.frozen 1
        have hq1 : w1.heap.size + 1 ≠ fb := by have := HFB.out; have := HZ.out; omega
        have hq2 : w1.heap.size + 1 ≠ gb := by have := HGB.out; omega
        go_simp
        obtain ⟨wy, hWy⟩ : ∃ y : World, y = wz.setCell ⟨w1.heap.size + 1, 1, none⟩ (.slice av nv9 cv) := ⟨_, rfl⟩
        rw [← hWy]
        have XY : Hid (Ext (fun k => k = w1.heap.size + 1) wz wy) := by show Ext _ _ _; rw [hWy]; exact (Ext.refl (fun k => k = w1.heap.size + 1) wz).setCell (p := ⟨w1.heap.size + 1, 1, none⟩) (.inr rfl) _
        have RY : Hid (wy.rowIs (w1.heap.size + 1) 30 2 (fun i => (#[.slice ad nd cd, .slice av nv9 cv] : Array Value).getD i undef)) := by
          show World.rowIs _ _ _ _ _
          rw [hWy]
          exact (RQ9.out.set 1 _).congr (fun i hi => by rcases (show i = 0 ∨ i = 1 by omega) with rfl | rfl <;> rfl)
        replace hWy := Lib.hid hWy
        have h0y := XY.out.cq h0z (fun h => hq1 h.symm)
        have h1y := XY.out.cq h1z (fun h => hq1 h.symm)
        have b0y := XY.out.cq b0z (fun h => hq2 h.symm)
        have b1y := XY.out.cq b1z (fun h => hq2 h.symm)
        refine hK.out _ _ ⟨h0y, h1y, b0y, b1y⟩ (fun hHeld => ?_)
        clear hK K
        try go_frame
        refine wpAnyH_done (by kernel_rfl) ?_ _
        rotate_left
        go_simp
        obtain ⟨y3, hWy3⟩ : ∃ y : World, y = (y2.alloc (.cells #[.slice a5 np c5, .slice (some ⟨wg.heap.size, 0, none⟩) 0 0, .int .i64 (fAt fs j).result, .slice ab nb cb, .int .i64 y9] 71)) := ⟨_, rfl⟩
        rw [← hWy3]
        have ky3 : Keep y2 y3 := by rw [hWy3]; exact Keep.al y2 (.cells #[.slice a5 np c5, .slice (some ⟨wg.heap.size, 0, none⟩) 0 0, .int .i64 (fAt fs j).result, .slice ab nb cb, .int .i64 y9] 71)
        have hzy3 : Hid (y3.heap.size = y2.heap.size + 1) := by show _ = _; rw [hWy3]; exact World.size_alloc _ _
        have h0y3 := ky3.cq h0y2 (fun h => h)
        have h1y3 := ky3.cq h1y2 (fun h => h)
        have b0y3 := ky3.cq b0y2 (fun h => h)
        have b1y3 := ky3.cq b1y2 (fun h => h)
        have z1y3 := ky3.cq z1y2 (fun h => h)
        have RL : Hid (Rd y3 (fun k => wf.heap.size ≤ k) (.arr 5 [rowR ⟨(fAt fs j).params, [], (fAt fs j).result, .mk s9 y9⟩]) (.slice (some ⟨y2.heap.size, 0, none⟩) 1 1)) := by
          show Rd _ _ _ _
          rw [hWy3]
          exact lit_rout1 y2 (fun k => wf.heap.size ≤ k) 71 ⟨(fAt fs j).params, [], (fAt fs j).result, .mk s9 y9⟩ _ _ _ (some ⟨wg.heap.size, 0, none⟩) 0 0 _ _ _ (Nat.le_trans ZG.out KVy2.out.size) OP.out (.nil _ _ _) (OSL.out.k KVy2.out)
        have hbr : w1.heap.size ≤ y3.heap.size := by have h5 := ky3.size; have h6 := KVy2.out.size; have h7 := ZG.out; omega
        replace hWy3 := Lib.hid hWy3
        have KVy3 : Hid (Keep wg y3) := KVy2.out.trans ky3
        refine hK.out _ _ ⟨h0y3, h1y3, b0y3, b1y3⟩ (fun hHeld => ?_)
        clear hK K
        try go_frame
        refine wO 1 (fun K hK => ?_)
        go_simp
        refine hK.out _ _ ⟨h0y3, h1y3, b0y3, b1y3⟩ (fun hHeld => ?_)
        clear hK K
        try go_frame
        refine wO 11 (fun K hK => ?_)
        refine wp_appR _ (.tmp 36) (.tmp 45) 28 rfl w1.heap.size 71 (.agg #[.slice none 0 0, .slice none 0 0, .int .i64 0, .slice none 0 0, .int .i64 0]) 5 88 Tryz.underlying28 (by kernel_rfl) rfl (by omega) (fun k => w1.heap.size + 2 ≤ k) vk _ rfl (HA2.out.keep KVy3.out) _ 1 1 [rowR ⟨(fAt fs j).params, [], (fAt fs j).result, .mk s9 y9⟩] _ rfl RL.out (fun k _ hk => ⟨Nat.le_trans (Nat.le_of_lt hw9) hk, fun e => absurd (HA1.out.bound k e).2 (Nat.not_lt.2 hk)⟩) (by rw [HLR.out]; omega) (by rw [HLR.out]; omega) hbr ?_
        intro v1 wz hA9 x9 q9
        have hno : ∀ k, wf.heap.size ≤ k ∨ k = fb → ¬ vk.ownBlock = some k := fun k hk e => by
          have h5 := (HA1.out.bound k e).2
          rcases hk with hk | hk
          · omega
          · have h6 := (HA.out.bound k e).2; have h7 := HFB.out; omega
        have KZ := Lib.hid ((Keep.to KVy3.out : Ext (fun k => vk.ownBlock = some k) wg y3).trans x9)
        have X9 := Lib.hid x9
        have A9 := Lib.hid hA9
        have B9 : Hid (∀ k, v1.ownBlock = some k → vk.ownBlock = some k ∨ w1.heap.size + 2 ≤ k) := fun k hk => by
          rcases q9 with e | e
          · rw [e] at hk; exact .inl hk
          · rw [e] at hk; injection hk with hk; have h5 := KVy3.out.size; have h6 := ZG.out; exact .inr (by omega)
        obtain ⟨av, cv, e9, _, _, _⟩ := hA9.read (by omega)
        obtain ⟨nv9, hnv9⟩ : ∃ m, ((fs.take j).map (fun f => rowR (nrmF ds f)) ++ [rowR ⟨(fAt fs j).params, [], (fAt fs j).result, .mk s9 y9⟩]).length = m := ⟨_, rfl⟩
        rw [hnv9] at e9
        clear hnv9
        subst e9
        clear hA9 x9 q9
        have h0z := X9.out.cq h0y3 (hno _ (.inr rfl))
        have h1z := X9.out.cq h1y3 (hno _ (.inr rfl))
        have b0z := X9.out.cq b0y3 (hno _ (.inl HGB.out))
        have b1z := X9.out.cq b1y3 (hno _ (.inl HGB.out))
        refine hK.out _ _ ⟨h0z, h1z, b0z, b1z⟩ (fun hHeld => ?_)
        clear hK K
        try go_frame
        refine wT 12 hHeld ?_
        try go_frame
        refine wO 13 (fun K hK => ?_)
        have RQ9 : Hid (wz.rowIs (w1.heap.size + 1) 30 2 (fun i => (#[.slice ad nd cd, vk] : Array Value).getD i undef)) := row_ext RQ2.out KZ.out (fun e => by rcases HB.out _ e with h | h <;> omega)
        have g1 : wz.cell? ⟨w1.heap.size + 1, 1, none⟩ = some vk := RQ9.out.cell (i := 1) (by omega)
        have g2 := RQ9.out.frozen 1
        have hq1 : w1.heap.size + 1 ≠ fb := by have := HFB.out; have := HZ.out; omega
        have hq2 : w1.heap.size + 1 ≠ gb := by have := HGB.out; omega
        go_simp
        obtain ⟨wy, hWy⟩ : ∃ y : World, y = wz.setCell ⟨w1.heap.size + 1, 1, none⟩ (.slice av nv9 cv) := ⟨_, rfl⟩
        rw [← hWy]
        have XY : Hid (Ext (fun k => k = w1.heap.size + 1) wz wy) := by show Ext _ _ _; rw [hWy]; exact (Ext.refl (fun k => k = w1.heap.size + 1) wz).setCell (p := ⟨w1.heap.size + 1, 1, none⟩) (.inr rfl) _
        have RY : Hid (wy.rowIs (w1.heap.size + 1) 30 2 (fun i => (#[.slice ad nd cd, .slice av nv9 cv] : Array Value).getD i undef)) := by
          show World.rowIs _ _ _ _ _
          rw [hWy]
          exact (RQ9.out.set 1 _).congr (fun i hi => by rcases (show i = 0 ∨ i = 1 by omega) with rfl | rfl <;> rfl)
        replace hWy := Lib.hid hWy
        have h0y := XY.out.cq h0z (fun h => hq1 h.symm)
        have h1y := XY.out.cq h1z (fun h => hq1 h.symm)
        have b0y := XY.out.cq b0z (fun h => hq2 h.symm)
        have b1y := XY.out.cq b1z (fun h => hq2 h.symm)
        refine hK.out _ _ ⟨h0y, h1y, b0y, b1y⟩ (fun hHeld => ?_)
        clear hK K
        try go_frame
        refine wpAnyH_done (by kernel_rfl) ?_ _
        rotate_left
        all_goals
          go_wp2
          go_roundw
          case rel => exact ⟨j + 1, .slice av nv9 cv, by omega, by go_num, RY.out, (by
            show AccR _ _ _ _ _ _ _
            rw [HTK.out, HNF.out]
            refine A9.out.extQ XY.out (fun k _ hk e => by omega) (fun k hk e => ?_)
            rcases B9.out k hk with h | h
            · rcases HB.out k h with h5 | h5 <;> omega
            · omega), (by
            show Ext _ _ _
            refine ((((HE.out.trans (Keep.to KF'.out)).then_ KG.out (fun i hi e => ?_)).then_ KZ.out (fun i hi e => ?_)).then_ XY.out (fun i hi e => .inr e))
            · have := HGB.out; omega
            · rcases HB.out i e with h5 | h5
              · exact .inl h5
              · omega), (by
            intro k hk
            rcases B9.out k hk with h | h
            · exact HB.out k h
            · exact .inr h), (by
            show _ ≤ _
            have h5 := KG.out.size
            have h6 := KZ.out.size
            have h7 := XY.out.size
            omega)⟩
          case measure => simp [intOf]; omega
    · have HJ : Hid (fs.take j = fs) := by show _ = _; rw [List.take_of_length_le (by omega)]
      rw [HJ.out] at HA
      obtain ⟨ar, cr, e9, hcr, h63, rc⟩ := HA.out.read (by omega)
      have HRT : Hid ((fs.map (fun f => rowR (nrmF ds f))) = (fs.map (nrmF ds)).map rowR) := by show _ = _; rw [List.map_map]; rfl
      obtain ⟨nr9, hnr9⟩ : ∃ m, (fs.map (fun f => rowR (nrmF ds f))).length = m := ⟨_, rfl⟩
      rw [hnr9] at e9
      subst e9
      have RT := row_ext RZ0.out HE.out (fun h => by omega)
      have t0 : wo.cell? ⟨w.heap.size + 1, 0, none⟩ = some (.slice none 0 0) := RT.cell (i := 0) (by simp)
      have t1 : wo.cell? ⟨w.heap.size + 1, 1, none⟩ = some (.slice none 0 0) := RT.cell (i := 1) (by simp)
      have t2 := RT.frozen 0
      have t3 := RT.frozen 1
      have X := (((Ext.refl (fun k => k = w.heap.size + 1) wo).setCell (p := ⟨w.heap.size + 1, 0, none⟩) (.inr rfl) (.slice ad nd cd)).setCell (p := ⟨w.heap.size + 1, 1, none⟩) (.inr rfl) (.slice ar nr9 cr))
      have RDF := Lib.hid (((RD.out.ext HE.out (fun k hk e => by omega)).ext X (fun k hk e => by omega)).mono (D' := fun k => w.heap.size ≤ k) (fun k hk => by omega))
      have RCF := Lib.hid ((rc.ext X (fun k hk e => by rcases hk with h | h <;> omega)).mono (D' := fun k => w.heap.size ≤ k) (fun k hk => by rcases hk with h | h <;> omega))
      have KF := Lib.hid ((K1.out.then_ HE.out (fun i hi e => by omega)).then_ X (fun i hi e => by omega))
      clear RT X rc hnr9
      go_wp2_with fail
      exact bodyPost_ret (v := .agg #[.slice ad nd cd, .slice ar nr9 cr]) (by simp [results, Tryz.results50, go_sem, t0, t1]) rfl (fin_ hQ ⟨ad, nd, cd, ar, nr9, cr, rfl, RDF.out, by rw [encRouts, ← HRT.out]; exact RCF.out, KF.out⟩)

/-- What Normalize returns. -/
def nrmD (ds : List DeclL) (fs : List FuncL) : List DeclL := if progOk ds fs = true then ds else []
def nrmR (ds : List DeclL) (fs : List FuncL) : List RoutL := if progOk ds fs = true then fs.map (nrmF ds) else []

set_option maxRecDepth 100000 in
set_option maxHeartbeats 1000000 in
theorem specNormalize (ds : List DeclL) (fs : List FuncL) (a0 : Option Addr) (n0 c0 : Nat) (a1 : Option Addr) (n1 c1 : Nat) (D0 D1 : Nat → Prop) (w : World) (r0 : Rd w D0 (encDecls ds) (.slice a0 n0 c0)) (r1 : Rd w D1 (encFuncs fs) (.slice a1 n1 c1)) :
    Calls Tryz.prog 15 #[.agg #[.slice a0 n0 c0, .slice a1 n1 c1]] w fun e w' => ∃ ad nd cd ar nr cr, e = .returned (.tuple #[.agg #[.slice ad nd cd, .slice ar nr cr], .bool (progOk ds fs)]) ∧ Rd w' (fun k => w.heap.size ≤ k) (encDecls (nrmD ds fs)) (.slice ad nd cd) ∧ Rd w' (fun k => w.heap.size ≤ k) (encRouts (nrmR ds fs)) (.slice ar nr cr) ∧ Keep w w' := by
  refine calls_k fun Q hQ => ?_
  have K0 := (Keep.al w (.cells #[.slice a0 n0 c0, .slice a1 n1 c1] 44)).trans (Keep.al _ (.cells #[.slice none 0 0, .slice none 0 0] 30))
  have RZ0 := rowOf (w.alloc (.cells #[.slice a0 n0 c0, .slice a1 n1 c1] 44)) #[.slice none 0 0, .slice none 0 0] 30
  have R0 := (rowOf w #[.slice a0 n0 c0, .slice a1 n1 c1] 44).alloc (.cells #[.slice none 0 0, .slice none 0 0] 30)
  simp only [World.size_alloc] at RZ0
  have q0 := r0.k K0
  have q1 := r1.k K0
  cases hp : progOk ds fs
  · have HP := Lib.hid hp
    have E1 : Hid (nrmD ds fs = []) := by show _ = _; rw [nrmD, hp]; rfl
    have E2 : Hid (nrmR ds fs = []) := by show _ = _; rw [nrmR, hp]; rfl
    rw [hp, E1.out, E2.out] at hQ
    have KW := Lib.hid K0
    have RZ := Lib.hid RZ0
    clear hp K0 RZ0
    go_enter Tryz.func15, Tryz.ntmps15
    go_wp2_with fail
    refine (specValidProgram0 _ _ _ _ _ _ _ _ _ _ _ q0 q1).mono ?_
    rw [HP.out]
    rintro e w1 ⟨rfl, p1⟩
    have RT := row_ext RZ.out p1 (fun h => h)
    have t0 : w1.cell? ⟨w.heap.size + 1, 0, none⟩ = some (.slice none 0 0) := RT.cell (i := 0) (by simp)
    have t1 : w1.cell? ⟨w.heap.size + 1, 1, none⟩ = some (.slice none 0 0) := RT.cell (i := 1) (by simp)
    have t2 := RT.frozen 0
    have t3 := RT.frozen 1
    have KF := Lib.hid ((KW.out.trans p1).then_ (((Ext.refl (fun k => k = w.heap.size + 1) w1).setCell (p := ⟨w.heap.size + 1, 0, none⟩) (.inr rfl) (.slice none 0 0)).setCell (p := ⟨w.heap.size + 1, 1, none⟩) (.inr rfl) (.slice none 0 0)) (fun i hi e => by omega))
    clear RT q0 q1 R0 p1
    go_wp2_with fail
    exact bodyPost_ret (v := .tuple #[.agg #[.slice none 0 0, .slice none 0 0], .bool false]) (by simp [results, Tryz.results15, go_sem, t0, t1]) rfl (fin_ hQ ⟨none, 0, 0, none, 0, 0, rfl, .nil _ _ _, .nil _ _ _, KF.out⟩)
  · have HP := Lib.hid hp
    have E1 : Hid (nrmD ds fs = ds) := by show _ = _; rw [nrmD, if_pos hp]
    have E2 : Hid (nrmR ds fs = fs.map (nrmF ds)) := by show _ = _; rw [nrmR, if_pos hp]
    rw [hp, E1.out, E2.out] at hQ
    have KW := Lib.hid K0
    have RZ := Lib.hid RZ0
    have RP := Lib.hid R0
    clear hp K0 RZ0 R0
    go_enter Tryz.func15, Tryz.ntmps15
    go_wp2_with fail
    refine (specValidProgram0 _ _ _ _ _ _ _ _ _ _ _ q0 q1).mono ?_
    rw [HP.out]
    rintro e w1 ⟨rfl, p1⟩
    have q0 := q0.k p1
    have q1 := q1.k p1
    have RP1 := row_ext RP.out p1 (fun h => h)
    have x0 : w1.cell? ⟨w.heap.size, 0, none⟩ = some (.slice a0 n0 c0) := RP1.cell (i := 0) (by simp)
    have x1 : w1.cell? ⟨w.heap.size, 1, none⟩ = some (.slice a1 n1 c1) := RP1.cell (i := 1) (by simp)
    have K1 := Lib.hid (KW.out.trans p1)
    have RZ1 := Lib.hid (row_ext RZ.out p1 (fun h => h))
    have hs : w.heap.size + 2 ≤ w1.heap.size := by have := p1.size; simp only [World.size_alloc] at this; omega
    clear RP1 p1
    go_wp2_with fail
    refine (specNormalize0 ds fs HP.out _ _ _ _ _ _ _ _ _ q0 q1).mono ?_
    rintro e w2 ⟨ad, nd, cd, ar, nr, cr, rfl, rd, rr, p2⟩
    have RT := row_ext RZ1.out p2 (fun h => h)
    have t0 : w2.cell? ⟨w.heap.size + 1, 0, none⟩ = some (.slice none 0 0) := RT.cell (i := 0) (by simp)
    have t1 : w2.cell? ⟨w.heap.size + 1, 1, none⟩ = some (.slice none 0 0) := RT.cell (i := 1) (by simp)
    have t2 := RT.frozen 0
    have t3 := RT.frozen 1
    have X := (((Ext.refl (fun k => k = w.heap.size + 1) w2).setCell (p := ⟨w.heap.size + 1, 0, none⟩) (.inr rfl) (.slice ad nd cd)).setCell (p := ⟨w.heap.size + 1, 1, none⟩) (.inr rfl) (.slice ar nr cr))
    have KF := Lib.hid ((K1.out.trans p2).then_ X (fun i hi e => by omega))
    have RDF := Lib.hid ((rd.ext X (fun k hk e => by omega)).mono (D' := fun k => w.heap.size ≤ k) (fun k hk => by omega))
    have RRF := Lib.hid ((rr.ext X (fun k hk e => by omega)).mono (D' := fun k => w.heap.size ≤ k) (fun k hk => by omega))
    clear RT X rd rr p2 q0 q1
    go_wp2_with fail
    exact bodyPost_ret (v := .tuple #[.agg #[.slice ad nd cd, .slice ar nr cr], .bool true]) (by simp [results, Tryz.results15, go_sem, t0, t1]) rfl (fin_ hQ ⟨ad, nd, cd, ar, nr, cr, rfl, RDF.out, RRF.out, KF.out⟩)
end Go.Proofs.YtkapldpmjkdmcaaGreat
