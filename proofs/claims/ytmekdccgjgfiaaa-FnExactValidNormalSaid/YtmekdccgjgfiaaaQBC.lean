/- The program's types of blocks: choices. -/
import Derived.Test.YtmekdccgjgfiaaaQBB
import Derived.Test.YtmekdccgjgfiaaaQAY
namespace Go.Proofs.Ytmekdccgjgfiaaa
open Go.RowKit

set_option maxRecDepth 100000 in
set_option maxHeartbeats 2000000 in
theorem implKids (ds : List DeclL) (sg : List SigL) (ks : List BlockL) (IH0 : ∀ j, j < ks.length → BlI ds sg (bAt ks j).result (bAt ks j).steps) (a0 : Option Addr) (n0 c0 : Nat) (a1 : Option Addr) (n1 c1 : Nat) (av : Option Addr) (nv cv : Nat) (sc : List Int) (a : Option Addr) (n c : Nat) (am : Option Addr) (nm cm : Nat) (fs : List (List Int)) (w : World)
    (hp : SR w (fun _ => True) ds sg a0 n0 c0 a1 n1 c1) (hv : IntsL w (fun _ => True) av nv sc) (h : Rd w (fun _ => True) (encBlocks ks) (.slice a n c)) (hm : Rd w (fun _ => True) (encCons fs) (.slice am nm cm)) (hfl : fs.length = ks.length) (h0 : 0 < ks.length)
    (hlen : sc.length + 4 * (nBs ks + 1) ≤ 1052000) (hall : allT ds.length sc = true) (hfs : ∀ i, i < fs.length → (cAt fs i).length ≤ 3 ∧ allT ds.length (cAt fs i) = true) :
    Calls Try.prog 75 #[.agg #[.slice a0 n0 c0, .slice a1 n1 c1], .slice av nv cv, .slice a n c, .slice am nm cm] w fun r w' => ∃ (t : Int) (ok : Bool), r = .returned (.tuple #[.int .i64 t, .bool ok]) ∧ ok = decide (0 ≤ oneT (armT ds sg sc ks fs)) ∧ (ok = true → t = oneT (armT ds sg sc ks fs)) ∧ Keep w w' := by
  refine calls_k fun Q hQ => ?_
  have K0 := Keep.al w (.cells #[.slice a0 n0 c0, .slice a1 n1 c1] 59)
  have R0 := rowOf w #[.slice a0 n0 c0, .slice a1 n1 c1] 59
  obtain ⟨e1, hnc, hnm, hat⟩ := blocks_at h
  obtain ⟨e2, hmc, hmm, hmat⟩ := cons_at hm
  have HL := Lib.hid e1
  have HM := Lib.hid e2
  have HA := Lib.hid hat
  have HMA := Lib.hid hmat
  have IH := Lib.hid IH0
  have hnm2 : nm = n := by omega
  have HLen := Lib.hid hlen
  have HAll := Lib.hid hall
  have HFS := Lib.hid hfs
  have HFL := Lib.hid hfl
  have hnv : nv ≤ 1052000 := by have := hv.1; omega
  have hn0 : 0 < n := by omega
  obtain ⟨T, hT⟩ : ∃ T, armT ds sg sc ks fs = T := ⟨_, rfl⟩
  have TL : Hid (T.length = ks.length) := by show _ = _; rw [← hT, armT_len]
  have TA : Hid (∀ i, i < ks.length → iAt T i = blkT ds sg (sc ++ cAt fs i) (bAt ks i)) := fun i hi => by rw [← hT, armT_at ds sg sc hi]
  rw [hT] at hQ
  subst hnm2
  clear e1 e2 hat hmat IH0 hlen hall hfs hfl h hm hT h0
  go_enter Try.func75, Try.ntmps75
  go_wp2_with fail
  go_loopw [10, 16] (fun rv iv wr => ∃ (j : Nat) (r : Int), j ≤ nm ∧ iv = .int .i64 j ∧ rv = .int .i64 r ∧ Hid (0 < j → 0 ≤ r ∧ ∀ l, l < j → iAt T l = r) ∧ Hid (Keep (w.alloc (.cells #[.slice a0 n0 c0, .slice a1 n1 c1] 59)) wr)) (fun _ iv _ => nm - (intOf iv).toNat)
  case atStart => exact ⟨0, -1, Nat.zero_le _, rfl, rfl, (show 0 < 0 → _ from fun h => absurd h (by omega)), Ext.refl _ _⟩
  case round =>
    obtain ⟨j, r, hj, rfl, rfl, hI, hK⟩ := hrel
    obtain ⟨wo, rfl⟩ : ∃ wo : World, wo = wr := ⟨_, rfl⟩
    by_cases hlt : j < nm
    · have HJ : Hid (j < ks.length) := by have := HL.out; show _ < _; omega
      have KW := Lib.hid (K0.trans hK.out)
      obtain ⟨b, o, rfl, _, a5, n5, c5, d0, d1, r5⟩ := HA.out j hlt
      obtain ⟨bm, om, rfl, _, fa, fm, fc, dm, rm⟩ := HMA.out j hlt
      have g0 := KW.out.cq d0 (fun h => h)
      have g1 := KW.out.cq d1 (fun h => h)
      have HFO := Lib.hid (HFS.out j (by have := HFL.out; have := HJ.out; omega))
      have hfm3 : fm ≤ 3 := by have := HFO.out.1; have := (ints_at rm).1; omega
      obtain ⟨zs, hzs⟩ : ∃ zs, zs = sc ++ cAt fs j := ⟨_, rfl⟩
      have HZS := Lib.hid hzs
      have HBB : Hid (zs.length + 4 * nSs (bAt ks j).steps ≤ 1052000) := by show _ ≤ _; have := nB_le ks HJ.out; have := nB_eq (bAt ks j); have := HLen.out; have := HFO.out.1; rw [hzs, List.length_append]; omega
      have HAL2 : Hid (allT ds.length zs = true) := by show _ = _; rw [hzs]; exact allT_append HAll.out HFO.out.2
      obtain ⟨z, hz⟩ : ∃ z, runT ds sg (bAt ks j).result zs (bAt ks j).steps = z := ⟨_, rfl⟩
      have HZ2 := Lib.hid hz
      have hTj : Hid (iAt T j = z) := by show _ = _; rw [TA.out j HJ.out, blkT_eq, ← hzs, hz]
      have KB := Lib.hid (Keep.al wo (.cells #[.slice a5 n5 c5, .int .i64 (bAt ks j).result] 41))
      have KX := Lib.hid (KW.out.trans KB.out)
      have gm := KX.out.cq dm (fun h => h)
      have QP := Lib.hid (hp.k KX.out)
      have QV := Lib.hid (hv.ext KX.out (fun _ _ h => h))
      have QK := Lib.hid (r5.k KX.out)
      have QM := Lib.hid ((Rd.toInts rm).ext KX.out (fun _ _ h => h))
      have RS := row_ext R0 (hK.out.trans KB.out) (fun h => h)
      have x0 := RS.cell (i := 0) (by simp)
      have x1 := RS.cell (i := 1) (by simp)
      simp at x0 x1
      have b0 : (wo.alloc (.cells #[.slice a5 n5 c5, .int .i64 (bAt ks j).result] 41)).cell? ⟨wo.heap.size, 0, none⟩ = some (.slice a5 n5 c5) := boxk (Ext.refl _ _) 0
      have b1 : (wo.alloc (.cells #[.slice a5 n5 c5, .int .i64 (bAt ks j).result] 41)).cell? ⟨wo.heap.size, 1, none⟩ = some (.int .i64 (bAt ks j).result) := boxk (Ext.refl _ _) 1
      clear d0 d1 dm r5 rm hz RS hzs
      go_upto_region 5 with fail
      have KN0 := Lib.hid (hK.out.trans KB.out)
      generalize hW : wo.alloc (.cells #[.slice a5 n5 c5, .int .i64 (bAt ks j).result] 41) = wq at *
      clear hW g0 g1 KB
      generalize hS : wo.heap.size = s12 at *
      clear hS
      have KD : Keep wq wq.drew := (Ext.refl (fun _ => False) wq).drew
      replace KX := Lib.hid (KX.out.trans KD)
      replace KN0 := Lib.hid (KN0.out.trans KD)
      replace QP := Lib.hid (QP.out.k KD)
      replace QV := Lib.hid (QV.out.ext KD (fun _ _ h => h))
      replace QK := Lib.hid (QK.out.k KD)
      replace QM := Lib.hid (QM.out.ext KD (fun _ _ h => h))
      replace x0 : wq.drew.cell? ⟨w.heap.size, 0, none⟩ = some (.slice a0 n0 c0) := x0
      replace x1 : wq.drew.cell? ⟨w.heap.size, 1, none⟩ = some (.slice a1 n1 c1) := x1
      replace gm : wq.drew.cell? ⟨bm, om + j, none⟩ = some (.slice fa fm fc) := gm
      replace b0 : wq.drew.cell? ⟨s12, 0, none⟩ = some (.slice a5 n5 c5) := b0
      replace b1 : wq.drew.cell? ⟨s12, 1, none⟩ = some (.int .i64 (bAt ks j).result) := b1
      clear KD
      refine wp_region_held_drew (S := fun w' => w'.cell? ⟨w.heap.size, 0, none⟩ = some (.slice a0 n0 c0) ∧ w'.cell? ⟨w.heap.size, 1, none⟩ = some (.slice a1 n1 c1) ∧ w'.cell? ⟨bm, om + j, none⟩ = some (.slice fa fm fc) ∧ w'.cell? ⟨s12, 0, none⟩ = some (.slice a5 n5 c5) ∧ w'.cell? ⟨s12, 1, none⟩ = some (.int .i64 (bAt ks j).result)) (by kernel_rfl) ⟨x0, x1, gm, b0, b1⟩ (fun hHeld => ?_)
      have pc : Hid (Keep wq.drew wq.drew) := Ext.refl _ _
      generalize wq.drew = W0 at *
      refine wT 0 hHeld ?_
      try go_frame
      refine wT 1 hHeld ?_
      try go_frame
      refine wT 2 hHeld ?_
      try go_frame
      refine wT 3 hHeld ?_
      try go_frame
      refine wT 4 hHeld ?_
      try go_frame
      refine wT 5 hHeld ?_
      try go_frame
      refine wT 8 hHeld ?_
      try go_frame
      refine wO 6 (fun K0 hK0 => ?_)
      go_simp
      obtain ⟨y1, hW⟩ : ∃ N, N = W0.alloc (.cells #[.slice av nv cv, .slice fa fm fc] 26) := ⟨_, rfl⟩
      obtain ⟨sl, hsl⟩ : ∃ s, s = W0.heap.size := ⟨_, rfl⟩
      rw [← hsl, ← hW]
      have l0 : y1.cell? ⟨sl, 0, none⟩ = some (.slice av nv cv) := by rw [hW, hsl]; exact boxk (Ext.refl _ _) 0
      have l1 : y1.cell? ⟨sl, 1, none⟩ = some (.slice fa fm fc) := by rw [hW, hsl]; exact boxk (Ext.refl _ _) 1
      have kk : Keep W0 y1 := by rw [hW]; exact Keep.al _ _
      replace pc := Lib.hid (pc.out.trans kk)
      replace QP := Lib.hid (QP.out.k kk)
      replace QV := Lib.hid (QV.out.ext kk (fun _ _ h => h))
      replace QM := Lib.hid (QM.out.ext kk (fun _ _ h => h))
      replace QK := Lib.hid (QK.out.k kk)
      have L0 := Lib.hid l0
      have L1 := Lib.hid l1
      clear kk hW hsl l0 l1
      refine hK0.out _ _ ⟨pc.out.cq x0 (fun h => h), pc.out.cq x1 (fun h => h), pc.out.cq gm (fun h => h), pc.out.cq b0 (fun h => h), pc.out.cq b1 (fun h => h)⟩ (fun hHeld => ?_)
      clear hK0
      try go_frame
      refine wO 7 (fun K0 hK0 => ?_)
      go_simp
      go_at_call 87
      refine (concatTwo _ _ _ _ _ sc _ _ _ _ (cAt fs j) _ _ L0.out L1.out QV.out QM.out (by omega) (by omega)).mono ?_
      rintro e y2 ⟨v2, rfl, hv2, kk⟩
      rw [← HZS.out] at hv2
      obtain ⟨a2, c2, rfl, hc2, ho2⟩ := hv2.slice
      replace pc := Lib.hid (pc.out.trans kk)
      replace QP := Lib.hid (QP.out.k kk)
      replace QV := Lib.hid (QV.out.ext kk (fun _ _ h => h))
      replace QM := Lib.hid (QM.out.ext kk (fun _ _ h => h))
      replace QK := Lib.hid (QK.out.k kk)
      have Q2 : Hid (IntsL y2 (fun _ => True) a2 zs.length zs) := ho2.read.mono (fun _ _ => trivial)
      clear kk hv2 ho2 hc2 L0 L1
      refine hK0.out _ _ ⟨pc.out.cq x0 (fun h => h), pc.out.cq x1 (fun h => h), pc.out.cq gm (fun h => h), pc.out.cq b0 (fun h => h), pc.out.cq b1 (fun h => h)⟩ (fun hHeld => ?_)
      clear hK0
      try go_frame
      refine wO 9 (fun K0 hK0 => ?_)
      go_simp
      go_at_call 30
      refine (IH.out j HJ.out _ _ _ _ _ _ a2 _ c2 zs _ _ _ y2 QP.out Q2.out QK.out HBB.out HAL2.out).mono ?_
      rw [HZ2.out]
      rintro e y3 ⟨rfl, kk⟩
      replace pc := Lib.hid (pc.out.trans kk)
      replace QP := Lib.hid (QP.out.k kk)
      replace QV := Lib.hid (QV.out.ext kk (fun _ _ h => h))
      replace QM := Lib.hid (QM.out.ext kk (fun _ _ h => h))
      replace QK := Lib.hid (QK.out.k kk)
      clear kk Q2
      refine hK0.out _ _ ⟨pc.out.cq x0 (fun h => h), pc.out.cq x1 (fun h => h), pc.out.cq gm (fun h => h), pc.out.cq b0 (fun h => h), pc.out.cq b1 (fun h => h)⟩ (fun hHeld => ?_)
      clear hK0
      try go_frame
      refine wT 10 hHeld ?_
      try go_frame
      refine wpAnyH_done (by kernel_rfl) ?_ _
      have KN := Lib.hid (KN0.out.trans pc.out)
      have KE := Lib.hid (KX.out.trans pc.out)
      clear pc x0 x1 b0 b1 gm QP QV QM QK hHeld KN0 KX
      by_cases hz0 : 0 ≤ z
      case neg =>
        have V : Hid (oneT T = -1) := oneT_neg (i := j) (by rw [TL.out]; exact HJ.out) (.inr (by rw [hTj.out]; omega))
        go_wp2_with fail
        exact fin_ hQ ⟨-1, false, rfl, by rw [V.out]; rfl, (fun h => by cases h), KE.out⟩
      rcases Nat.eq_zero_or_pos j with hj0 | hj0
      · subst hj0
        go_wp2_with fail
        go_roundw
        case rel => exact ⟨1, z, by omega, by go_num, rfl, fun _ => ⟨hz0, fun l hl => by
          have hl0 : l = 0 := by omega
          rw [hl0]; exact hTj.out⟩, KN⟩
        case measure => simp [intOf]; omega
      · by_cases hzr : z = r
        · have hzr' : (z != r) = false := by simpa using hzr
          have HZR := Lib.hid hzr
          clear hzr
          go_wp2_with fail
          go_roundw
          case rel => exact ⟨j + 1, z, by omega, by go_num, rfl, fun _ => ⟨hz0, fun l hl => by
            rcases Nat.lt_succ_iff_lt_or_eq.1 hl with h | h
            · rw [HZR.out]; exact (hI.out hj0).2 l h
            · rw [h]; exact hTj.out⟩, KN⟩
          case measure => simp [intOf]; omega
        · have hzr' : (z != r) = true := by simpa using hzr
          have V : Hid (oneT T = -1) := oneT_neg (i := j) (by rw [TL.out]; exact HJ.out) (.inl (by rw [hTj.out, (hI.out hj0).2 0 hj0]; exact hzr))
          clear hzr
          go_wp2_with fail
          exact fin_ hQ ⟨-1, false, rfl, by rw [V.out]; rfl, (fun h => by cases h), KE.out⟩
    · have hj0 : 0 < j := by omega
      have V : Hid (oneT T = r) := oneT_same (by rw [TL.out]; have := HL.out; omega) (by have := (hI.out hj0).1; omega) (fun i hi => (hI.out hj0).2 i (by rw [TL.out] at hi; have := HL.out; omega))
      have V0 := Lib.hid (hI.out hj0).1
      go_wp2_with fail
      exact fin_ hQ ⟨r, true, rfl, by rw [V.out]; exact (decide_eq_true V0.out).symm, fun _ => V.out.symm, K0.trans hK.out⟩
end Go.Proofs.Ytmekdccgjgfiaaa
/- The program's types of steps. -/
namespace Go.Proofs.Ytmekdccgjgfiaaa
open Go.RowKit

theorem run_idx0 (a : Act) (o : Oper) (t : Nat) (x : Addr) (n c : Nat) (w : World) (ho : o.op = .indexAddr 26 (.tmp t) (.const (.int .i64 0))) (hs : a.tmps[t]?.getD undef = .slice (some x) n c) (hn : 0 < n) : (execOp a.eval o).run Try.prog w = .ok (.value (.pointer (some x))) w := by
  have h2 : (0 : Int) < (n : Int) := by omega
  simp [execOp, ho, hs, go_sem, hn]
theorem stp_ifA {ds : List DeclL} {sg : List SigL} {sc : List Int} {op num into : Int} {args : List Int} {ks : List BlockL} (h : op = 7) (h1 : argsIn sc args = true) (h2 : intoOk sc op into = true) :
    stpT ds sg sc (.mk op num into args ks) = if num = 0 ∧ tysOf sc args = [0] ∧ ks.length = 2 then oneT (armT ds sg sc ks [[], []]) else -1 := by
  subst h; exact stp_if _ _ _ _ _ _ _ h1 h2
theorem stp_matchA {ds : List DeclL} {sg : List SigL} {sc : List Int} {op num into : Int} {args : List Int} {ks : List BlockL} (h : op = 8) (h1 : argsIn sc args = true) (h2 : intoOk sc op into = true) :
    stpT ds sg sc (.mk op num into args ks) = if 0 < (armsL ds num).length ∧ ks.length = (armsL ds num).length ∧ tysOf sc args = [num] then oneT (armT ds sg sc ks (armsL ds num)) else -1 := by
  subst h; exact stp_match _ _ _ _ _ _ _ h1 h2
theorem ints_one {xs : List Int} {x : Int} (h : xs.length = 1) (h0 : iAt xs 0 = x) : xs = [x] := by
  match xs, h with
  | [y], _ => have : y = x := h0; rw [this]
theorem stp_cnt {ds : List DeclL} {sg : List SigL} {sc : List Int} {op num into : Int} {args : List Int} {ks : List BlockL} (hc : 14 ≤ op ∧ op ≤ 17) (h1 : argsIn sc args = true) (h2 : intoOk sc op into = true) :
    stpT ds sg sc (.mk op num into args ks) = if ks.length = 0 ∧ num = 0 ∧ (tysOf sc args).length = 1 ∧ iAt (tysOf sc args) 0 ≠ 0 ∧ (op = 14 ∨ op = 15 ∨ isArr ds (iAt (tysOf sc args) 0) = false) then 0 else -1 := by
  by_cases hk : ks.length = 0
  · rw [stp_leaf _ _ _ _ _ _ _ _ h1 h2 (by omega) (by omega) hk, leafL, if_pos hc, cntL]
    by_cases h : num = 0 ∧ (tysOf sc args).length = 1 ∧ iAt (tysOf sc args) 0 ≠ 0 ∧ (op = 14 ∨ op = 15 ∨ isArr ds (iAt (tysOf sc args) 0) = false)
    · rw [if_pos h, if_pos ⟨hk, h⟩]
    · rw [if_neg h, if_neg (fun h3 => h h3.2)]
  · rw [stp_kids _ _ _ _ _ _ _ _ (by omega) (by omega) (by omega), if_neg (fun h => hk h.1)]

section
variable {ds : List DeclL} {sg : List SigL} {sc : List Int} {s : StepL} {w w' : World} {t : Int} {ok : Bool}
theorem stR_neg (h : stpT ds sg sc s = -1) (k : Keep w w') : StR ds sg sc s w (.returned (.tuple #[.int .i64 t, .bool false])) w' := ⟨t, false, rfl, by rw [h]; rfl, (fun h => by cases h), k⟩
theorem stR_cnt (h : stpT ds sg sc s = 0) (hop : 14 ≤ s.op ∧ s.op ≤ 17) (k : Keep w w') : StR ds sg sc s w (.returned (.tuple #[.int .i64 t, .bool true])) w' := ⟨t, true, rfl, by rw [h]; rfl, fun _ h2 => absurd hop h2, k⟩
theorem stR_any (h1 : ok = decide (0 ≤ stpT ds sg sc s)) (h2 : ok = true → t = stpT ds sg sc s) (k : Keep w w') : StR ds sg sc s w (.returned (.tuple #[.int .i64 t, .bool ok])) w' := ⟨t, ok, rfl, h1, fun h _ => h2 h, k⟩
end
theorem at_put3 {w : World} {s : Nat} {v0 v1 v2 v : Value} {p : Addr} (h : w.cell? p = some v) (hp : p.block ≠ s) : (((w.setCell ⟨s, 0, none⟩ v0).setCell ⟨s, 1, none⟩ v1).setCell ⟨s, 2, none⟩ v2).cell? p = some v :=
  (Ext.setCell (S := fun q => q = s) (Ext.setCell (S := fun q => q = s) (Ext.setCell (S := fun q => q = s) (Ext.refl _ w) (p := ⟨s, 0, none⟩) (.inr rfl) v0) (p := ⟨s, 1, none⟩) (.inr rfl) v1) (p := ⟨s, 2, none⟩) (.inr rfl) v2).cq h hp
theorem leafL_simple {ds : List DeclL} {sg : List SigL} {op num : Int} (h1 : ¬ (14 ≤ op ∧ op ≤ 17)) (h2 : ¬ (op = 10 ∧ 0 ≤ num ∧ num < (sg.length : Int) ∧ 0 < (sgAt sg num.toNat).lent.length)) (tys : List Int) : leafL ds sg op num tys = simpleL ds sg op num tys := by
  rw [leafL, if_neg h1]
  split
  · next h =>
    obtain ⟨rfl, h3⟩ := h
    by_cases h4 : 0 ≤ num ∧ num < (sg.length : Int)
    · exact absurd ⟨rfl, h4.1, h4.2, h3⟩ h2
    · have e : simpleL ds sg 10 num tys = -1 := by
        unfold simpleL
        rw [if_neg (by omega), if_neg (by omega), if_neg (by omega), if_neg (by omega), if_neg (by omega), if_neg (by omega), if_pos rfl, if_neg (fun h => h4 ⟨h.1, h.2.1⟩)]
      exact e.symm
  · rfl

end Go.Proofs.Ytmekdccgjgfiaaa
/- The program's types of steps: counting steps. -/
namespace Go.Proofs.Ytmekdccgjgfiaaa
open Go.RowKit

section
variable (ds : List DeclL) (sg : List SigL) (hok : sigsOk ds sg = true)
include hok

set_option maxRecDepth 100000 in
set_option maxHeartbeats 1500000 in
theorem implStep_cnt (op num : Int) (args : List Int) (ks : List BlockL) (hos : okS (.mk op num 0 args ks)) (IH0 : ∀ j, j < ks.length → BlI ds sg (bAt ks j).result (bAt ks j).steps) (a0 : Option Addr) (n0 c0 : Nat) (a1 : Option Addr) (n1 c1 : Nat) (av : Option Addr) (nv cv : Nat) (sc : List Int) (aa : Option Addr) (na ca : Nat) (ak : Option Addr) (nk ck : Nat) (w : World) (hp : SR w (fun _ => True) ds sg a0 n0 c0 a1 n1 c1) (hv : IntsL w (fun _ => True) av nv sc) (ha : Rd w (fun _ => True) (encInts args) (.slice aa na ca)) (hk : Rd w (fun _ => True) (encBlocks ks) (.slice ak nk ck)) (hlen : sc.length + 4 * (nBs ks + 1) ≤ 1052000) (hall : allT ds.length sc = true) (hc : 14 ≤ op ∧ op ≤ 17) :
    Calls Try.prog 53 #[.agg #[.slice a0 n0 c0, .slice a1 n1 c1], .slice av nv cv, .agg #[.int .i64 op, .int .i64 num, .int .i64 0, .slice aa na ca, .slice ak nk ck]] w (StR ds sg sc (.mk op num 0 args ks) w) := by

  refine calls_k fun Q hQ => ?_
  rw [okS] at hos
  have ht := (sigsOk_parts hok).1
  have hf := Few.of_ok ht
  have hn0 : n0 ≤ 4 := by have := (decls_at hp.1).1; have := typesOk_len ht; omega
  have hn1 : n1 ≤ 4 := by have := (sigs_at hp.2).1; have := (sigsOk_parts hok).2.2.1; omega
  have hnv : nv ≤ 1052000 := by have := hv.1; omega
  have hna : na ≤ 1048576 := by have := (ints_at ha).1; have := hos.2.1; omega
  have HNL : Hid (args.length = na) := (ints_at ha).1
  have HSL : Hid (sc.length = nv) := hv.1
  have HNK : Hid (ks.length = nk) := (blocks_at hk).1
  have hnk : nk ≤ 9223372036854775807 := (blocks_at hk).2.2.1
  have HFN := Lib.hid hos.1
  have HOK := Lib.hid hok
  have HAll := Lib.hid hall
  have HLen := Lib.hid hlen
  have HT := Lib.hid ht
  have HF := Lib.hid hf
  have IH := Lib.hid IH0
  have K0 := Lib.hid ((Keep.al w (.cells #[.slice a0 n0 c0, .slice a1 n1 c1] 59)).trans (Keep.al _ (.cells #[.int .i64 op, .int .i64 num, .int .i64 0, .slice aa na ca, .slice ak nk ck] 89)))
  have R0 := (rowOf w #[.slice a0 n0 c0, .slice a1 n1 c1] 59).alloc (.cells #[.int .i64 op, .int .i64 num, .int .i64 0, .slice aa na ca, .slice ak nk ck] 89)
  have R1 := rowOf (w.alloc (.cells #[.slice a0 n0 c0, .slice a1 n1 c1] 59)) #[.int .i64 op, .int .i64 num, .int .i64 0, .slice aa na ca, .slice ak nk ck] 89
  simp only [World.size_alloc] at R1
  have R0a := Lib.hid R0
  have R1a := Lib.hid R1
  have ya := R1.cell (i := 3) (by simp)
  simp at ya
  have hzm : w.heap.size + 2 ≤ ((w.alloc (.cells #[.slice a0 n0 c0, .slice a1 n1 c1] 59)).alloc (.cells #[.int .i64 op, .int .i64 num, .int .i64 0, .slice aa na ca, .slice ak nk ck] 89)).heap.size := by simp
  clear hok hall ht IH0 hf hos R0 R1
  go_enter Try.func53, Try.ntmps53
  obtain ⟨iI, hiI, hz0I, hz1I, hz2I⟩ := info_parts (show (Try.prog.info? 3).map (fun i => (i.zero, i.size, i.bytes)) = some (some (.int .i64 0), 1, 8) by kernel_rfl)
  go_wp2_with (at_make; go_must (refine wpList_make_own _ rfl _ _ 26 rfl (w.heap.size + 2) 3 iI (.int .i64 0) 1 Try.underlying26 hiI hz0I hz1I .i64 .i64 na na rfl rfl rfl (by rw [hz2I]; omega) (by simp only [maxLen]; omega) hzm ?_); intro wm how hgw; have KG := Ext.grown (Ext.refl (fun _ => False) _) hgw (fun k hk => by cases hk); have VM : Hid (VR wm (w.heap.size + 2) (.slice (some ⟨w.heap.size + 1 + 1, 0, none⟩) 0 na) ((tysOf sc args).take 0)) := (by have h := how; simp only [World.size_alloc] at h; exact h); have KM := Lib.hid (K0.out.trans KG); have HWM : Hid (w.heap.size + 2 ≤ wm.heap.size) := Nat.le_trans hzm KG.size; have R0M := Lib.hid (row_ext R0a.out KG (fun h => h)); have R1M := Lib.hid (row_ext R1a.out KG (fun h => h)); have yb := R1M.out.cell (i := 3) (by simp); simp at yb; clear how hgw KG ya)
  go_loopw [8, 22] (fun sv iv wr => ∃ (j : Nat), j ≤ na ∧ iv = .int .i64 j ∧ Hid (∀ l, l < j → 0 ≤ iAt args l ∧ iAt args l < (sc.length : Int)) ∧ Hid (VR wr (w.heap.size + 2) sv ((tysOf sc args).take j)) ∧ Hid (Keep w wr) ∧ Hid (w.heap.size + 2 ≤ wr.heap.size) ∧ Hid (wr.rowIs w.heap.size 59 2 (fun i => (#[.slice a0 n0 c0, .slice a1 n1 c1] : Array Value).getD i undef)) ∧ Hid (wr.rowIs (w.heap.size + 1) 89 5 (fun i => (#[.int .i64 op, .int .i64 num, .int .i64 0, .slice aa na ca, .slice ak nk ck] : Array Value).getD i undef))) (fun _ iv _ => na - (intOf iv).toNat)
  case atStart => exact ⟨0, Nat.zero_le _, rfl, (show ∀ l, l < 0 → _ from fun l hl => absurd hl (by omega)), VM, KM, HWM, R0M, R1M⟩
  case round =>
    obtain ⟨j, hj, rfl, hI, hV, KW, HWZ, R0w, R1w⟩ := hrel
    obtain ⟨wo, rfl⟩ : ∃ wo : World, wo = wr := ⟨_, rfl⟩
    clear VM KM HWM R0M R1M yb
    by_cases hlt : j < na
    · obtain ⟨b, o, rfl, _, d0⟩ := (ha.toInts.ext KW.out (fun _ _ h => h)).at hlt
      obtain ⟨v, hvv⟩ : ∃ v, iAt args j = v := ⟨_, rfl⟩
      rw [hvv] at d0
      have HVV := Lib.hid hvv
      clear hvv
      have HJ : Hid (j < args.length) := by show _ < _; have := HNL.out; omega
      by_cases hr : 0 ≤ v ∧ v < (nv : Int)
      case neg =>
        have V : Hid (stpT ds sg sc (.mk op num 0 args ks) = -1) := stp_args _ _ _ _ _ _ _ _ (argsIn_neg (i := j) HJ.out (by rw [HVV.out]; have := HSL.out; omega))
        by_cases hr0 : v < 0
        · clear hr
          go_wp2_with fail
          exact fin_ hQ (stR_neg V.out KW.out)
        · have hr1 : (nv : Int) ≤ v := by omega
          have hr2 : ¬ v < (nv : Int) := by omega
          clear hr
          go_wp2_with fail
          exact fin_ hQ (stR_neg V.out KW.out)
      obtain ⟨hr0, hr1⟩ := hr
      obtain ⟨k, rfl⟩ := Int.eq_ofNat_of_zero_le hr0
      have hkn : k < nv := by omega
      obtain ⟨b2, o2, rfl, _, d2⟩ := (hv.ext KW.out (fun _ _ h => h)).at hkn
      obtain ⟨x, hx⟩ : ∃ x, iAt sc k = x := ⟨_, rfl⟩
      rw [hx] at d2
      have ET : Hid ((tysOf sc args).take (j + 1) = (tysOf sc args).take j ++ [x]) := by
        show _ = _
        have h2 : j < (tysOf sc args).length := by rw [tysOf_len]; exact HJ.out
        rw [List.take_succ_eq_append_getElem h2, ← iAt_eq h2, tysOf_at HJ.out, HVV.out]
        rw [← hx]; rfl
      have hI2 : Hid (∀ l, l < j + 1 → 0 ≤ iAt args l ∧ iAt args l < (sc.length : Int)) := fun l hl => by
        rcases Nat.lt_succ_iff_lt_or_eq.1 hl with h | rfl
        · exact hI.out l h
        · rw [HVV.out]; have := HSL.out; omega
      have hlr : ((tysOf sc args).take j).length = j := by rw [List.length_take, tysOf_len]; have := HJ.out; omega
      have HLR := Lib.hid hlr
      have KL := Keep.al wo (.cells #[.int .i64 x] 3)
      have hxt : IntsL (wo.alloc (.cells #[.int .i64 x] 3)) (fun _ => True) (some ⟨wo.heap.size, 0, none⟩) 1 [x] := (lit_intsD wo (fun _ => True) 3 [x] #[.int .i64 x] 1 trivial rfl rfl (by omega)).toInts
      have hv2 : (wo.alloc (.cells #[.int .i64 x] 3)).ownsRow (w.heap.size + 2) 3 1 u8 j (((tysOf sc args).take j).map (Value.int .i64)) := by
        have h := hV.out.k KL
        unfold VR at h
        rw [hlr] at h
        exact h
      have hzl : w.heap.size + 2 ≤ (wo.alloc (.cells #[.int .i64 x] 3)).heap.size := by have := HWZ.out; simp; omega
      have hKK := Lib.hid (KW.out.trans KL)
      have R0l := Lib.hid (row_ext R0w.out KL (fun h => h))
      have R1l := Lib.hid (row_ext R1w.out KL (fun h => h))
      have VL := Lib.hid (hV.out.k KL).lt
      clear hlr hx KL hV
      go_wp2_with (at_builtin; go_must (refine wpList_appInts _ rfl (.tmp 34) (.tmp 39) rfl (w.heap.size + 2) u8 j ((tysOf sc args).take j) rfl hv2 _ 1 1 [x] (fun _ => True) rfl hxt (by omega) hzl ?_); intro vn w7 ho hgr; have X7 := Lib.hid ((Ext.refl (fun k => w.heap.size + 2 ≤ k) _).grown hgr (fun k hk => .inr (VL.out k hk).1)); have HO := Lib.hid ho; clear ho hgr)
      go_roundw
      case rel => exact ⟨j + 1, by omega, by go_num, hI2, by
        show VR _ _ _ _
        unfold VR
        rw [ET.out, List.length_append, HLR.out]
        exact HO.out, hKK.out.then_ X7.out (fun q hq h => by omega), by show _ ≤ _; have := X7.out.size; omega, row_ext R0l.out X7.out (by omega), row_ext R1l.out X7.out (by omega)⟩
      case measure => simp [intOf]; omega
    · have HJ : Hid (j = na) := by show _ = _; omega
      have HARGS : Hid (argsIn sc args = true) := argsIn_iff.2 (fun i hi => hI.out i (by have := HJ.out; have := HNL.out; omega))
      have hV2 := hV.out
      rw [List.take_of_length_le (by rw [tysOf_len]; have := HJ.out; have := HNL.out; omega)] at hV2
      obtain ⟨tys, hty⟩ : ∃ tys, tysOf sc args = tys := ⟨_, rfl⟩
      have HTY := Lib.hid hty
      rw [hty] at hV2
      have htl : tys.length = na := by rw [← hty, tysOf_len]; exact HNL.out
      have HTA : Hid (allT ds.length tys = true) := by show _ = _; rw [← hty]; exact tysOf_all HAll.out HARGS.out
      obtain ⟨a8, c8, rfl, hc8, ho8⟩ := hV2.slice
      rw [htl] at ho8 hc8
      have QT : Hid (IntsL wo (fun k => (Value.slice a8 na c8).ownBlock = some k) a8 na tys) := ho8.read
      have HTL := Lib.hid htl
      rw [htl]
      clear hV hV2 hty ho8 hI htl
      have QP := Lib.hid (hp.k KW.out)
      have QV := Lib.hid (hv.ext KW.out (fun _ _ h => h))
      have QK := Lib.hid (hk.k KW.out)
      have x0 := R0w.out.cell (i := 0) (by simp)
      have x1 := R0w.out.cell (i := 1) (by simp)
      have y0 := R1w.out.cell (i := 0) (by simp)
      have y1 := R1w.out.cell (i := 1) (by simp)
      have y2 := R1w.out.cell (i := 2) (by simp)
      have y3 := R1w.out.cell (i := 3) (by simp)
      have y4 := R1w.out.cell (i := 4) (by simp)
      simp at x0 x1 y0 y1 y2 y3 y4
      have HBI : Hid (intoOk sc op 0 = true) := decide_eq_true (.inl rfl)
      clear HJ
      go_upto_region 11 with fail
      go_wp2_with fail
      refine (implIsCounting op _).mono ?_
      rw [decide_eq_true hc]
      rintro e w9 ⟨rfl, rfl⟩
      have HC := Lib.hid hc
      have VC : Hid (stpT ds sg sc (.mk op num 0 args ks) = if ks.length = 0 ∧ num = 0 ∧ tys.length = 1 ∧ iAt tys 0 ≠ 0 ∧ (op = 14 ∨ op = 15 ∨ isArr ds (iAt tys 0) = false) then 0 else -1) := by
        show _ = _
        rw [← HTY.out]
        exact stp_cnt hc HARGS.out HBI.out
      clear hc
      obtain ⟨b1, hb1⟩ : ∃ b1, decide (na = 1 ∧ iAt tys 0 ≠ 0 ∧ num = 0 ∧ nk = 0) = b1 := ⟨_, rfl⟩
      have HB1 := Lib.hid hb1
      clear hb1
      go_upto_region 12 with fail
      go_cut [11] (fun sb wx => sb = .bool b1 ∧ wo = wx)
      case first =>
        by_cases c1 : na = 1
        · replace c1 := Lib.hid c1
          have q1 : ((na : Int) == 1) = true := beq_iff_eq.2 (by have := c1.out; omega)
          obtain ⟨b8, o8, rfl, _, d8⟩ := QT.out.at (i := 0) (by have := c1.out; omega)
          rw [Nat.add_zero] at d8
          obtain ⟨x, hx⟩ : ∃ x, iAt tys 0 = x := ⟨_, rfl⟩
          rw [hx] at d8
          have hn0' : (0 : Int) < (na : Int) := by have := c1.out; omega
          replace hx := Lib.hid hx
          by_cases c2 : x = 0
          · replace c2 := Lib.hid c2
            have q2 : (x != 0) = false := (by rw [c2.out]; exact bne_self_eq_false _)
            have hbv : b1 = false := by rw [← HB1.out]; exact decide_eq_false (fun h => h.2.1 (by rw [hx.out]; exact c2.out))
            go_wp2_with fail
            go_meet
            case rel => exact ⟨by first | (rw [hbv]; done) | (rw [hbv]; rfl), rfl⟩
          · have q2 : (x != 0) = true := bne_iff_ne.2 c2
            by_cases c3 : num = 0
            · replace c3 := Lib.hid c3
              have q3 : (num == 0) = true := beq_iff_eq.2 c3.out
              by_cases c4 : nk = 0
              · replace c4 := Lib.hid c4
                have q4 : ((nk : Int) == 0) = true := beq_iff_eq.2 (by have := c4.out; omega)
                have hbv : b1 = true := by rw [← HB1.out]; exact decide_eq_true ⟨c1.out, by rw [hx.out]; exact c2, c3.out, c4.out⟩
                go_wp2_with fail
                go_meet
                case rel => exact ⟨by first | (rw [hbv]; done) | (rw [hbv]; rfl), rfl⟩
              · have q4 : ((nk : Int) == 0) = false := beq_eq_false_iff_ne.2 (by omega)
                have hbv : b1 = false := by rw [← HB1.out]; exact decide_eq_false (fun h => c4 h.2.2.2)
                go_wp2_with fail
                go_meet
                case rel => exact ⟨by first | (rw [hbv]; done) | (rw [hbv]; rfl), rfl⟩
            · have q3 : (num == 0) = false := beq_eq_false_iff_ne.2 c3
              have hbv : b1 = false := by rw [← HB1.out]; exact decide_eq_false (fun h => c3 h.2.2.1)
              go_wp2_with fail
              go_meet
              case rel => exact ⟨by first | (rw [hbv]; done) | (rw [hbv]; rfl), rfl⟩
        · have q1 : ((na : Int) == 1) = false := beq_eq_false_iff_ne.2 (by omega)
          have hbv : b1 = false := by rw [← HB1.out]; exact decide_eq_false (fun h => c1 h.1)
          go_wp2_with fail
          go_meet
          case rel => exact ⟨by first | (rw [hbv]; done) | (rw [hbv]; rfl), rfl⟩
      case rest =>
      obtain ⟨rfl, rfl⟩ := hcut
      cases b1
      · have V : Hid (stpT ds sg sc (.mk op num 0 args ks) = -1) := by
          show _ = _
          rw [VC.out, if_neg (fun h => of_decide_eq_false HB1.out ⟨by have := HTL.out; omega, h.2.2.2.1, h.2.1, by have := HNK.out; omega⟩)]
        go_wp2_with fail
        exact fin_ hQ (stR_neg V.out KW.out)
      replace HB1 := Lib.hid (of_decide_eq_true HB1.out)
      obtain ⟨b8, o8, rfl, hb8, d8⟩ := QT.out.at (i := 0) (by have := HB1.out.1; omega)
      rw [Nat.add_zero] at d8
      obtain ⟨x, hx⟩ : ∃ x, iAt tys 0 = x := ⟨_, rfl⟩
      rw [hx] at d8
      have HX := Lib.hid hx
      clear hx
      by_cases h16 : op = 16 ∨ op = 17
      case neg =>
        have V : Hid (stpT ds sg sc (.mk op num 0 args ks) = 0) := by
          show _ = _
          rw [VC.out, if_pos ⟨by have := HNK.out; have := HB1.out; omega, HB1.out.2.2.1, by have := HTL.out; have := HB1.out; omega, HB1.out.2.1, by have := HC.out; omega⟩]
        have q1 : (op == 16) = false := beq_eq_false_iff_ne.2 (fun h => h16 (.inl h))
        have q2 : (op == 17) = false := beq_eq_false_iff_ne.2 (fun h => h16 (.inr h))
        clear h16
        go_wp2_with fail
        exact fin_ hQ (stR_cnt V.out HC.out KW.out)
      have H16 := Lib.hid h16
      go_upto_region 13 with fail
      go_cut [105] (fun sb wx => sb = .bool true ∧ wo = wx)
      case first =>
        rcases h16 with h16 | h16
        · have q1 : (op == 16) = true := beq_iff_eq.2 h16
          clear h16
          go_wp2_with fail
          go_meet
          case rel => exact ⟨rfl, rfl⟩
        · have q1 : (op == 16) = false := beq_eq_false_iff_ne.2 (by omega)
          have q2 : (op == 17) = true := beq_iff_eq.2 h16
          clear h16
          go_wp2_with fail
          go_meet
          case rel => exact ⟨rfl, rfl⟩
      case rest =>
      obtain ⟨rfl, rfl⟩ := hcut
      clear h16
      obtain ⟨ar, har⟩ : ∃ ar, isArr ds x = ar := ⟨_, rfl⟩
      have HAR := Lib.hid har
      have KD : Keep wo wo.drew := (Ext.refl (fun _ => False) wo).drew
      have QD := Lib.hid (QP.out.1.k KD)
      have hn0n : 0 < na := by have := HB1.out.1; omega
      clear har
      go_upto_region 14 with fail
      replace x0 : wo.drew.cell? ⟨w.heap.size, 0, none⟩ = some (.slice a0 n0 c0) := x0
      replace d8 : wo.drew.cell? ⟨b8, o8, none⟩ = some (.int .i64 x) := d8
      refine wp_region_held_drew (S := fun w' => w'.cell? ⟨w.heap.size, 0, none⟩ = some (.slice a0 n0 c0) ∧ w'.cell? ⟨b8, o8, none⟩ = some (.int .i64 x)) (by kernel_rfl) ⟨x0, d8⟩ (fun hHeld => ?_)
      have pc : Hid (Keep wo.drew wo.drew) := Ext.refl _ _
      have hwW : wo.heap.size ≤ wo.drew.heap.size := Nat.le_refl _
      generalize wo.drew = W0 at *
      refine wT 0 hHeld ?_
      try go_frame
      refine wT 1 hHeld ?_
      try go_frame
      refine wT 2 hHeld ?_
      try go_frame
      refine wpAnyH_takeL (i := 3) (v := .pointer (some ⟨b8, o8, none⟩)) rfl (by kernel_rfl) (by kernel_rfl) (by kernel_rfl) (fun _ _ _ h => h) (by rfl) hHeld (fun w _ => run_idx0 _ _ _ _ na c8 w rfl rfl hn0n) ?_
      try go_frame
      refine wT 4 hHeld ?_
      try go_frame
      refine wpAnyH_ready (rs := [5, 9]) (by kernel_rfl) (by simp) ?_
      refine allReadyH_consL rfl (by rfl) (fun K0 hK0 => ?_) (allReadyH_consL rfl (by rfl) (fun K0 hK0 => ?_) (AllReadyH.nil))
      · go_simp
        go_at_call 74
        refine (implArrowAt _ _ _ ds _ x _ (Rd.toDecls QD.out) (by omega)).mono ?_
        rw [HAR.out]
        rintro e y1 ⟨f, g, a3, n3, c3, rfl, -, kk⟩
        replace pc := Lib.hid (pc.out.trans kk)
        replace QD := Lib.hid (QD.out.k kk)
        clear kk
        refine hK0.out _ _ ⟨pc.out.cq x0 (fun h => h), pc.out.cq d8 (fun h => h)⟩ (fun hHeld => ?_)
        clear hK0
        try go_frame
        refine wT 6 hHeld ?_
        try go_frame
        refine wT 7 hHeld ?_
        try go_frame
        refine wT 8 hHeld ?_
        try go_frame
        refine wO 9 (fun K0 hK0 => ?_)
        go_simp
        obtain ⟨y2, hW⟩ : ∃ N, N = y1.alloc (.cells #[.int .i64 0, .int .i64 0, .slice none 0 0] 93) := ⟨_, rfl⟩
        obtain ⟨s12, hsl⟩ : ∃ s, s = y1.heap.size := ⟨_, rfl⟩
        rw [← hsl, ← hW]
        have RZ : Hid (y2.rowIs s12 93 3 (fun i => (#[.int .i64 0, .int .i64 0, .slice none 0 0] : Array Value).getD i undef)) := by
          rw [hW, hsl]
          exact rowOf y1 #[.int .i64 0, .int .i64 0, .slice none 0 0] 93
        have kk : Keep y1 y2 := by rw [hW]; exact Keep.al _ _
        have hsx : w.heap.size ≠ s12 := by have := HWZ.out; have h2 := pc.out.size; omega
        have hs8 : b8 ≠ s12 := by have h3 := World.block_lt_of_cell? _ _ d8; have h2 := pc.out.size; change b8 < W0.heap.size at h3; omega
        have hsn : Hid (W0.heap.size ≤ s12) := by show _ ≤ _; have h2 := pc.out.size; omega
        replace pc := Lib.hid (pc.out.trans kk)
        replace QD := Lib.hid (QD.out.k kk)
        clear kk hW hsl
        refine hK0.out _ _ ⟨pc.out.cq x0 (fun h => h), pc.out.cq d8 (fun h => h)⟩ (fun hHeld => ?_)
        clear hK0
        try go_frame
        refine wO 10 (fun K0 hK0 => ?_)
        have c0 := RZ.out.cell (i := 0) (by simp)
        have c1 := RZ.out.cell (i := 1) (by simp)
        have c2 := RZ.out.cell (i := 2) (by simp)
        simp at c0 c1 c2
        have f0 : y2.frozen? ⟨s12, 0, none⟩ = false := RZ.out.frozen 0
        have f1 : y2.frozen? ⟨s12, 1, none⟩ = false := RZ.out.frozen 1
        have f2 : y2.frozen? ⟨s12, 2, none⟩ = false := RZ.out.frozen 2
        go_simp
        have sx := Lib.hid (Ext.setCell (S := fun q => q = s12) (Ext.setCell (S := fun q => q = s12) (Ext.setCell (S := fun q => q = s12) (Ext.refl _ y2) (p := ⟨s12, 0, none⟩) (.inr rfl) (.int .i64 f)) (p := ⟨s12, 1, none⟩) (.inr rfl) (.int .i64 g)) (p := ⟨s12, 2, none⟩) (.inr rfl) (.slice a3 n3 c3))
        clear c0 c1 c2 f0 f1 f2
        refine hK0.out _ _ ⟨at_put3 (pc.out.cq x0 (fun h => h)) hsx, at_put3 (pc.out.cq d8 (fun h => h)) hs8⟩ (fun hHeld => ?_)
        clear hK0
        try go_frame
        refine wT 11 hHeld ?_
        try go_frame
        refine wpAnyH_done (by kernel_rfl) ?_ _
        have KE := Lib.hid (KW.out.trans (KD.trans (pc.out.then_ (S := fun _ => False) sx.out (fun i hi e => by have h3 := hsn.out; have e2 : i = s12 := e; omega))))
        clear pc sx QD RZ hHeld
        cases ar
        · have V : Hid (stpT ds sg sc (.mk op num 0 args ks) = 0) := by show _ = _; rw [VC.out, if_pos ⟨by have := HNK.out; have := HB1.out; omega, HB1.out.2.2.1, by have := HTL.out; have := HB1.out; omega, HB1.out.2.1, by rw [HX.out]; exact .inr (.inr HAR.out)⟩]
          go_wp2_with fail
          exact fin_ hQ (stR_cnt V.out HC.out KE.out)
        · have V : Hid (stpT ds sg sc (.mk op num 0 args ks) = -1) := by show _ = _; rw [VC.out, if_neg (fun h => by have h1 := h.2.2.2.2; rw [HX.out, HAR.out] at h1; have := H16.out; rcases h1 with h1 | h1 | h1; omega; omega; cases h1)]
          go_wp2_with fail
          exact fin_ hQ (stR_neg V.out KE.out)
      · go_simp
        obtain ⟨y1, hW⟩ : ∃ N, N = W0.alloc (.cells #[.int .i64 0, .int .i64 0, .slice none 0 0] 93) := ⟨_, rfl⟩
        obtain ⟨s12, hsl⟩ : ∃ s, s = W0.heap.size := ⟨_, rfl⟩
        rw [← hsl, ← hW]
        have RZ : Hid (y1.rowIs s12 93 3 (fun i => (#[.int .i64 0, .int .i64 0, .slice none 0 0] : Array Value).getD i undef)) := by
          rw [hW, hsl]
          exact rowOf W0 #[.int .i64 0, .int .i64 0, .slice none 0 0] 93
        have kk : Keep W0 y1 := by rw [hW]; exact Keep.al _ _
        have hsx : w.heap.size ≠ s12 := by have := HWZ.out; have h2 := pc.out.size; omega
        have hs8 : b8 ≠ s12 := by have h3 := World.block_lt_of_cell? _ _ d8; have h2 := pc.out.size; change b8 < W0.heap.size at h3; omega
        have hsn : Hid (W0.heap.size ≤ s12) := by show _ ≤ _; have h2 := pc.out.size; omega
        replace pc := Lib.hid (pc.out.trans kk)
        replace QD := Lib.hid (QD.out.k kk)
        clear kk hW hsl
        refine hK0.out _ _ ⟨pc.out.cq x0 (fun h => h), pc.out.cq d8 (fun h => h)⟩ (fun hHeld => ?_)
        clear hK0
        try go_frame
        refine wO 5 (fun K0 hK0 => ?_)
        go_simp
        go_at_call 74
        refine (implArrowAt _ _ _ ds _ x _ (Rd.toDecls QD.out) (by omega)).mono ?_
        rw [HAR.out]
        rintro e y2 ⟨f, g, a3, n3, c3, rfl, -, kk⟩
        replace pc := Lib.hid (pc.out.trans kk)
        replace QD := Lib.hid (QD.out.k kk)
        replace RZ := Lib.hid (row_ext RZ.out kk (fun h => h))
        clear kk
        refine hK0.out _ _ ⟨pc.out.cq x0 (fun h => h), pc.out.cq d8 (fun h => h)⟩ (fun hHeld => ?_)
        clear hK0
        try go_frame
        refine wT 6 hHeld ?_
        try go_frame
        refine wT 7 hHeld ?_
        try go_frame
        refine wT 8 hHeld ?_
        try go_frame
        refine wO 10 (fun K0 hK0 => ?_)
        have c0 := RZ.out.cell (i := 0) (by simp)
        have c1 := RZ.out.cell (i := 1) (by simp)
        have c2 := RZ.out.cell (i := 2) (by simp)
        simp at c0 c1 c2
        have f0 : y2.frozen? ⟨s12, 0, none⟩ = false := RZ.out.frozen 0
        have f1 : y2.frozen? ⟨s12, 1, none⟩ = false := RZ.out.frozen 1
        have f2 : y2.frozen? ⟨s12, 2, none⟩ = false := RZ.out.frozen 2
        go_simp
        have sx := Lib.hid (Ext.setCell (S := fun q => q = s12) (Ext.setCell (S := fun q => q = s12) (Ext.setCell (S := fun q => q = s12) (Ext.refl _ y2) (p := ⟨s12, 0, none⟩) (.inr rfl) (.int .i64 f)) (p := ⟨s12, 1, none⟩) (.inr rfl) (.int .i64 g)) (p := ⟨s12, 2, none⟩) (.inr rfl) (.slice a3 n3 c3))
        clear c0 c1 c2 f0 f1 f2
        refine hK0.out _ _ ⟨at_put3 (pc.out.cq x0 (fun h => h)) hsx, at_put3 (pc.out.cq d8 (fun h => h)) hs8⟩ (fun hHeld => ?_)
        clear hK0
        try go_frame
        refine wT 11 hHeld ?_
        try go_frame
        refine wpAnyH_done (by kernel_rfl) ?_ _
        have KE := Lib.hid (KW.out.trans (KD.trans (pc.out.then_ (S := fun _ => False) sx.out (fun i hi e => by have h3 := hsn.out; have e2 : i = s12 := e; omega))))
        clear pc sx QD RZ hHeld
        cases ar
        · have V : Hid (stpT ds sg sc (.mk op num 0 args ks) = 0) := by show _ = _; rw [VC.out, if_pos ⟨by have := HNK.out; have := HB1.out; omega, HB1.out.2.2.1, by have := HTL.out; have := HB1.out; omega, HB1.out.2.1, by rw [HX.out]; exact .inr (.inr HAR.out)⟩]
          go_wp2_with fail
          exact fin_ hQ (stR_cnt V.out HC.out KE.out)
        · have V : Hid (stpT ds sg sc (.mk op num 0 args ks) = -1) := by show _ = _; rw [VC.out, if_neg (fun h => by have h1 := h.2.2.2.2; rw [HX.out, HAR.out] at h1; have := H16.out; rcases h1 with h1 | h1 | h1; omega; omega; cases h1)]
          go_wp2_with fail
          exact fin_ hQ (stR_neg V.out KE.out)
end
end Go.Proofs.Ytmekdccgjgfiaaa
