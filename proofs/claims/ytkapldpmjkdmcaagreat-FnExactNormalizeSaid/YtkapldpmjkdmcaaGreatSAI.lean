/- lower of the reference: operations that neither bind nor choose. -/
import Derived.Test.YtkapldpmjkdmcaaGreatSAH
import Derived.Test.YtkapldpmjkdmcaaGreatSAF
import Derived.Test.YtkapldpmjkdmcaaGreatShelf
import Derived.Test.YtkapldpmjkdmcaaGreatSAC
import Derived.Test.YtkapldpmjkdmcaaGreatSAD
import Derived.Test.YtkapldpmjkdmcaaGreatSAE
import Derived.Test.YtkapldpmjkdmcaaGreatSAB
namespace Go.Proofs.YtkapldpmjkdmcaaGreat
open Go.RowKit

section
variable {w w' wo w1 w5 : World} {base q : Nat} {TT : TypeId} {cs : Array Value} {D D' Dj D5 S EA EB : Nat → Prop} {v v' vj v1 v5 ov v2 : Value} {rows : List (List Dat)}
theorem LowTo.aside {w'' : World} (h : LowTo w w' q D D' v v') (hx : Ext S w' w'') (hS : ∀ k, S k → w.heap.size ≤ k) : LowTo w w'' q D D' v v' :=
  ⟨h.ext.then_ hx (fun i hi hs => by have := hS i hs; omega), h.sub, h.blk⟩
/-- A row aside of the list, behind a step of the list and one of the row. -/
theorem own_next (HO : ∀ k, ov.ownBlock = some k → k ≠ q ∧ vj.ownBlock ≠ some k ∧ ¬ Dj k) (hlt : ∀ k, ov.ownBlock = some k → k < wo.heap.size) (T1 : LowTo wo w1 q Dj D' vj v1) (L1 : LowSt w1 base q TT cs D' v1 rows)
    (hb : ∀ r, v2.ownBlock = some r → ov.ownBlock = some r ∨ w1.heap.size ≤ r) : ∀ k, v2.ownBlock = some k → k ≠ q ∧ v1.ownBlock ≠ some k ∧ ¬ D' k := by
  intro k hk
  rcases hb k hk with h | h
  · obtain ⟨h1, h2, h3⟩ := HO k h
    have h4 := hlt k h
    exact ⟨h1, fun e => by rcases T1.blk k e with h5 | h5; exact h2 h5; omega, fun e => by rcases T1.sub k e with h5 | h5; exact h3 h5; omega⟩
  · exact ⟨fun e => by have := L1.qlt; omega, fun e => by have := L1.own k e; omega, fun e => by have := L1.lt k e; omega⟩
/-- The list behind a step of a row aside of it. -/
theorem LowSt.next {w2 : World} (HO : ∀ k, ov.ownBlock = some k → k ≠ q ∧ vj.ownBlock ≠ some k ∧ ¬ Dj k) (hlt : ∀ k, ov.ownBlock = some k → k < wo.heap.size) (T1 : LowTo wo w1 q Dj D' vj v1) (L1 : LowSt w1 base q TT cs D' v1 rows)
    (hx : Ext (fun r => ov.ownBlock = some r) w1 w2) : LowSt w2 base q TT cs D' v1 rows := by
  have h := own_next HO hlt T1 L1 (v2 := ov) (fun r hr => .inl hr)
  exact L1.ext hx (fun e => (h q e).1 rfl) (fun k hk e => (h k e).2.2 hk) (fun k hk e => (h k e).2.1 hk)
theorem LowTo.add {wo' : World} (h : LowTo w wo q D Dj v vj) (hk : Keep wo wo') (hx : Ext (fun k => k = q ∨ vj.ownBlock = some k) wo' w5) (hs : ∀ k, D5 k → Dj k ∨ EA k ∨ EB k) (he : ∀ k, EA k ∨ EB k → w.heap.size ≤ k)
    (hb : ∀ k, v5.ownBlock = some k → vj.ownBlock = some k ∨ wo'.heap.size ≤ k) : LowTo w w5 q D D5 v v5 := by
  have h1 := h.ext.size
  have h2 := hk.size
  refine ⟨(h.post hk).ext.then_ hx (fun i hi hs => ?_), fun k hk => ?_, fun k hk => ?_⟩
  · rcases hs with e | e
    · exact .inl e
    · rcases h.blk i e with h3 | h3
      · exact .inr h3
      · omega
  · rcases hs k hk with h3 | h3
    · exact h.sub k h3
    · exact .inr (he k h3)
  · rcases hb k hk with h3 | h3
    · exact h.blk k h3
    · exact .inr (by omega)
end
theorem lowSt_cast {w : World} {base q : Nat} {TT : TypeId} {cs cs' : Array Value} {D : Nat → Prop} {v : Value} {rows rows' : List (List Dat)} (h : LowSt w base q TT cs D v rows) (h1 : cs = cs') (h2 : rows = rows') : LowSt w base q TT cs' D v rows' := h1 ▸ h2 ▸ h
theorem rowsS_one (s : StepL) : rowsS [s] = [rowS s] := by simp [rowsS]

section
variable (ds : List DeclL) (sg : List SigL) (hok : sigsOk ds sg = true)
include hok
set_option maxRecDepth 100000 in
set_option maxHeartbeats 2000000 in
theorem specLow_other (op num : Int) (h12 : ¬ op = 12) (h13 : ¬ op = 13) (h7 : ¬ op = 7) (h8 : ¬ op = 8) (ks : List ExprL) (IH0 : ∀ j, j < ks.length → LwS ds sg (eAt ks j)) : LwS ds sg (.mk op num ks) := by
  intro vars env n N q base D D1 v rows a0 n0 c0 a1 n1 c1 av nv cv a m c w hL hN r0 rv re hAs hty hlen hB1 hB2 hB3
  refine calls_k fun Q hQ => ?_
  change Rd w D1 (encExprs ks) _ at re
  simp only [ExprL.op, ExprL.num]
  rw [nE] at hB1 hB2 hB3
  have K0 := (Keep.al w (.cells #[.slice a0 n0 c0, .slice a1 n1 c1] 44)).trans (Keep.al _ (.cells #[.int .i64 op, .int .i64 num, .slice a m c] 58))
  have R0 := (rowOf w #[.slice a0 n0 c0, .slice a1 n1 c1] 44).alloc (.cells #[.int .i64 op, .int .i64 num, .slice a m c] 58)
  have R1 := rowOf (w.alloc (.cells #[.slice a0 n0 c0, .slice a1 n1 c1] 44)) #[.int .i64 op, .int .i64 num, .slice a m c] 58
  simp only [World.size_alloc] at R1
  have hq := hL.qlt
  have hv := hL.own
  have HE : Hid (∀ k, Aside D1 w k → k ≠ q ∧ v.ownBlock ≠ some k) := by
    intro k hk
    rcases hk with hk | rfl | rfl
    · exact hAs k hk.1
    · exact ⟨by omega, fun e => by have := hv _ e; omega⟩
    · exact ⟨by omega, fun e => by have := hv _ e; omega⟩
  have rd0 := Lib.hid (((r0.lt).mono (D' := Aside D1 w) (fun k hk => .inl hk)).k K0)
  have rdv := Lib.hid (((rv.lt).mono (D' := Aside D1 w) (fun k hk => .inl hk)).k K0)
  have rde := Lib.hid (((re.lt).mono (D' := Aside D1 w) (fun k hk => .inl hk)).k K0)
  have LW := Lib.hid (hL.k K0)
  have KW := Lib.hid K0
  have sW : (((w.alloc (.cells #[.slice a0 n0 c0, .slice a1 n1 c1] 44)).alloc (.cells #[.int .i64 op, .int .i64 num, .slice a m c] 58))).heap.size = w.heap.size + 2 := by simp
  clear hAs hL r0 rv re
  have HTY := Lib.hid (ty_other hok h12 h13 h7 h8 hty)
  have IH := Lib.hid IH0
  have VL := Lib.hid (lowE_other (num := num) (ks := ks) ds env n h12 h13 h7 h8)
  rw [VL.out] at hQ
  obtain ⟨e1, hnc, hnm, hat⟩ := exprs_at rde.out
  have HAT := Lib.hid hat
  have HM := Lib.hid e1
  have HN := Lib.hid hN
  have hkl := nEs_len ks
  have x0 : (((w.alloc (.cells #[.slice a0 n0 c0, .slice a1 n1 c1] 44)).alloc (.cells #[.int .i64 op, .int .i64 num, .slice a m c] 58))).cell? ⟨w.heap.size, 0, none⟩ = some (.slice a0 n0 c0) := R0.cell (i := 0) (by simp)
  have x1 : (((w.alloc (.cells #[.slice a0 n0 c0, .slice a1 n1 c1] 44)).alloc (.cells #[.int .i64 op, .int .i64 num, .slice a m c] 58))).cell? ⟨w.heap.size, 1, none⟩ = some (.slice a1 n1 c1) := R0.cell (i := 1) (by simp)
  have u0 : (((w.alloc (.cells #[.slice a0 n0 c0, .slice a1 n1 c1] 44)).alloc (.cells #[.int .i64 op, .int .i64 num, .slice a m c] 58))).cell? ⟨w.heap.size + 1, 0, none⟩ = some (.int .i64 op) := R1.cell (i := 0) (by simp)
  have u1 : (((w.alloc (.cells #[.slice a0 n0 c0, .slice a1 n1 c1] 44)).alloc (.cells #[.int .i64 op, .int .i64 num, .slice a m c] 58))).cell? ⟨w.heap.size + 1, 1, none⟩ = some (.int .i64 num) := R1.cell (i := 1) (by simp)
  have u2 : (((w.alloc (.cells #[.slice a0 n0 c0, .slice a1 n1 c1] 44)).alloc (.cells #[.int .i64 op, .int .i64 num, .slice a m c] 58))).cell? ⟨w.heap.size + 1, 2, none⟩ = some (.slice a m c) := R1.cell (i := 2) (by simp)
  have hv5 : env.length = nv := (ints_at rdv.out).1
  clear hat e1 VL IH0 hty R0 R1 hN K0
  go_enter Tryz.func153, Tryz.ntmps153
  go_wp2_with fail
  generalize hW : ((w.alloc (.cells #[.slice a0 n0 c0, .slice a1 n1 c1] 44)).alloc (.cells #[.int .i64 op, .int .i64 num, .slice a m c] 58)) = W at *
  clear hW
  have hsW := Lib.hid sW
  have X0 := Lib.hid x0
  have X1 := Lib.hid x1
  have U0 := Lib.hid u0
  have U1 := Lib.hid u1
  have U2 := Lib.hid u2
  have V0 : Hid (VR (W.alloc (.cells #[] 3)) W.heap.size (.slice (some ⟨w.heap.size + 2, 0, none⟩) 0 0) (lowA ds (ks.take 0) env n).2) := by
    show VR _ _ _ _; rw [List.take_zero, lowA_nil, ← hsW.out]; exact VR.made W
  have L0 : Hid (LowSt (W.alloc (.cells #[] 3)) base q 196 #[v, .int .i64 ((n + (lowA ds (ks.take 0) env n).1.length : Nat) : Int)] D v (rows ++ rowsS (lowA ds (ks.take 0) env n).1)) := by
    show LowSt _ _ _ _ _ _ _ _
    have := LW.out.k (Keep.al W (.cells #[] 3))
    rw [HN.out] at this
    rw [List.take_zero, lowA_nil]; simpa [rowsS] using this
  have T0 : Hid (LowTo W (W.alloc (.cells #[] 3)) q D D v v) := LowTo.keep (Keep.al _ _)
  have O0 : Hid (∀ k, (Value.slice (some ⟨w.heap.size + 2, 0, none⟩) 0 0).ownBlock = some k → k ≠ q ∧ v.ownBlock ≠ some k ∧ ¬ D k) := by
    intro k hk
    obtain rfl : w.heap.size + 2 = k := by simpa [Value.ownBlock] using hk
    exact ⟨fun e => by have := LW.out.qlt; have := hsW.out; omega, fun e => by have := LW.out.own _ e; have := hsW.out; omega, fun e => by have := LW.out.lt _ e; have := hsW.out; omega⟩
  clear x0 x1 u0 u1 u2 sW
  go_loopw [15, 16] (fun ov iv wr => ∃ (j : Nat) (vj : Value) (Dj : Nat → Prop), j ≤ m ∧ iv = .int .i64 j ∧ Hid (VR wr W.heap.size ov (lowA ds (ks.take j) env n).2) ∧ Hid (LowSt wr base q 196 #[vj, .int .i64 ((n + (lowA ds (ks.take j) env n).1.length : Nat) : Int)] Dj vj (rows ++ rowsS (lowA ds (ks.take j) env n).1)) ∧ Hid (LowTo W wr q D Dj v vj) ∧ Hid (∀ k, ov.ownBlock = some k → k ≠ q ∧ vj.ownBlock ≠ some k ∧ ¬ Dj k)) (fun _ iv _ => m - (intOf iv).toNat)
  case atStart => exact ⟨0, v, D, Nat.zero_le _, rfl, V0, L0, T0, O0⟩
  case round =>
    obtain ⟨j, vj, Dj, hj, rfl, HV, HL, HT, HO⟩ := hrel
    obtain ⟨wo, rfl⟩ : ∃ wo : World, wo = wr := ⟨_, rfl⟩
    clear V0 L0 T0 O0
    have hlj : (lowA ds (ks.take j) env n).2.length = j := by rw [lowA_len, List.length_take, HM.out]; omega
    have hs1 := lowA_len1 ds (ks.take j) env n
    have hs2 := nEs_take_le ks j
    obtain ⟨sj, hsj⟩ : ∃ s, (lowA ds (ks.take j) env n).1 = s := ⟨_, rfl⟩
    obtain ⟨vs, hvs⟩ : ∃ s, (lowA ds (ks.take j) env n).2 = s := ⟨_, rfl⟩
    have HSJ := Lib.hid hsj
    have HVS := Lib.hid hvs
    rw [hvs] at HV hlj
    obtain ⟨aO, cO, rfl, hcO, hoO⟩ := HV.out.slice
    rw [hsj] at HL hs1
    obtain ⟨Nj, hNj⟩ : ∃ N : Int, N = ((n + sj.length : Nat) : Int) := ⟨_, rfl⟩
    have HNJ := Lib.hid hNj
    have hnj0 : 0 ≤ Nj := by omega
    have hnj1 : Nj ≤ 100000 := by omega
    have HLJ := Lib.hid hlj
    have HEJ := Lib.hid (aside_next HE.out (by have := hsW.out; omega) HT.out)
    have hwo := HT.out.ext.size
    have x0 := at_low HT.out HE.out X0.out (.inr (.inl rfl))
    have x1 := at_low HT.out HE.out X1.out (.inr (.inl rfl))
    have u0 := at_low HT.out HE.out U0.out (.inr (.inr rfl))
    have u1 := at_low HT.out HE.out U1.out (.inr (.inr rfl))
    have u2 := at_low HT.out HE.out U2.out (.inr (.inr rfl))
    have hro : rows.length + sj.length ≤ 100000 := by omega
    have hsl : sj.length ≤ nEs (ks.take j) := hs1
    clear hs1 hsj hvs hNj hlj
    by_cases hlt : j < m
    · have hjl : j < ks.length := by have := HM.out; omega
      have hq0 := nEs_take ks hjl
      have hq1 := nEs_take_le ks (j + 1)
      have HLA := Lib.hid (lowA_take ds env n hjl)
      obtain ⟨b, o, rfl, hb0, ak, nk, ck, d0, d1, d2, rk⟩ := HAT.out j hlt
      have d0 := at_low HT.out HE.out d0 hb0
      have d1 := at_low HT.out HE.out d1 hb0
      have d2 := at_low HT.out HE.out d2 hb0
      have qd := Lib.hid (rd0.out.low HE.out HT.out).kd
      have qv := Lib.hid (rdv.out.low HE.out HT.out).kd
      have qk := Lib.hid (rk.low HE.out HT.out).kd
      have LJ : Hid (LowSt wo.drew base q 196 #[vj, .int .i64 Nj] Dj vj (rows ++ rowsS sj)) := by show LowSt _ _ _ _ _ _ _ _; rw [HNJ.out]; exact HL.out.k (Ext.refl (fun _ => False) wo).drew
      clear rk
      go_wp2_with fail
      go_still_tail 8, (by kernel_rfl)
      change wpList _ _ _ _ _ wo.drew
      go_wp2_with fail
      refine (IH.out j hjl vars env (n + sj.length) Nj q base Dj (Aside D1 w) vj (rows ++ rowsS sj) _ _ _ _ _ _ _ _ _ _ _ _ wo.drew LJ.out HNJ.out qd.out qv.out qk.out HEJ.out (HTY.out j hjl) hlen (by omega) (by omega) (by rw [List.length_append, rowsS_map, List.length_map]; omega)).mono ?_
      obtain ⟨y, hy⟩ : ∃ s, (lowE ds (eAt ks j) env (n + sj.length)).2 = s := ⟨_, rfl⟩
      rw [hy]
      rintro e w1 ⟨v1, D2, rfl, L1, T1⟩
      have T1' := Lib.hid ((LowTo.keep (Ext.refl (fun _ => False) wo).drew).trans T1)
      have L1' := Lib.hid L1
      have HY := Lib.hid hy
      have hw1 := T1'.out.ext.size
      have hol := Lib.hid (fun k hk => (HV.out.lt k hk).2)
      have KA := Keep.al w1 (.cells #[.int .i64 y] 3)
      have HV2 := Lib.hid ((HV.out.low (fun k hk => ⟨(HO.out k hk).1, (HO.out k hk).2.1⟩) T1'.out).k KA)
      have hc0 : (w1.alloc (.cells #[.int .i64 y] 3)).cell? ⟨w1.heap.size, 0, none⟩ = some (.int .i64 y) := by simp
      have hbW : W.heap.size ≤ (w1.alloc (.cells #[.int .i64 y] 3)).heap.size := by simp; omega
      have KA' := Lib.hid KA
      clear L1 T1 hy x0 x1 u0 u1 u2 d0 d1 d2 KA
      go_wp2_with (at_builtin; go_must (refine wpList_appVR _ rfl (.tmp 135) (.tmp 137) rfl W.heap.size _ vs rfl HV2.out w1.heap.size 1 y rfl hc0 (by have := HLJ.out; omega) hbW ?_); intro v2 w2 hV)
      have HV3 := Lib.hid hV
      clear hV
      go_roundw
      case rel => exact ⟨j + 1, v1, D2, by omega, by go_num, by
        show VR _ _ _ _
        rw [HLA.out, HSJ.out, HVS.out, HY.out]; exact HV3.out.row, by
        show LowSt _ _ _ _ _ _ _ _
        rw [HLA.out, HSJ.out]
        refine lowSt_cast ((L1'.out.k KA'.out).ext HV3.out.ext ?_ ?_ ?_) (by rw [List.length_append, Nat.add_assoc]) (by rw [List.append_assoc, ← rowsS_app])
        · intro e; exact (own_next HO.out hol.out T1'.out L1'.out (v2 := Value.slice aO vs.length cO) (fun r hr => .inl hr) q e).1 rfl
        · intro k hk e; exact (own_next HO.out hol.out T1'.out L1'.out (v2 := Value.slice aO vs.length cO) (fun r hr => .inl hr) k e).2.2 hk
        · intro k hk e; exact (own_next HO.out hol.out T1'.out L1'.out (v2 := Value.slice aO vs.length cO) (fun r hr => .inl hr) k e).2.1 hk, ((HT.out.trans T1'.out).post KA'.out).aside HV3.out.ext (fun k hk => (HV.out.lt k hk).1), own_next HO.out hol.out T1'.out L1'.out (fun r hr => (HV3.out.blk r hr).imp id (fun h => by simp at h; omega))⟩
      case measure => simp [intOf]; omega
    · have HJ : Hid (j = m) := by show _ = _; omega
      have HTK : Hid (ks.take j = ks) := by show _ = _; rw [HJ.out, ← HM.out, List.take_length]
      have KB := Keep.al wo (.cells #[] 69)
      have KB' := Lib.hid KB
      have LJ : Hid (LowSt (wo.alloc (.cells #[] 69)) base q 196 #[vj, .int .i64 Nj] Dj vj (rows ++ rowsS sj)) := by show LowSt _ _ _ _ _ _ _ _; rw [HNJ.out]; exact HL.out.k KB
      have OA := Lib.hid ((HV.out.k KB).owns (by have := HLJ.out; omega))
      have hol := Lib.hid (fun k hk => (HV.out.lt k hk).1)
      clear KB
      go_wp2_with fail
      refine (specAdd base q vj Nj Dj (rows ++ rowsS sj) op num 0 vs [] aO vs.length cO _ _ _ (fun k => (Value.slice aO vs.length cO).ownBlock = some k) (fun _ => False) _ LJ.out OA.out (Own.nil _ _ _ _) (fun k hk => by rcases hk with hk | hk; exact ⟨(HO.out k hk).2.2, (HO.out k hk).1, (HO.out k hk).2.1⟩; exact hk.elim) (fun _ _ h => h) (by rw [List.length_append, rowsS_map, List.length_map]; omega) hnj0 hnj1).mono ?_
      rintro e w5 ⟨rfl, v5, D5, L5, S5, X5, B5⟩
      have L5' := Lib.hid L5
      have T5 := Lib.hid (HT.out.add KB'.out X5 S5 (fun k hk => by rcases hk with hk | hk; exact hol.out k hk; exact hk.elim) B5)
      clear L5 S5 X5 B5
      go_wp2_with fail
      refine fin_ hQ ⟨v5, D5, ret_i ?_, ?_, (LowTo.keep KW.out).trans T5.out⟩
      · rw [← HTK.out, HSJ.out]; exact HNJ.out
      · have e1 : lowA ds ks env n = (sj, vs) := by
          have h1 := HSJ.out
          have h2 := HVS.out
          rw [HTK.out] at h1 h2
          rw [← h1, ← h2]
        rw [e1]
        refine lowSt_cast L5'.out (by rw [HNJ.out, show ((n + sj.length : Nat) : Int) + 1 = ((n + (sj ++ [StepL.mk op num 0 vs []]).length : Nat) : Int) by rw [List.length_append, List.length_singleton]; omega]) (by rw [rowsS_app, rowsS_one, List.append_assoc])
end
end Go.Proofs.YtkapldpmjkdmcaaGreat
/- lowerBlock of the reference; append of a block. -/
namespace Go.Proofs.YtkapldpmjkdmcaaGreat
open Go.RowKit

theorem nE_two0 (ks : List ExprL) {j : Nat} (h : j + 1 < ks.length) : nE (eAt ks 0) + nE (eAt ks (j + 1)) ≤ nEs ks := by
  match ks, h with
  | k :: ks, h =>
    have := nE_le ks (j := j) (by simpa using h)
    have e1 : eAt (k :: ks) 0 = k := by simp [eAt]
    have e2 : eAt (k :: ks) (j + 1) = eAt ks j := by simp [eAt]
    rw [e1, e2, nEs]; omega
theorem ownLit1 (w : World) (x : Int) : Own (w.alloc (.cells #[.int .i64 x] 3)) (fun k => k = w.heap.size) (encInts [x]) (.slice (some ⟨w.heap.size, 0, none⟩) 1 1) := by
  refine OwnInts.toOwn ⟨rfl, fun _ => ⟨w.heap.size, _, _, rfl, rfl, Nat.le_refl _, rowOf w #[.int .i64 x] 3, fun i hi => ?_⟩⟩ (Nat.le_refl _) (by omega)
  obtain rfl : i = 0 := by omega
  rfl

/-- A step of a region that stands alone. -/
theorem wp_of_step {P : Program} {ops : Array Oper} {o : Oper} {a : Act} {w : World} {K : Act → World → Prop} {Q : Exit → Act → World → Prop} (hgd : o.guard = none) (h : if Region.wanted o (yielded ops a.tmps) = true then Oper.wp P o a w K Q else True) : Oper.wp P o a w K Q := by
  have hw : Region.wanted o (yielded ops a.tmps) = true := by simp [Region.wanted, hgd]
  rwa [if_pos hw] at h

/-- append of one block. -/
theorem step_addB {ops : Array Oper} {o : Oper} {a : Act} {w : World} {K : Act → World → Prop} {Q : Exit → Act → World → Prop} {E : Prop} (hgd : o.guard = none) (s x : Operand)
    (ho : o.op = .call { callee := .builtin .append, args := #[s, x], argTypes := #[134, 134] })
    (base : Nat) (v : Value) (rows : List (List Dat)) (hs : a.eval s = v) {D0 : Nat → Prop} (hacc : Acc w base D0 69 2 v rows)
    (g c : Nat) (ss : List StepL) (r : Int) (A : Value) (ES : Nat → Prop) (hx : a.eval x = .slice (some ⟨g, 0, none⟩) 1 c) (hcells : ∀ j u, [A, .int .i64 r][j]? = some u → w.cell? ⟨g, j, none⟩ = some u)
    (hA : Own w ES (encSteps ss) A) (hE : ∀ k, ES k → ¬ D0 k ∧ v.ownBlock ≠ some k) (hlen : rows.length ≤ 100000) (hbase : base ≤ w.heap.size)
    (h : ∀ a' n' c' w', Acc w' base (fun k => D0 k ∨ ES k ∧ k < w.heap.size) 69 2 (.slice a' n' c') (rows ++ [rowB (.mk ss r)]) → Ext (fun k => v.ownBlock = some k) w w' → w.heap.size ≤ w'.heap.size → (∀ k, (Value.slice a' n' c').ownBlock = some k → v.ownBlock = some k ∨ w.heap.size ≤ k) → K (a.put o.dst (.slice a' n' c')) w') :
    if Region.wanted o (yielded ops a.tmps) = true then Oper.wp Tryz.prog o a w K Q else E := by
  obtain ⟨xs, E', h1, _⟩ := id hacc
  have o1 : A.oneCell' = true := hA.read.one
  refine step_app hgd s x 134 ho base 69 (.agg #[.slice none 0 0, .int .i64 0]) 2 32 Tryz.underlying134 (by kernel_rfl) rfl (by omega) v rows.length xs hs h1 (some ⟨g, 0, none⟩) 1 c [A, .int .i64 r] hx ⟨rfl, fun _ => ⟨g, 0, rfl, fun j u hj => by rw [Nat.zero_add]; exact hcells j u hj⟩⟩
    (by intro u hu; simp at hu; rcases hu with rfl | rfl <;> first | rfl | assumption) (by omega) (by omega) hbase (fun v' w' q1 q2 q3 => ?_)
  have hfin : Acc w' base (fun k => D0 k ∨ ES k ∧ k < w.heap.size) 69 2 v' (rows ++ [rowB (.mk ss r)]) := ?_
  · obtain ⟨a', c', rfl, _, _⟩ := hfin.own (by omega) (by simp; omega)
    exact h _ _ _ w' hfin ⟨q2.os, q2.tape, q2.output, q2.size, fun k hk hn => q2.block k hk (fun e => hn e.symm)⟩ q2.size (fun k hk => by
      rcases q3 with e | e
      · rw [e] at hk; exact .inl hk
      · rw [e] at hk; injection hk with hk; exact .inr (by omega))
  refine hacc.push (r := rowB (.mk ss r)) (news := [A, .int .i64 r]) (D2 := fun j k => (j = 0 ∧ ES k) ∧ k < w.heap.size) rfl rfl (fun j u hj => ?_) (fun j k hj hk => ⟨.inr ⟨hk.1.2, hk.2⟩, (hE k hk.1.2).1, (hE k hk.1.2).2, hk.2⟩) (fun j j' k _ _ h1 h2 => h1.1.1.trans h2.1.1.symm) (fun k hk => .inl hk) (fun xs' hxs' => ?_) q2 q3
  · rcases (show j = 0 ∨ j = 1 by have := (List.getElem?_eq_some_iff.1 hj).1; simp at this; omega) with rfl | rfl
    · simp at hj; subst hj; exact hA.lt.mono (fun k hk => ⟨⟨rfl, hk.1⟩, hk.2⟩)
    · simp at hj; subst hj; exact .num _ r
  · rw [ownsRow_same h1 hxs']
    exact q1

/-- What lowerBlock does for one expression. -/
def LwB (ds : List DeclL) (sg : List SigL) (e : ExprL) : Prop := ∀ (vars env : List Int) (n : Nat) (N : Int) (a0 : Option Addr) (n0 c0 : Nat) (a1 : Option Addr) (n1 c1 : Nat) (av : Option Addr) (nv cv : Nat) (a : Option Addr) (m c : Nat) (w : World),
  N = (n : Int) → Rd w (fun _ => True) (encDecls ds) (.slice a0 n0 c0) → Rd w (fun _ => True) (encInts env) (.slice av nv cv) → Rd w (fun _ => True) (encExprs e.kids) (.slice a m c) →
  0 ≤ tyE ds sg vars e → vars.length = env.length → env.length + 4 * nE e ≤ 4000 → n + 4 * nE e ≤ 4000 →
  Calls Tryz.prog 100 #[.agg #[.slice a0 n0 c0, .slice a1 n1 c1], .agg #[.int .i64 e.op, .int .i64 e.num, .slice a m c], .slice av nv cv, .int .i64 N] w fun r w' =>
    ∃ a' n' c', r = .returned (.agg #[.slice a' n' c', .int .i64 (lowE ds e env n).2]) ∧ Own w' (fun k => w.heap.size ≤ k) (encSteps (lowE ds e env n).1) (.slice a' n' c') ∧ Keep w w'

set_option maxRecDepth 100000 in
set_option maxHeartbeats 2000000 in
theorem specLowerBlock_of (ds : List DeclL) (sg : List SigL) (e : ExprL) (IH0 : LwS ds sg e) : LwB ds sg e := by
  intro vars env n N a0 n0 c0 a1 n1 c1 av nv cv a m c w hN r0 rv re hty hlen hB1 hB2
  refine calls_k fun Q hQ => ?_
  have IH := Lib.hid IH0
  obtain ⟨op, hop⟩ : ∃ o, e.op = o := ⟨_, rfl⟩
  obtain ⟨num, hnum⟩ : ∃ o, e.num = o := ⟨_, rfl⟩
  have HO := Lib.hid hop
  have HU := Lib.hid hnum
  rw [hop, hnum]
  have HN := Lib.hid hN
  have KA := ((Keep.al w (.cells #[.slice a0 n0 c0, .slice a1 n1 c1] 44)).trans (Keep.al _ (.cells #[.int .i64 op, .int .i64 num, .slice a m c] 58))).trans (Keep.al _ (.cells #[.slice none 0 0, .int .i64 0] 69))
  have RZ := rowOf ((w.alloc (.cells #[.slice a0 n0 c0, .slice a1 n1 c1] 44)).alloc (.cells #[.int .i64 op, .int .i64 num, .slice a m c] 58)) #[.slice none 0 0, .int .i64 0] 69
  simp only [World.size_alloc] at RZ
  have sA : (((w.alloc (.cells #[.slice a0 n0 c0, .slice a1 n1 c1] 44)).alloc (.cells #[.int .i64 op, .int .i64 num, .slice a m c] 58)).alloc (.cells #[.slice none 0 0, .int .i64 0] 69)).heap.size = w.heap.size + 3 := by simp
  have LA : Hid (LowSt (((((w.alloc (.cells #[.slice a0 n0 c0, .slice a1 n1 c1] 44)).alloc (.cells #[.int .i64 op, .int .i64 num, .slice a m c] 58)).alloc (.cells #[.slice none 0 0, .int .i64 0] 69)).alloc (.cells #[] 136)).alloc (.cells #[.slice (some ⟨w.heap.size + 3, 0, none⟩) 0 0, .int .i64 N] 196)) (w.heap.size + 3) (w.heap.size + 4) 196 #[.slice (some ⟨w.heap.size + 3, 0, none⟩) 0 0, .int .i64 N] (fun _ => False) (.slice (some ⟨w.heap.size + 3, 0, none⟩) 0 0) []) := by
    have h := rowOf ((((w.alloc (.cells #[.slice a0 n0 c0, .slice a1 n1 c1] 44)).alloc (.cells #[.int .i64 op, .int .i64 num, .slice a m c] 58)).alloc (.cells #[.slice none 0 0, .int .i64 0] 69)).alloc (.cells #[] 136)) #[.slice (some ⟨w.heap.size + 3, 0, none⟩) 0 0, .int .i64 N] 196
    have h2 := (Acc.made (((w.alloc (.cells #[.slice a0 n0 c0, .slice a1 n1 c1] 44)).alloc (.cells #[.int .i64 op, .int .i64 num, .slice a m c] 58)).alloc (.cells #[.slice none 0 0, .int .i64 0] 69)) (fun _ => False) 136 5).keep (Keep.al _ (.cells #[.slice (some ⟨w.heap.size + 3, 0, none⟩) 0 0, .int .i64 N] 196))
    simp only [World.size_alloc] at h h2
    exact ⟨h, h2, fun h => h, fun k hk => by have : w.heap.size + 3 = k := (by simpa [Value.ownBlock] using hk); omega, fun _ h => h.elim, by simp only [World.size_alloc]; omega⟩
  have KB := (KA.trans (Keep.al _ (.cells #[] 136))).trans (Keep.al _ (.cells #[.slice (some ⟨w.heap.size + 3, 0, none⟩) 0 0, .int .i64 N] 196))
  have RB := Lib.hid ((RZ.alloc (.cells #[] 136)).alloc (.cells #[.slice (some ⟨w.heap.size + 3, 0, none⟩) 0 0, .int .i64 N] 196))
  have qd := Lib.hid ((r0.lt.mono (D' := fun k => k < w.heap.size) (fun k h => h.2)).k KB)
  have qv := Lib.hid ((rv.lt.mono (D' := fun k => k < w.heap.size) (fun k h => h.2)).k KB)
  have qk := Lib.hid ((re.lt.mono (D' := fun k => k < w.heap.size) (fun k h => h.2)).k KB)
  have KB' := Lib.hid KB
  obtain ⟨s, hs⟩ : ∃ s, (lowE ds e env n).1 = s := ⟨_, rfl⟩
  obtain ⟨y, hy⟩ : ∃ s, (lowE ds e env n).2 = s := ⟨_, rfl⟩
  have hsl : s.length ≤ nE e := by rw [← hs]; exact lowE_len ds _ _ _
  rw [hs, hy] at hQ
  have HS := Lib.hid hs
  have HY := Lib.hid hy
  clear KB KA RZ hs hy hN r0 rv re IH0 hop hnum sA
  go_enter Tryz.func100, Tryz.ntmps100
  go_wp2_with fail
  have hc := IH.out vars env n N (w.heap.size + 4) (w.heap.size + 3) (fun _ => False) (fun k => k < w.heap.size) (.slice (some ⟨w.heap.size + 3, 0, none⟩) 0 0) [] a0 n0 c0 a1 n1 c1 av nv cv a m c _ LA.out HN.out qd.out qv.out qk.out (fun k hk => ⟨by omega, fun e => by have : w.heap.size + 3 = k := (by simpa [Value.ownBlock] using e); omega⟩) hty hlen hB1 hB2 (by simp; omega)
  rw [HO.out, HU.out, HS.out, HY.out] at hc
  refine hc.mono ?_
  rintro e w1 ⟨v1, D1, rfl, L1, T1⟩
  clear hc
  obtain ⟨a1', c1', rfl, hc1, ho1⟩ := L1.acc.own (by omega) (by rw [List.nil_append, rowsS_map, List.length_map]; omega)
  rw [List.nil_append] at ho1 hc1
  have hl : (rowsS s).length = s.length := by rw [rowsS_map, List.length_map]
  have z0 := L1.row.cell (i := 0) (by simp)
  have hT : ∀ k, (k = w.heap.size + 4 ∨ (Value.slice (some ⟨w.heap.size + 3, 0, none⟩) 0 0).ownBlock = some k) → w.heap.size + 3 ≤ k := by
    intro k hk
    rcases hk with rfl | hk
    · omega
    · have : w.heap.size + 3 = k := by simpa [Value.ownBlock] using hk
      omega
  have RZ2 := row_ext RB.out T1.ext (fun h => by have := hT _ h; omega)
  have b0 := RZ2.cell (i := 0) (by simp)
  have b1 := RZ2.cell (i := 1) (by simp)
  have f0 := RZ2.frozen 0
  have f1 := RZ2.frozen 1
  have hD1 : ∀ k, (D1 k ∨ w.heap.size + 3 ≤ k) → w.heap.size + 3 ≤ k := by
    intro k hk
    rcases hk with hk | hk
    · rcases T1.sub k hk with h | h
      · exact h.elim
      · simp at h; omega
    · exact hk
  have KF := (KB'.out.then_ T1.ext (fun i hi h => by have := hT _ h; omega)).then_ (((Ext.refl (fun k => k = w.heap.size + 2) w1).setCell (p := ⟨w.heap.size + 2, 0, none⟩) (.inr rfl) (.slice a1' ((([] : List (List Dat)) ++ rowsS s).length) c1')).setCell (p := ⟨w.heap.size + 2, 1, none⟩) (.inr rfl) (.int .i64 y)) (fun i hi h => by omega)
  have OF := (ho1.ext (((Ext.refl (fun k => k = w.heap.size + 2) w1).setCell (p := ⟨w.heap.size + 2, 0, none⟩) (.inr rfl) (.slice a1' ((([] : List (List Dat)) ++ rowsS s).length) c1')).setCell (p := ⟨w.heap.size + 2, 1, none⟩) (.inr rfl) (.int .i64 y)) (fun k hk e => by have := hD1 k hk; omega)).mono (D' := fun k => w.heap.size ≤ k) (fun k hk => by have := hD1 k hk; omega)
  rw [List.nil_append, hl] at *
  simp at z0 b0 b1
  have OF' := Lib.hid OF
  have KF' := Lib.hid KF
  clear L1 T1 RZ2 OF KF ho1 hT hD1
  go_wp2_with fail
  exact bodyPost_ret (v := .agg #[.slice a1' s.length c1', .int .i64 y]) (by simp [results, Tryz.results100, go_sem, b0, b1]) rfl (fin_ hQ ⟨a1', s.length, c1', rfl, OF'.out, KF'.out⟩)
end Go.Proofs.YtkapldpmjkdmcaaGreat
/- The program's types of expressions: helpers. -/
namespace Go.Proofs.YtkapldpmjkdmcaaGreat
open Go.RowKit

theorem equalInts (a : Option Addr) (n c : Nat) (xs : List Int) (D : Nat → Prop) (a' : Option Addr) (n' c' : Nat) (ys : List Int) (D' : Nat → Prop) (w : World) (h : IntsL w D a n xs) (h' : IntsL w D' a' n' ys) (hn : n ≤ 4000000) (hn' : n' ≤ 4000000) :
    Calls Tryz.prog 203 #[.slice a n c, .slice a' n' c'] w fun e w' => e = .returned (.bool (decide (xs = ys))) ∧ Keep w w' := by
  have h1 := h.1
  have h2 := h'.1
  by_cases he : n = n'
  · rcases Nat.eq_zero_or_pos n with h0 | h0
    · subst he
      subst h0
      refine (Tryz.slices_Equal_int_empty a a' c 0 c' w (by omega)).mono ?_
      rintro e w' ⟨rfl, rfl⟩
      have e1 : xs = [] := List.eq_nil_of_length_eq_zero h1
      have e2 : ys = [] := List.eq_nil_of_length_eq_zero h2
      exact ⟨by simp [e1, e2], Ext.refl _ _⟩
    · obtain ⟨b1, o1, rfl, _, hc1⟩ := h.2 h0
      obtain ⟨b2, o2, rfl, _, hc2⟩ := h'.2 (by omega)
      refine (Tryz.slices_Equal_int b1 o1 n c b2 o2 n' c' xs ys w (by omega) (by omega) (by omega) (by omega) (fun j hj => hc1 j (by omega)) (fun j hj => hc2 j (by omega))).mono ?_
      rintro e w' ⟨rfl, q, rfl⟩
      refine ⟨?_, (Ext.refl _ w).drewN q⟩
      rw [List.take_of_length_le (by omega), List.take_of_length_le (by omega)]
      by_cases hxy : xs = ys <;> simp [hxy]
  · refine (Tryz.slices_Equal_int_lens a a' n c n' c' w he).mono ?_
    rintro e w' ⟨rfl, rfl⟩
    exact ⟨by rw [decide_eq_false (fun h => he (by rw [← h1, ← h2, h]))], Ext.refl _ _⟩

set_option maxHeartbeats 4000000 in
theorem implArrowAt (a : Option Addr) (n c : Nat) (ds : List DeclL) (D : Nat → Prop) (t : Int) (w : World) (h : DeclsR w D a n ds) (hn : n ≤ 1049576) :
    Calls Tryz.prog 189 #[.slice a n c, .int .i64 t] w fun e w' => ∃ f g a3 n3 c3, e = .returned (.tuple #[.agg #[.int .i64 f, .int .i64 g, .slice a3 n3 c3], .bool (isArr ds t)]) ∧ (isArr ds t = true → f = (dAt ds (t.toNat - 1)).from_ ∧ g = (dAt ds (t.toNat - 1)).to_) ∧ Keep w w' := by
  refine calls_k fun Q hQ => ?_
  have K0 := Keep.al w (.cells #[.int .i64 0, .int .i64 0, .slice none 0 0] 125)
  have HL := Lib.hid h.1
  by_cases ht1 : t < 1
  · have V : Hid (isArr ds t = false) := by show _ = _; rw [isArr, decide_eq_false (by omega)]; rfl
    go_enter Tryz.func189, Tryz.ntmps189
    go_wp2_with fail
    refine bodyPost_ret (v := .tuple #[.agg #[.int .i64 0, .int .i64 0, .slice none 0 0], .bool false]) (by simp [results, Tryz.results189, go_sem]) rfl (fin_ hQ ⟨0, 0, none, 0, 0, by rw [V.out], (fun h => by rw [V.out] at h; cases h), ?_⟩)
    exact Keep.al w _
  by_cases ht2 : (n : Int) < t
  · have V : Hid (isArr ds t = false) := by show _ = _; rw [isArr, decide_eq_false (by have := HL.out; omega)]; rfl
    go_enter Tryz.func189, Tryz.ntmps189
    go_wp2_with fail
    refine bodyPost_ret (v := .tuple #[.agg #[.int .i64 0, .int .i64 0, .slice none 0 0], .bool false]) (by simp [results, Tryz.results189, go_sem]) rfl (fin_ hQ ⟨0, 0, none, 0, 0, by rw [V.out], (fun h => by rw [V.out] at h; cases h), ?_⟩)
    exact Keep.al w _
  obtain ⟨k, rfl⟩ : ∃ k : Nat, t = (k : Int) + 1 := ⟨(t - 1).toNat, by omega⟩
  have hk : k < n := by omega
  obtain ⟨b, o, rfl, _, hc⟩ := h.2 (by omega)
  obtain ⟨d0, d1, a', m, c', d2, _, hcons⟩ := hc k hk
  have HK : Hid (((k : Int) + 1).toNat - 1 = k) := by show _ = _; omega
  have V0 : Hid (isArr ds ((k : Int) + 1) = decide (m = 0)) := by
    show _ = _
    rw [isArr, decide_eq_true (by have := HL.out; omega), Bool.true_and, HK.out, hcons.1]
  have g0 := (K0.cell (World.block_lt_of_cell? w _ d0) (fun h => h)).trans d0
  have g1 := (K0.cell (World.block_lt_of_cell? w _ d1) (fun h => h)).trans d1
  have g2 := (K0.cell (World.block_lt_of_cell? w _ d2) (fun h => h)).trans d2
  clear hc hcons d0 d1 d2 ht1 ht2
  rcases Nat.eq_zero_or_pos m with h0 | h0
  · subst h0
    go_enter Tryz.func189, Tryz.ntmps189
    go_wp2_with fail
    refine bodyPost_ret (v := .tuple #[.agg #[.int .i64 (dAt ds k).from_, .int .i64 (dAt ds k).to_, .slice a' 0 c'], .bool true]) (by simp [results, Tryz.results189, go_sem]) rfl (fin_ hQ ⟨_, _, a', 0, c', by rw [V0.out]; rfl, fun _ => by rw [HK.out]; exact ⟨rfl, rfl⟩, ?_⟩)
    exact Keep.al w _
  · have V : Hid (isArr ds ((k : Int) + 1) = false) := V0.out.trans (decide_eq_false (by omega))
    go_enter Tryz.func189, Tryz.ntmps189
    go_wp2_with fail
    refine bodyPost_ret (v := .tuple #[.agg #[.int .i64 0, .int .i64 0, .slice none 0 0], .bool false]) (by simp [results, Tryz.results189, go_sem]) rfl (fin_ hQ ⟨0, 0, none, 0, 0, by rw [V.out], (fun h => by rw [V.out] at h; cases h), ?_⟩)
    exact Keep.al w _

theorem implFieldsOf (a : Option Addr) (n c : Nat) (ds : List DeclL) (D : Nat → Prop) (x : Int) (w : World) (h : DeclsR w D a n ds) (hf : Few ds) (hx1 : -9223372036854775808 ≤ x) (hx2 : x ≤ 9223372036854775807) :
    Calls Tryz.prog 107 #[.slice a n c, .int .i64 x] w fun e w' => ∃ a' m c', e = .returned (.slice a' m c') ∧ m ≤ c' ∧ IntsL w' (fun k => D k ∨ w.heap.size ≤ k) a' m (conFieldsL ds x) ∧ Keep w w' := by
  refine calls_k fun Q hQ => ?_
  go_enter Tryz.func107, Tryz.ntmps107
  go_wp2_with fail
  refine (implConAt _ _ _ ds _ _ _ h hf hx1 hx2).mono ?_
  rintro e w1 ⟨a', m, c', rfl, hmc, hi, p1⟩
  go_wp2_with fail
  exact fin_ hQ ⟨a', m, c', rfl, hmc, (hi.ext (p1.trans (Keep.al w1 _)) (fun _ _ h => h)).mono (fun k hk => .inl hk), p1.trans (Keep.al w1 _)⟩

/-- What simpleType returns. -/
def SimR (ds : List DeclL) (sg : List SigL) (op num : Int) (tys : List Int) (w : World) (e : Ending) (w' : World) : Prop :=
  ∃ t ok, e = .returned (.tuple #[.int .i64 t, .bool ok]) ∧ ok = decide (0 ≤ simpleL ds sg op num tys) ∧ (ok = true → t = simpleL ds sg op num tys) ∧ Keep w w'
/-- Declarations and signatures that can be read. -/
def SR (w : World) (D : Nat → Prop) (ds : List DeclL) (sg : List SigL) (a0 : Option Addr) (n0 c0 : Nat) (a1 : Option Addr) (n1 c1 : Nat) : Prop :=
  Rd w D (encDecls ds) (.slice a0 n0 c0) ∧ Rd w D (encSigs sg) (.slice a1 n1 c1)
theorem SR.ext {S D : Nat → Prop} {w w' : World} {ds : List DeclL} {sg : List SigL} {a0 : Option Addr} {n0 c0 : Nat} {a1 : Option Addr} {n1 c1 : Nat} (h : SR w D ds sg a0 n0 c0 a1 n1 c1) (k : Ext S w w') (hs : ∀ q, D q → ¬ S q) : SR w' D ds sg a0 n0 c0 a1 n1 c1 := ⟨h.1.ext k hs, h.2.ext k hs⟩
theorem SR.k {D : Nat → Prop} {w w' : World} {ds : List DeclL} {sg : List SigL} {a0 : Option Addr} {n0 c0 : Nat} {a1 : Option Addr} {n1 c1 : Nat} (h : SR w D ds sg a0 n0 c0 a1 n1 c1) (k : Keep w w') : SR w' D ds sg a0 n0 c0 a1 n1 c1 := h.ext k (fun _ _ h => h)
end Go.Proofs.YtkapldpmjkdmcaaGreat
/- The program's types of expressions: operations that neither bind nor choose. -/
namespace Go.Proofs.YtkapldpmjkdmcaaGreat
open Go.RowKit

theorem simR_neg {ds : List DeclL} {sg : List SigL} {op num : Int} {tys : List Int} {w w' : World} {t : Int} (h : simpleL ds sg op num tys = -1) (k : Keep w w') : SimR ds sg op num tys w (.returned (.tuple #[.int .i64 t, .bool false])) w' :=
  ⟨t, false, rfl, by rw [h]; rfl, (fun h => by cases h), k⟩
theorem simR_pos {ds : List DeclL} {sg : List SigL} {op num : Int} {tys : List Int} {w w' : World} {t : Int} (h : simpleL ds sg op num tys = t) (h0 : 0 ≤ t) (k : Keep w w') : SimR ds sg op num tys w (.returned (.tuple #[.int .i64 t, .bool true])) w' :=
  ⟨t, true, rfl, by rw [h]; exact (decide_eq_true h0).symm, fun _ => h.symm, k⟩

section
variable (ds : List DeclL) (sg : List SigL) (hok : sigsOk ds sg = true)
include hok

set_option maxRecDepth 100000 in
set_option maxHeartbeats 4000000 in
theorem implSim_0 (num : Int) (tys : List Int) (D : Nat → Prop) (a0 : Option Addr) (n0 c0 : Nat) (a1 : Option Addr) (n1 c1 : Nat) (a : Option Addr) (n c : Nat) (E : Nat → Prop) (w : World) (hp : SR w D ds sg a0 n0 c0 a1 n1 c1) (h : IntsL w E a n tys) (hn : n ≤ 1049576) :
    Calls Tryz.prog 162 #[.agg #[.slice a0 n0 c0, .slice a1 n1 c1], .int .i64 0, .int .i64 num, .slice a n c] w (SimR ds sg 0 num tys w) := by
  refine calls_k fun Q hQ => ?_
  have ht := (sigsOk_parts hok).1
  have hf := Few.of_ok ht
  have hn0 : n0 ≤ 4 := by have := (decls_at hp.1).1; have := typesOk_len ht; omega
  have K0 := Keep.al w (.cells #[.slice a0 n0 c0, .slice a1 n1 c1] 130)
  have R0 := rowOf w #[.slice a0 n0 c0, .slice a1 n1 c1] 130
  have HL := Lib.hid h.1
  have HOK := Lib.hid hok
  have HT := Lib.hid ht
  clear hok ht
  have V0 := Lib.hid (simple_0 ds sg num tys)
  by_cases h1 : -999 ≤ num
  case neg =>
    have V : Hid (simpleL ds sg 0 num tys = -1) := by show _ = _; rw [V0.out, if_neg (fun h => h1 h.2.1)]
    go_enter Tryz.func162, Tryz.ntmps162
    go_wp2_with fail
    exact fin_ hQ (simR_neg V.out (K0))
  by_cases h2 : num ≤ 999
  case neg =>
    have V : Hid (simpleL ds sg 0 num tys = -1) := by show _ = _; rw [V0.out, if_neg (fun h => h2 h.2.2)]
    go_enter Tryz.func162, Tryz.ntmps162
    go_wp2_with fail
    exact fin_ hQ (simR_neg V.out (K0))
  rcases Nat.eq_zero_or_pos n with h0 | h0
  · subst h0
    have V : Hid (simpleL ds sg 0 num tys = 0) := by show _ = _; rw [V0.out, if_pos ⟨List.eq_nil_of_length_eq_zero HL.out, h1, h2⟩]
    go_enter Tryz.func162, Tryz.ntmps162
    go_wp2_with fail
    exact fin_ hQ (simR_pos V.out (by omega) (K0))
  · have V : Hid (simpleL ds sg 0 num tys = -1) := by show _ = _; rw [V0.out, if_neg (fun h => by have h1 := HL.out; rw [h.1] at h1; simp at h1; omega)]
    have hz : ((n : Int) == 0) = false := by simp; omega
    go_enter Tryz.func162, Tryz.ntmps162
    go_wp2_with fail
    exact fin_ hQ (simR_neg V.out (K0))

set_option maxRecDepth 100000 in
set_option maxHeartbeats 4000000 in
theorem implSim_1 (num : Int) (tys : List Int) (D : Nat → Prop) (a0 : Option Addr) (n0 c0 : Nat) (a1 : Option Addr) (n1 c1 : Nat) (a : Option Addr) (n c : Nat) (E : Nat → Prop) (w : World) (hp : SR w D ds sg a0 n0 c0 a1 n1 c1) (h : IntsL w E a n tys) (hn : n ≤ 1049576) :
    Calls Tryz.prog 162 #[.agg #[.slice a0 n0 c0, .slice a1 n1 c1], .int .i64 1, .int .i64 num, .slice a n c] w (SimR ds sg 1 num tys w) := by
  refine calls_k fun Q hQ => ?_
  have ht := (sigsOk_parts hok).1
  have hf := Few.of_ok ht
  have hn0 : n0 ≤ 4 := by have := (decls_at hp.1).1; have := typesOk_len ht; omega
  have K0 := Keep.al w (.cells #[.slice a0 n0 c0, .slice a1 n1 c1] 130)
  have R0 := rowOf w #[.slice a0 n0 c0, .slice a1 n1 c1] 130
  have HL := Lib.hid h.1
  have HOK := Lib.hid hok
  have HT := Lib.hid ht
  clear hok ht
  have V0 := Lib.hid (simple_bin ds sg (op := 1) num tys (by omega))
  have K1 := K0.trans (Keep.al _ (.cells #[.int .i64 0, .int .i64 0] 3))
  by_cases hz : num = 0
  case neg =>
    have V : Hid (simpleL ds sg 1 num tys = -1) := by show _ = _; rw [V0.out, if_neg (fun h => hz h.1)]
    have hz' : (num == 0) = false := by simpa using hz
    clear hz
    go_enter Tryz.func162, Tryz.ntmps162
    go_wp2_with fail
    exact fin_ hQ (simR_neg V.out (K1))
  subst hz
  have il := Rd.toInts (lit_ints (w.alloc (.cells #[.slice a0 n0 c0, .slice a1 n1 c1] 130)) 0 3 [0, 0] #[.int .i64 0, .int .i64 0] 2 (Nat.zero_le _) rfl rfl (by omega)).t
  simp only [World.size_alloc] at il
  have h1 := h.ext K1 (fun _ _ h => h)
  cases hd : decide (tys = [0, 0])
  · have V : Hid (simpleL ds sg 1 0 tys = -1) := by show _ = _; rw [V0.out, if_neg (fun h => of_decide_eq_false hd h.2)]
    have HD := Lib.hid hd
    clear hd
    go_enter Tryz.func162, Tryz.ntmps162
    go_wp2_with fail
    refine (equalInts _ _ _ _ _ _ _ _ _ _ _ h1 il (by omega) (by omega)).mono ?_
    rw [HD.out]
    rintro e w1 ⟨rfl, p1⟩
    go_wp2_with fail
    exact fin_ hQ (simR_neg V.out (K1.trans p1))
  · have V : Hid (simpleL ds sg 1 0 tys = 0) := by show _ = _; rw [V0.out, if_pos ⟨rfl, of_decide_eq_true hd⟩]
    have HD := Lib.hid hd
    clear hd
    go_enter Tryz.func162, Tryz.ntmps162
    go_wp2_with fail
    refine (equalInts _ _ _ _ _ _ _ _ _ _ _ h1 il (by omega) (by omega)).mono ?_
    rw [HD.out]
    rintro e w1 ⟨rfl, p1⟩
    go_wp2_with fail
    exact fin_ hQ (simR_pos V.out (by omega) (K1.trans p1))

set_option maxRecDepth 100000 in
set_option maxHeartbeats 4000000 in
theorem implSim_2 (num : Int) (tys : List Int) (D : Nat → Prop) (a0 : Option Addr) (n0 c0 : Nat) (a1 : Option Addr) (n1 c1 : Nat) (a : Option Addr) (n c : Nat) (E : Nat → Prop) (w : World) (hp : SR w D ds sg a0 n0 c0 a1 n1 c1) (h : IntsL w E a n tys) (hn : n ≤ 1049576) :
    Calls Tryz.prog 162 #[.agg #[.slice a0 n0 c0, .slice a1 n1 c1], .int .i64 2, .int .i64 num, .slice a n c] w (SimR ds sg 2 num tys w) := by
  refine calls_k fun Q hQ => ?_
  have ht := (sigsOk_parts hok).1
  have hf := Few.of_ok ht
  have hn0 : n0 ≤ 4 := by have := (decls_at hp.1).1; have := typesOk_len ht; omega
  have K0 := Keep.al w (.cells #[.slice a0 n0 c0, .slice a1 n1 c1] 130)
  have R0 := rowOf w #[.slice a0 n0 c0, .slice a1 n1 c1] 130
  have HL := Lib.hid h.1
  have HOK := Lib.hid hok
  have HT := Lib.hid ht
  clear hok ht
  have V0 := Lib.hid (simple_bin ds sg (op := 2) num tys (by omega))
  have K1 := K0.trans (Keep.al _ (.cells #[.int .i64 0, .int .i64 0] 3))
  by_cases hz : num = 0
  case neg =>
    have V : Hid (simpleL ds sg 2 num tys = -1) := by show _ = _; rw [V0.out, if_neg (fun h => hz h.1)]
    have hz' : (num == 0) = false := by simpa using hz
    clear hz
    go_enter Tryz.func162, Tryz.ntmps162
    go_wp2_with fail
    exact fin_ hQ (simR_neg V.out (K1))
  subst hz
  have il := Rd.toInts (lit_ints (w.alloc (.cells #[.slice a0 n0 c0, .slice a1 n1 c1] 130)) 0 3 [0, 0] #[.int .i64 0, .int .i64 0] 2 (Nat.zero_le _) rfl rfl (by omega)).t
  simp only [World.size_alloc] at il
  have h1 := h.ext K1 (fun _ _ h => h)
  cases hd : decide (tys = [0, 0])
  · have V : Hid (simpleL ds sg 2 0 tys = -1) := by show _ = _; rw [V0.out, if_neg (fun h => of_decide_eq_false hd h.2)]
    have HD := Lib.hid hd
    clear hd
    go_enter Tryz.func162, Tryz.ntmps162
    go_wp2_with fail
    refine (equalInts _ _ _ _ _ _ _ _ _ _ _ h1 il (by omega) (by omega)).mono ?_
    rw [HD.out]
    rintro e w1 ⟨rfl, p1⟩
    go_wp2_with fail
    exact fin_ hQ (simR_neg V.out (K1.trans p1))
  · have V : Hid (simpleL ds sg 2 0 tys = 0) := by show _ = _; rw [V0.out, if_pos ⟨rfl, of_decide_eq_true hd⟩]
    have HD := Lib.hid hd
    clear hd
    go_enter Tryz.func162, Tryz.ntmps162
    go_wp2_with fail
    refine (equalInts _ _ _ _ _ _ _ _ _ _ _ h1 il (by omega) (by omega)).mono ?_
    rw [HD.out]
    rintro e w1 ⟨rfl, p1⟩
    go_wp2_with fail
    exact fin_ hQ (simR_pos V.out (by omega) (K1.trans p1))

set_option maxRecDepth 100000 in
set_option maxHeartbeats 4000000 in
theorem implSim_3 (num : Int) (tys : List Int) (D : Nat → Prop) (a0 : Option Addr) (n0 c0 : Nat) (a1 : Option Addr) (n1 c1 : Nat) (a : Option Addr) (n c : Nat) (E : Nat → Prop) (w : World) (hp : SR w D ds sg a0 n0 c0 a1 n1 c1) (h : IntsL w E a n tys) (hn : n ≤ 1049576) :
    Calls Tryz.prog 162 #[.agg #[.slice a0 n0 c0, .slice a1 n1 c1], .int .i64 3, .int .i64 num, .slice a n c] w (SimR ds sg 3 num tys w) := by
  refine calls_k fun Q hQ => ?_
  have ht := (sigsOk_parts hok).1
  have hf := Few.of_ok ht
  have hn0 : n0 ≤ 4 := by have := (decls_at hp.1).1; have := typesOk_len ht; omega
  have K0 := Keep.al w (.cells #[.slice a0 n0 c0, .slice a1 n1 c1] 130)
  have R0 := rowOf w #[.slice a0 n0 c0, .slice a1 n1 c1] 130
  have HL := Lib.hid h.1
  have HOK := Lib.hid hok
  have HT := Lib.hid ht
  clear hok ht
  have V0 := Lib.hid (simple_bin ds sg (op := 3) num tys (by omega))
  have K1 := K0.trans (Keep.al _ (.cells #[.int .i64 0, .int .i64 0] 3))
  by_cases hz : num = 0
  case neg =>
    have V : Hid (simpleL ds sg 3 num tys = -1) := by show _ = _; rw [V0.out, if_neg (fun h => hz h.1)]
    have hz' : (num == 0) = false := by simpa using hz
    clear hz
    go_enter Tryz.func162, Tryz.ntmps162
    go_wp2_with fail
    exact fin_ hQ (simR_neg V.out (K1))
  subst hz
  have il := Rd.toInts (lit_ints (w.alloc (.cells #[.slice a0 n0 c0, .slice a1 n1 c1] 130)) 0 3 [0, 0] #[.int .i64 0, .int .i64 0] 2 (Nat.zero_le _) rfl rfl (by omega)).t
  simp only [World.size_alloc] at il
  have h1 := h.ext K1 (fun _ _ h => h)
  cases hd : decide (tys = [0, 0])
  · have V : Hid (simpleL ds sg 3 0 tys = -1) := by show _ = _; rw [V0.out, if_neg (fun h => of_decide_eq_false hd h.2)]
    have HD := Lib.hid hd
    clear hd
    go_enter Tryz.func162, Tryz.ntmps162
    go_wp2_with fail
    refine (equalInts _ _ _ _ _ _ _ _ _ _ _ h1 il (by omega) (by omega)).mono ?_
    rw [HD.out]
    rintro e w1 ⟨rfl, p1⟩
    go_wp2_with fail
    exact fin_ hQ (simR_neg V.out (K1.trans p1))
  · have V : Hid (simpleL ds sg 3 0 tys = 0) := by show _ = _; rw [V0.out, if_pos ⟨rfl, of_decide_eq_true hd⟩]
    have HD := Lib.hid hd
    clear hd
    go_enter Tryz.func162, Tryz.ntmps162
    go_wp2_with fail
    refine (equalInts _ _ _ _ _ _ _ _ _ _ _ h1 il (by omega) (by omega)).mono ?_
    rw [HD.out]
    rintro e w1 ⟨rfl, p1⟩
    go_wp2_with fail
    exact fin_ hQ (simR_pos V.out (by omega) (K1.trans p1))

set_option maxRecDepth 100000 in
set_option maxHeartbeats 4000000 in
theorem implSim_4 (num : Int) (tys : List Int) (D : Nat → Prop) (a0 : Option Addr) (n0 c0 : Nat) (a1 : Option Addr) (n1 c1 : Nat) (a : Option Addr) (n c : Nat) (E : Nat → Prop) (w : World) (hp : SR w D ds sg a0 n0 c0 a1 n1 c1) (h : IntsL w E a n tys) (hn : n ≤ 1049576) :
    Calls Tryz.prog 162 #[.agg #[.slice a0 n0 c0, .slice a1 n1 c1], .int .i64 4, .int .i64 num, .slice a n c] w (SimR ds sg 4 num tys w) := by
  refine calls_k fun Q hQ => ?_
  have ht := (sigsOk_parts hok).1
  have hf := Few.of_ok ht
  have hn0 : n0 ≤ 4 := by have := (decls_at hp.1).1; have := typesOk_len ht; omega
  have K0 := Keep.al w (.cells #[.slice a0 n0 c0, .slice a1 n1 c1] 130)
  have R0 := rowOf w #[.slice a0 n0 c0, .slice a1 n1 c1] 130
  have HL := Lib.hid h.1
  have HOK := Lib.hid hok
  have HT := Lib.hid ht
  clear hok ht
  have V0 := Lib.hid (simple_bin ds sg (op := 4) num tys (by omega))
  have K1 := K0.trans (Keep.al _ (.cells #[.int .i64 0, .int .i64 0] 3))
  by_cases hz : num = 0
  case neg =>
    have V : Hid (simpleL ds sg 4 num tys = -1) := by show _ = _; rw [V0.out, if_neg (fun h => hz h.1)]
    have hz' : (num == 0) = false := by simpa using hz
    clear hz
    go_enter Tryz.func162, Tryz.ntmps162
    go_wp2_with fail
    exact fin_ hQ (simR_neg V.out (K1))
  subst hz
  have il := Rd.toInts (lit_ints (w.alloc (.cells #[.slice a0 n0 c0, .slice a1 n1 c1] 130)) 0 3 [0, 0] #[.int .i64 0, .int .i64 0] 2 (Nat.zero_le _) rfl rfl (by omega)).t
  simp only [World.size_alloc] at il
  have h1 := h.ext K1 (fun _ _ h => h)
  cases hd : decide (tys = [0, 0])
  · have V : Hid (simpleL ds sg 4 0 tys = -1) := by show _ = _; rw [V0.out, if_neg (fun h => of_decide_eq_false hd h.2)]
    have HD := Lib.hid hd
    clear hd
    go_enter Tryz.func162, Tryz.ntmps162
    go_wp2_with fail
    refine (equalInts _ _ _ _ _ _ _ _ _ _ _ h1 il (by omega) (by omega)).mono ?_
    rw [HD.out]
    rintro e w1 ⟨rfl, p1⟩
    go_wp2_with fail
    exact fin_ hQ (simR_neg V.out (K1.trans p1))
  · have V : Hid (simpleL ds sg 4 0 tys = 0) := by show _ = _; rw [V0.out, if_pos ⟨rfl, of_decide_eq_true hd⟩]
    have HD := Lib.hid hd
    clear hd
    go_enter Tryz.func162, Tryz.ntmps162
    go_wp2_with fail
    refine (equalInts _ _ _ _ _ _ _ _ _ _ _ h1 il (by omega) (by omega)).mono ?_
    rw [HD.out]
    rintro e w1 ⟨rfl, p1⟩
    go_wp2_with fail
    exact fin_ hQ (simR_pos V.out (by omega) (K1.trans p1))

set_option maxRecDepth 100000 in
set_option maxHeartbeats 4000000 in
theorem implSim_5 (num : Int) (tys : List Int) (D : Nat → Prop) (a0 : Option Addr) (n0 c0 : Nat) (a1 : Option Addr) (n1 c1 : Nat) (a : Option Addr) (n c : Nat) (E : Nat → Prop) (w : World) (hp : SR w D ds sg a0 n0 c0 a1 n1 c1) (h : IntsL w E a n tys) (hn : n ≤ 1049576) :
    Calls Tryz.prog 162 #[.agg #[.slice a0 n0 c0, .slice a1 n1 c1], .int .i64 5, .int .i64 num, .slice a n c] w (SimR ds sg 5 num tys w) := by
  refine calls_k fun Q hQ => ?_
  have ht := (sigsOk_parts hok).1
  have hf := Few.of_ok ht
  have hn0 : n0 ≤ 4 := by have := (decls_at hp.1).1; have := typesOk_len ht; omega
  have K0 := Keep.al w (.cells #[.slice a0 n0 c0, .slice a1 n1 c1] 130)
  have R0 := rowOf w #[.slice a0 n0 c0, .slice a1 n1 c1] 130
  have HL := Lib.hid h.1
  have HOK := Lib.hid hok
  have HT := Lib.hid ht
  clear hok ht
  have V0 := Lib.hid (simple_5 ds sg num tys)
  have K1 := K0.trans (Keep.al _ (.cells #[.int .i64 0] 3))
  by_cases hz : num = 0
  case neg =>
    have V : Hid (simpleL ds sg 5 num tys = -1) := by show _ = _; rw [V0.out, if_neg (fun h => hz h.1)]
    have hz' : (num == 0) = false := by simpa using hz
    clear hz
    go_enter Tryz.func162, Tryz.ntmps162
    go_wp2_with fail
    exact fin_ hQ (simR_neg V.out (K1))
  subst hz
  have il := Rd.toInts (lit_ints (w.alloc (.cells #[.slice a0 n0 c0, .slice a1 n1 c1] 130)) 0 3 [0] #[.int .i64 0] 1 (Nat.zero_le _) rfl rfl (by omega)).t
  simp only [World.size_alloc] at il
  have h1 := h.ext K1 (fun _ _ h => h)
  cases hd : decide (tys = [0])
  · have V : Hid (simpleL ds sg 5 0 tys = -1) := by show _ = _; rw [V0.out, if_neg (fun h => of_decide_eq_false hd h.2)]
    have HD := Lib.hid hd
    clear hd
    go_enter Tryz.func162, Tryz.ntmps162
    go_wp2_with fail
    refine (equalInts _ _ _ _ _ _ _ _ _ _ _ h1 il (by omega) (by omega)).mono ?_
    rw [HD.out]
    rintro e w1 ⟨rfl, p1⟩
    go_wp2_with fail
    exact fin_ hQ (simR_neg V.out (K1.trans p1))
  · have V : Hid (simpleL ds sg 5 0 tys = 0) := by show _ = _; rw [V0.out, if_pos ⟨rfl, of_decide_eq_true hd⟩]
    have HD := Lib.hid hd
    clear hd
    go_enter Tryz.func162, Tryz.ntmps162
    go_wp2_with fail
    refine (equalInts _ _ _ _ _ _ _ _ _ _ _ h1 il (by omega) (by omega)).mono ?_
    rw [HD.out]
    rintro e w1 ⟨rfl, p1⟩
    go_wp2_with fail
    exact fin_ hQ (simR_pos V.out (by omega) (K1.trans p1))

set_option maxRecDepth 100000 in
set_option maxHeartbeats 4000000 in
theorem implSim_6 (num : Int) (tys : List Int) (D : Nat → Prop) (a0 : Option Addr) (n0 c0 : Nat) (a1 : Option Addr) (n1 c1 : Nat) (a : Option Addr) (n c : Nat) (E : Nat → Prop) (w : World) (hp : SR w D ds sg a0 n0 c0 a1 n1 c1) (h : IntsL w E a n tys) (hn : n ≤ 1049576) (hx1 : -9223372036854775808 ≤ num) (hx2 : num ≤ 9223372036854775807) :
    Calls Tryz.prog 162 #[.agg #[.slice a0 n0 c0, .slice a1 n1 c1], .int .i64 6, .int .i64 num, .slice a n c] w (SimR ds sg 6 num tys w) := by
  refine calls_k fun Q hQ => ?_
  have ht := (sigsOk_parts hok).1
  have hf := Few.of_ok ht
  have hn0 : n0 ≤ 4 := by have := (decls_at hp.1).1; have := typesOk_len ht; omega
  have K0 := Keep.al w (.cells #[.slice a0 n0 c0, .slice a1 n1 c1] 130)
  have R0 := rowOf w #[.slice a0 n0 c0, .slice a1 n1 c1] 130
  have HL := Lib.hid h.1
  have HOK := Lib.hid hok
  have HT := Lib.hid ht
  clear hok ht
  have V0 := Lib.hid (simple_6 ds sg num tys)
  have hct := typeOr_range (n := ds.length) (p := inDecl ds num)
  change conTypeL ds num = -1 ∨ isT ds.length (conTypeL ds num) = true at hct
  have hfo := (conFieldsL_ok HT.out num).1
  have hne0 : conTypeL ds num ≠ 0 := by
    intro h
    rcases hcx : conIx ds num with _ | i
    · rw [conTypeL, hcx] at h; simp [typeOr] at h
    · rw [conTypeL, hcx] at h; simp only [typeOr] at h; omega
  obtain ⟨ct, hc⟩ : ∃ ct, conTypeL ds num = ct := ⟨_, rfl⟩
  rw [hc] at hct hne0
  have HC := Lib.hid hc
  have HR := Lib.hid hct
  clear hc hct
  have h1 := h.ext K0 (fun _ _ h => h)
  by_cases h0 : 0 ≤ ct
  case neg =>
    have V : Hid (simpleL ds sg 6 num tys = -1) := by show _ = _; rw [V0.out, HC.out, if_neg (fun h => by omega)]
    go_enter Tryz.func162, Tryz.ntmps162
    go_wp2_with fail
    refine (implConAt _ _ _ ds _ _ _ (Rd.toDecls (hp.k K0).1) hf hx1 hx2).mono ?_
    rw [HC.out]
    rintro e w1 ⟨a', m, c', rfl, hmc, hi, p1⟩
    go_wp2_with fail
    exact fin_ hQ (simR_neg V.out ((K0.trans p1).trans (Keep.al _ _)))
  have hpos : 0 < ct := by omega
  cases hd : decide (tys = conFieldsL ds num)
  · have V : Hid (simpleL ds sg 6 num tys = -1) := by show _ = _; rw [V0.out, HC.out, if_neg (fun h => of_decide_eq_false hd h.2)]
    have HD := Lib.hid hd
    clear hd
    go_enter Tryz.func162, Tryz.ntmps162
    go_wp2_with fail
    refine (implConAt _ _ _ ds _ _ _ (Rd.toDecls (hp.k K0).1) hf hx1 hx2).mono ?_
    rw [HC.out]
    rintro e w1 ⟨a', m, c', rfl, hmc, hi, p1⟩
    have K2 := Lib.hid ((K0.trans p1).trans (Keep.al w1 (.cells #[.slice a' m c'] 155)))
    have h2 := Lib.hid (h1.ext (p1.trans (Keep.al w1 (.cells #[.slice a' m c'] 155))) (fun _ _ h => h))
    have hi2 := Lib.hid (hi.ext (p1.trans (Keep.al w1 (.cells #[.slice a' m c'] 155))) (fun _ _ h => h))
    have hml : m ≤ 3 := by have := hi.1; omega
    clear hi p1
    go_wp2_with fail
    refine (equalInts _ _ _ _ _ _ _ _ _ _ _ h2.out hi2.out (by omega) (by omega)).mono ?_
    rw [HD.out]
    rintro e w2 ⟨rfl, p2⟩
    go_wp2_with fail
    exact fin_ hQ (simR_neg V.out (K2.out.trans p2))
  · have V : Hid (simpleL ds sg 6 num tys = ct) := by show _ = _; rw [V0.out, HC.out, if_pos ⟨hpos, of_decide_eq_true hd⟩]
    have HD := Lib.hid hd
    clear hd
    go_enter Tryz.func162, Tryz.ntmps162
    go_wp2_with fail
    refine (implConAt _ _ _ ds _ _ _ (Rd.toDecls (hp.k K0).1) hf hx1 hx2).mono ?_
    rw [HC.out]
    rintro e w1 ⟨a', m, c', rfl, hmc, hi, p1⟩
    have K2 := Lib.hid ((K0.trans p1).trans (Keep.al w1 (.cells #[.slice a' m c'] 155)))
    have h2 := Lib.hid (h1.ext (p1.trans (Keep.al w1 (.cells #[.slice a' m c'] 155))) (fun _ _ h => h))
    have hi2 := Lib.hid (hi.ext (p1.trans (Keep.al w1 (.cells #[.slice a' m c'] 155))) (fun _ _ h => h))
    have hml : m ≤ 3 := by have := hi.1; omega
    clear hi p1
    go_wp2_with fail
    refine (equalInts _ _ _ _ _ _ _ _ _ _ _ h2.out hi2.out (by omega) (by omega)).mono ?_
    rw [HD.out]
    rintro e w2 ⟨rfl, p2⟩
    go_wp2_with fail
    exact fin_ hQ (simR_pos V.out h0 (K2.out.trans p2))

set_option maxRecDepth 100000 in
set_option maxHeartbeats 4000000 in
theorem implSim_other (op : Int) (hop : op < 0 ∨ 13 < op ∨ op = 7 ∨ op = 8 ∨ op = 12 ∨ op = 13) (num : Int) (tys : List Int) (D : Nat → Prop) (a0 : Option Addr) (n0 c0 : Nat) (a1 : Option Addr) (n1 c1 : Nat) (a : Option Addr) (n c : Nat) (E : Nat → Prop) (w : World) (hp : SR w D ds sg a0 n0 c0 a1 n1 c1) (h : IntsL w E a n tys) (hn : n ≤ 1049576) :
    Calls Tryz.prog 162 #[.agg #[.slice a0 n0 c0, .slice a1 n1 c1], .int .i64 op, .int .i64 num, .slice a n c] w (SimR ds sg op num tys w) := by
  refine calls_k fun Q hQ => ?_
  have ht := (sigsOk_parts hok).1
  have hf := Few.of_ok ht
  have hn0 : n0 ≤ 4 := by have := (decls_at hp.1).1; have := typesOk_len ht; omega
  have K0 := Keep.al w (.cells #[.slice a0 n0 c0, .slice a1 n1 c1] 130)
  have R0 := rowOf w #[.slice a0 n0 c0, .slice a1 n1 c1] 130
  have HL := Lib.hid h.1
  have HOK := Lib.hid hok
  have HT := Lib.hid ht
  clear hok ht
  have V : Hid (simpleL ds sg op num tys = -1) := by
    show _ = _
    rw [simpleL, if_neg (by omega), if_neg (by omega), if_neg (by omega), if_neg (by omega), if_neg (by omega), if_neg (by omega), if_neg (by omega)]
  have o0 : (op == 0) = false := by simp; omega
  have o1 : (op == 1) = false := by simp; omega
  have o2 : (op == 2) = false := by simp; omega
  have o3 : (op == 3) = false := by simp; omega
  have o4 : (op == 4) = false := by simp; omega
  have o5 : (op == 5) = false := by simp; omega
  have o6 : (op == 6) = false := by simp; omega
  have o9 : (op == 9) = false := by simp; omega
  have o10 : (op == 10) = false := by simp; omega
  have o11 : (op == 11) = false := by simp; omega
  clear hop
  have := hn
  go_enter Tryz.func162, Tryz.ntmps162
  go_wp2_with fail
  exact fin_ hQ (simR_neg V.out (K0))

set_option maxRecDepth 100000 in
set_option maxHeartbeats 4000000 in
theorem implSim_9 (num : Int) (tys : List Int) (D : Nat → Prop) (a0 : Option Addr) (n0 c0 : Nat) (a1 : Option Addr) (n1 c1 : Nat) (a : Option Addr) (n c : Nat) (E : Nat → Prop) (w : World) (hp : SR w D ds sg a0 n0 c0 a1 n1 c1) (h : IntsL w E a n tys) (hn : n ≤ 1049576) :
    Calls Tryz.prog 162 #[.agg #[.slice a0 n0 c0, .slice a1 n1 c1], .int .i64 9, .int .i64 num, .slice a n c] w (SimR ds sg 9 num tys w) := by
  refine calls_k fun Q hQ => ?_
  have ht := (sigsOk_parts hok).1
  have hf := Few.of_ok ht
  have hn0 : n0 ≤ 4 := by have := (decls_at hp.1).1; have := typesOk_len ht; omega
  have K0 := Keep.al w (.cells #[.slice a0 n0 c0, .slice a1 n1 c1] 130)
  have R0 := rowOf w #[.slice a0 n0 c0, .slice a1 n1 c1] 130
  have HL := Lib.hid h.1
  have HOK := Lib.hid hok
  have HT := Lib.hid ht
  clear hok ht
  obtain ⟨e1, hf1, hf2, hat⟩ := sigs_at hp.2
  have HN := Lib.hid e1
  have hn1 : n1 ≤ 4 := by have := (sigsOk_parts HOK.out).2.2.1; omega
  have h1 := h.ext K0 (fun _ _ h => h)
  by_cases hr : 0 ≤ num ∧ num < (n1 : Int)
  case neg =>
    have V := Lib.hid (simpleL_range (ds := ds) (sg := sg) (op := 9) (num := num) (tys := tys) (by omega) (by rw [HN.out]; exact hr))
    by_cases h2 : num < 0
    · clear hr
      go_enter Tryz.func162, Tryz.ntmps162
      go_wp2_with fail
      exact fin_ hQ (simR_neg V.out (K0))
    · have h3 : (n1 : Int) ≤ num := by omega
      clear hr
      go_enter Tryz.func162, Tryz.ntmps162
      go_wp2_with fail
      exact fin_ hQ (simR_neg V.out (K0))
  obtain ⟨k, rfl⟩ : ∃ k : Nat, num = (k : Int) := ⟨num.toNat, by omega⟩
  have hk : k < n1 := by omega
  have HKS : Hid (k < sg.length) := by have := HN.out; show _ < _; omega
  have HSO := Lib.hid (sigOk_parts ((sigsOk_parts HOK.out).2.2.2 k HKS.out))
  obtain ⟨b, o, rfl, _, ap, np, cp, al, nl, cl, d0, d1, d2, r0, r1⟩ := hat k hk
  obtain ⟨s, hs⟩ : ∃ s, sgAt sg k = s := ⟨_, rfl⟩
  rw [hs] at d2 r0 r1 HSO
  have HS := Lib.hid hs
  have g0 := (K0.cell (World.block_lt_of_cell? w _ d0) (fun h => h)).trans d0
  have g1 := (K0.cell (World.block_lt_of_cell? w _ d1) (fun h => h)).trans d1
  have g2 := (K0.cell (World.block_lt_of_cell? w _ d2) (fun h => h)).trans d2
  have HPL := Lib.hid (ints_at r0).1
  have hpl : np ≤ 3 := by have := HPL.out; have := HSO.out.1; omega
  have RR := Lib.hid (isT_iff.1 HSO.out.2.2.1)
  have qt := (Rd.toInts r0).ext K0 (fun _ _ h => h)
  clear d0 d1 d2 hs hr hat e1 r1
  have V0 := Lib.hid (simpleL_call (ds := ds) (sg := sg) (k := k) (tys := tys) HKS.out)
  rw [HS.out] at V0
  cases hd : decide (tys = s.params)
  · have V : Hid (simpleL ds sg 9 (k : Int) tys = -1) := by show _ = _; rw [V0.out, if_neg (of_decide_eq_false hd)]
    have HD := Lib.hid hd
    clear hd
    go_enter Tryz.func162, Tryz.ntmps162
    go_wp2_with fail
    go_quiet (fail)
    go_wp2_with fail
    refine (equalInts _ _ _ _ _ _ _ _ _ _ _ (h1.drewN _) (qt.drewN _) (by omega) (by omega)).mono ?_
    rw [HD.out]
    rintro e w1 ⟨rfl, p1⟩
    go_wp2_with fail
    exact fin_ hQ (simR_neg V.out ((K0.drewN _).trans p1))
  · have V : Hid (simpleL ds sg 9 (k : Int) tys = s.result) := by show _ = _; rw [V0.out, if_pos (of_decide_eq_true hd)]
    have HD := Lib.hid hd
    clear hd
    go_enter Tryz.func162, Tryz.ntmps162
    go_wp2_with fail
    go_quiet (fail)
    go_wp2_with fail
    refine (equalInts _ _ _ _ _ _ _ _ _ _ _ (h1.drewN _) (qt.drewN _) (by omega) (by omega)).mono ?_
    rw [HD.out]
    rintro e w1 ⟨rfl, p1⟩
    go_wp2_with fail
    exact fin_ hQ (simR_pos V.out RR.out.1 ((K0.drewN _).trans p1))

set_option maxRecDepth 100000 in
set_option maxHeartbeats 4000000 in
theorem implSim_10 (num : Int) (tys : List Int) (D : Nat → Prop) (a0 : Option Addr) (n0 c0 : Nat) (a1 : Option Addr) (n1 c1 : Nat) (a : Option Addr) (n c : Nat) (E : Nat → Prop) (w : World) (hp : SR w D ds sg a0 n0 c0 a1 n1 c1) (h : IntsL w E a n tys) (hn : n ≤ 1049576) :
    Calls Tryz.prog 162 #[.agg #[.slice a0 n0 c0, .slice a1 n1 c1], .int .i64 10, .int .i64 num, .slice a n c] w (SimR ds sg 10 num tys w) := by
  refine calls_k fun Q hQ => ?_
  have ht := (sigsOk_parts hok).1
  have hf := Few.of_ok ht
  have hn0 : n0 ≤ 4 := by have := (decls_at hp.1).1; have := typesOk_len ht; omega
  have K0 := Keep.al w (.cells #[.slice a0 n0 c0, .slice a1 n1 c1] 130)
  have R0 := rowOf w #[.slice a0 n0 c0, .slice a1 n1 c1] 130
  have HL := Lib.hid h.1
  have HOK := Lib.hid hok
  have HT := Lib.hid ht
  clear hok ht
  obtain ⟨e1, hf1, hf2, hat⟩ := sigs_at hp.2
  have HN := Lib.hid e1
  have hn1 : n1 ≤ 4 := by have := (sigsOk_parts HOK.out).2.2.1; omega
  have h1 := h.ext K0 (fun _ _ h => h)
  by_cases hr : 0 ≤ num ∧ num < (n1 : Int)
  case neg =>
    have V := Lib.hid (simpleL_range (ds := ds) (sg := sg) (op := 10) (num := num) (tys := tys) (by omega) (by rw [HN.out]; exact hr))
    by_cases h2 : num < 0
    · clear hr
      go_enter Tryz.func162, Tryz.ntmps162
      go_wp2_with fail
      exact fin_ hQ (simR_neg V.out (K0))
    · have h3 : (n1 : Int) ≤ num := by omega
      clear hr
      go_enter Tryz.func162, Tryz.ntmps162
      go_wp2_with fail
      exact fin_ hQ (simR_neg V.out (K0))
  obtain ⟨k, rfl⟩ : ∃ k : Nat, num = (k : Int) := ⟨num.toNat, by omega⟩
  have hk : k < n1 := by omega
  have HKS : Hid (k < sg.length) := by have := HN.out; show _ < _; omega
  have HSO := Lib.hid (sigOk_parts ((sigsOk_parts HOK.out).2.2.2 k HKS.out))
  obtain ⟨b, o, rfl, _, ap, np, cp, al, nl, cl, d0, d1, d2, r0, r1⟩ := hat k hk
  obtain ⟨s, hs⟩ : ∃ s, sgAt sg k = s := ⟨_, rfl⟩
  rw [hs] at d2 r0 r1 HSO
  have HS := Lib.hid hs
  have g0 := (K0.cell (World.block_lt_of_cell? w _ d0) (fun h => h)).trans d0
  have g1 := (K0.cell (World.block_lt_of_cell? w _ d1) (fun h => h)).trans d1
  have g2 := (K0.cell (World.block_lt_of_cell? w _ d2) (fun h => h)).trans d2
  have HPL := Lib.hid (ints_at r0).1
  have hpl : np ≤ 3 := by have := HPL.out; have := HSO.out.1; omega
  have RR := Lib.hid (isT_iff.1 HSO.out.2.2.1)
  have qt := (Rd.toInts r0).ext K0 (fun _ _ h => h)
  clear d0 d1 d2 hs hr hat e1 r1
  have V0 := Lib.hid (simpleL_close (ds := ds) (sg := sg) (k := k) (tys := tys) HKS.out)
  rw [HS.out] at V0
  rcases Nat.eq_zero_or_pos np with h0 | h0
  · subst h0
    have V : Hid (simpleL ds sg 10 (k : Int) tys = -1) := by show _ = _; rw [V0.out, if_neg (fun h => by have := HPL.out; omega)]
    go_enter Tryz.func162, Tryz.ntmps162
    go_wp2_with fail
    go_quiet (fail)
    go_wp2_with fail
    exact fin_ hQ (simR_neg V.out (K0.drewN _))
  obtain ⟨m, rfl⟩ : ∃ m, np = m + 1 := ⟨np - 1, by omega⟩
  obtain ⟨b2, o2, rfl, _, dm⟩ := (ints_at r0).2.2.2 m (by omega)
  have hcp : m + 1 ≤ cp := (ints_at r0).2.1
  have gm := (K0.cell (World.block_lt_of_cell? w _ dm) (fun h => h)).trans dm
  have qtk := qt.take (m := m) (by omega)
  have V1 : Hid (simpleL ds sg 10 (k : Int) tys = if tys = s.params.take m then arrowL ds (iAt s.params m) s.result else -1) := by
    show _ = _
    rw [V0.out, HPL.out]
    by_cases h : tys = s.params.take m
    · rw [if_pos ⟨by omega, h⟩, if_pos h]; rfl
    · rw [if_neg (fun h' => h h'.2), if_neg h]
  have hra := typeOr_range (n := ds.length) (p := isArrow ds (iAt s.params m) s.result)
  change arrowL ds _ _ = -1 ∨ isT ds.length (arrowL ds _ _) = true at hra
  obtain ⟨ar, har⟩ : ∃ ar, arrowL ds (iAt s.params m) s.result = ar := ⟨_, rfl⟩
  rw [har] at V1 hra
  have HAR := Lib.hid har
  have hra2 : ar = -1 ∨ 0 ≤ ar := by
    rcases hra with h | h
    · exact .inl h
    · exact .inr (isT_iff.1 h).1
  have HRA := Lib.hid hra2
  have hpk := Rd.toDecls (hp.k K0).1
  clear dm har hra hra2 V0
  have hw1 : IntKind.i64.wrap (m : Int) = (m : Int) := by rw [IntWalk.i64_in _ (by omega)]
  have hw2 : (0 : Int) ≤ (m : Int) := by omega
  have hw3 : (m : Int) < (m : Int) + 1 := by omega
  have hw4 : (m : Int) ≤ (cp : Int) := by omega
  by_cases ha : 0 ≤ ar
  case neg =>
    have V : Hid (simpleL ds sg 10 (k : Int) tys = -1) := by
      show _ = _
      rw [V1.out]
      split
      · rcases HRA.out with h | h
        · exact h
        · exact absurd h ha
      · rfl
    go_enter Tryz.func162, Tryz.ntmps162
    go_wp2_with fail
    go_quiet (fail)
    go_wp2_with fail
    generalize hW : World.drewN (w.alloc (.cells #[.slice a0 n0 c0, .slice (some ⟨b, o, none⟩) n1 c1] 130)) nq = W at *
    have KW : Keep w W := by rw [← hW]; exact K0.drewN nq
    have y0 : W.cell? ⟨w.heap.size, 0, none⟩ = some (.slice a0 n0 c0) := by rw [← hW]; simp
    have ym : W.cell? ⟨b2, o2 + m, none⟩ = some (.int .i64 (iAt s.params m)) := by rw [← hW]; exact gm
    have qd : DeclsR W.drew D a0 n0 ds := by rw [← hW]; exact (hpk.drewN nq).ext (S := fun _ => False) (Ext.refl (fun _ => False) _).drew (fun _ _ h => h)
    have q1 : IntsL W E a n tys := by rw [← hW]; exact h1.drewN nq
    have q2 : IntsL W D (some ⟨b2, o2, none⟩) m (s.params.take m) := by rw [← hW]; exact qtk.drewN nq
    clear hW gm h1 qtk hpk g0 g1 g2 qt
    have pc := Ext.refl0 W
    go_region_held3 (fun w' => w'.cell? ⟨w.heap.size, 0, none⟩ = some (.slice a0 n0 c0) ∧ w'.cell? ⟨b2, o2 + m, none⟩ = some (.int .i64 (iAt s.params m)))
      (first | exact ⟨Keep.at pc y0, Keep.at pc ym⟩ | go_keep)
      ((go_at_call 204; refine (implArrowOf0 _ _ _ ds _ _ _ _ qd (by omega)).mono ?_; rw [HAR.out]; rintro e w1 ⟨rfl, p1⟩; replace pc := Ext.trans pc p1))
    have KE := Lib.hid (KW.trans (Keep.dt pc))
    have q3 := Lib.hid (q1.ext (Keep.dt pc) (fun _ _ h => h))
    have q4 := Lib.hid (q2.ext (Keep.dt pc) (fun _ _ h => h))
    clear pc y0 ym qd q1 q2
    go_wp2_with fail
    exact fin_ hQ (simR_neg V.out (KE.out))
  cases hd : decide (tys = s.params.take m)
  · have V : Hid (simpleL ds sg 10 (k : Int) tys = -1) := by show _ = _; rw [V1.out, if_neg (of_decide_eq_false hd)]
    have HD := Lib.hid hd
    clear hd
    go_enter Tryz.func162, Tryz.ntmps162
    go_wp2_with fail
    go_quiet (fail)
    go_wp2_with fail
    generalize hW : World.drewN (w.alloc (.cells #[.slice a0 n0 c0, .slice (some ⟨b, o, none⟩) n1 c1] 130)) nq = W at *
    have KW : Keep w W := by rw [← hW]; exact K0.drewN nq
    have y0 : W.cell? ⟨w.heap.size, 0, none⟩ = some (.slice a0 n0 c0) := by rw [← hW]; simp
    have ym : W.cell? ⟨b2, o2 + m, none⟩ = some (.int .i64 (iAt s.params m)) := by rw [← hW]; exact gm
    have qd : DeclsR W.drew D a0 n0 ds := by rw [← hW]; exact (hpk.drewN nq).ext (S := fun _ => False) (Ext.refl (fun _ => False) _).drew (fun _ _ h => h)
    have q1 : IntsL W E a n tys := by rw [← hW]; exact h1.drewN nq
    have q2 : IntsL W D (some ⟨b2, o2, none⟩) m (s.params.take m) := by rw [← hW]; exact qtk.drewN nq
    clear hW gm h1 qtk hpk g0 g1 g2 qt
    have pc := Ext.refl0 W
    go_region_held3 (fun w' => w'.cell? ⟨w.heap.size, 0, none⟩ = some (.slice a0 n0 c0) ∧ w'.cell? ⟨b2, o2 + m, none⟩ = some (.int .i64 (iAt s.params m)))
      (first | exact ⟨Keep.at pc y0, Keep.at pc ym⟩ | go_keep)
      ((go_at_call 204; refine (implArrowOf0 _ _ _ ds _ _ _ _ qd (by omega)).mono ?_; rw [HAR.out]; rintro e w1 ⟨rfl, p1⟩; replace pc := Ext.trans pc p1))
    have KE := Lib.hid (KW.trans (Keep.dt pc))
    have q3 := Lib.hid (q1.ext (Keep.dt pc) (fun _ _ h => h))
    have q4 := Lib.hid (q2.ext (Keep.dt pc) (fun _ _ h => h))
    clear pc y0 ym qd q1 q2
    go_wp2_with fail
    refine (equalInts _ _ _ _ _ _ _ _ _ _ _ q3.out q4.out (by omega) (by omega)).mono ?_
    rw [HD.out]
    rintro e w2 ⟨rfl, p2⟩
    go_wp2_with fail
    exact fin_ hQ (simR_neg V.out (KE.out.trans p2))
  · have V : Hid (simpleL ds sg 10 (k : Int) tys = ar) := by show _ = _; rw [V1.out, if_pos (of_decide_eq_true hd)]
    have HD := Lib.hid hd
    clear hd
    go_enter Tryz.func162, Tryz.ntmps162
    go_wp2_with fail
    go_quiet (fail)
    go_wp2_with fail
    generalize hW : World.drewN (w.alloc (.cells #[.slice a0 n0 c0, .slice (some ⟨b, o, none⟩) n1 c1] 130)) nq = W at *
    have KW : Keep w W := by rw [← hW]; exact K0.drewN nq
    have y0 : W.cell? ⟨w.heap.size, 0, none⟩ = some (.slice a0 n0 c0) := by rw [← hW]; simp
    have ym : W.cell? ⟨b2, o2 + m, none⟩ = some (.int .i64 (iAt s.params m)) := by rw [← hW]; exact gm
    have qd : DeclsR W.drew D a0 n0 ds := by rw [← hW]; exact (hpk.drewN nq).ext (S := fun _ => False) (Ext.refl (fun _ => False) _).drew (fun _ _ h => h)
    have q1 : IntsL W E a n tys := by rw [← hW]; exact h1.drewN nq
    have q2 : IntsL W D (some ⟨b2, o2, none⟩) m (s.params.take m) := by rw [← hW]; exact qtk.drewN nq
    clear hW gm h1 qtk hpk g0 g1 g2 qt
    have pc := Ext.refl0 W
    go_region_held3 (fun w' => w'.cell? ⟨w.heap.size, 0, none⟩ = some (.slice a0 n0 c0) ∧ w'.cell? ⟨b2, o2 + m, none⟩ = some (.int .i64 (iAt s.params m)))
      (first | exact ⟨Keep.at pc y0, Keep.at pc ym⟩ | go_keep)
      ((go_at_call 204; refine (implArrowOf0 _ _ _ ds _ _ _ _ qd (by omega)).mono ?_; rw [HAR.out]; rintro e w1 ⟨rfl, p1⟩; replace pc := Ext.trans pc p1))
    have KE := Lib.hid (KW.trans (Keep.dt pc))
    have q3 := Lib.hid (q1.ext (Keep.dt pc) (fun _ _ h => h))
    have q4 := Lib.hid (q2.ext (Keep.dt pc) (fun _ _ h => h))
    clear pc y0 ym qd q1 q2
    go_wp2_with fail
    refine (equalInts _ _ _ _ _ _ _ _ _ _ _ q3.out q4.out (by omega) (by omega)).mono ?_
    rw [HD.out]
    rintro e w2 ⟨rfl, p2⟩
    go_wp2_with fail
    exact fin_ hQ (simR_pos V.out ha (KE.out.trans p2))

end
end Go.Proofs.YtkapldpmjkdmcaaGreat
/- slices.Concat of two slices of integers. -/
namespace Go.Proofs.YtkapldpmjkdmcaaGreat
open Go.RowKit

theorem growNil (n : Nat) (w : World) (hn : n ≤ 4000000) :
    Calls Tryz.prog 225 #[.slice none 0 0, .int .i64 (n : Int)] w fun e w' => ∃ v, e = .returned v ∧ VR w' w.heap.size v [] ∧ Keep w w' := by
  rcases Nat.eq_zero_or_pos n with h0 | h0
  · subst h0
    refine (Tryz.slices_Grow_zero w).mono ?_
    rintro e w' ⟨rfl, rfl⟩
    exact ⟨_, rfl, World.ownsRow_nil _ _ _ _, Ext.refl _ _⟩
  · obtain ⟨i, hi, hzz⟩ := Option.map_eq_some_iff.1 (show (Tryz.prog.info? 3).map (fun i => (i.zero, i.size, i.bytes)) = some (some (.int .i64 0), 1, 8) by kernel_rfl)
    simp only [Prod.mk.injEq] at hzz
    obtain ⟨hz, hsize, hby⟩ := hzz
    refine (Tryz.slices_Grow_nil i (.int .i64 0) hi hz (by omega) n w (by omega) (by rw [hby]; omega) (by omega)).mono ?_
    rintro e w' ⟨rfl, rfl⟩
    refine ⟨_, rfl, ?_, (Ext.refl _ w).drew.trans (Keep.al _ _)⟩
    refine World.ownsRow_made (w := w.drew) _ _ (Nat.le_refl _) ?_ ?_
    · exact grownCap_le_maxLen _ _ _ _ (by simp [maxLen]; omega)
    · have h5 := grownCap_ge w (0 + n) 0 3
      simp only [Nat.zero_add] at h5
      simp [Builtin.zeroCells, Value.cells]
      omega

set_option maxHeartbeats 2000000 in
theorem concatTwo (g cc : Nat) (a : Option Addr) (n c : Nat) (xs : List Int) (D : Nat → Prop) (a' : Option Addr) (n' c' : Nat) (ys : List Int) (D' : Nat → Prop) (w : World) (h0 : w.cell? ⟨g, 0, none⟩ = some (.slice a n c)) (h1 : w.cell? ⟨g, 1, none⟩ = some (.slice a' n' c')) (hx : IntsL w D a n xs) (hy : IntsL w D' a' n' ys) (hn : n ≤ 1052000) (hn' : n' ≤ 1052000) :
    Calls Tryz.prog 202 #[.slice (some ⟨g, 0, none⟩) 2 cc] w fun e w' => ∃ v, e = .returned v ∧ VR w' w.heap.size v (xs ++ ys) ∧ Keep w w' := by
  refine calls_k fun Q hQ => ?_
  have HX := Lib.hid hx
  have HY := Lib.hid hy
  clear hx hy
  go_enter Tryz.func202, Tryz.ntmps202
  go_wp2_with fail
  go_loop [3, 11] (fun sv iv => (iv = .int .i64 (0 : Nat) ∧ sv = .int .i64 (0 : Nat)) ∨ (iv = .int .i64 (1 : Nat) ∧ sv = .int .i64 (n : Nat)) ∨ (iv = .int .i64 (2 : Nat) ∧ sv = .int .i64 ((n + n' : Nat) : Int))) (fun _ iv => 2 - (intOf iv).toNat)
  case atStart => exact .inl ⟨rfl, rfl⟩
  case round =>
    rcases hrel with ⟨rfl, rfl⟩ | ⟨rfl, rfl⟩ | ⟨rfl, rfl⟩
    · go_wp2_with fail
      go_round
      case rel => exact .inr (.inl ⟨by go_num, by go_num⟩)
      case measure => simp [intOf]
    · go_wp2_with fail
      go_round
      case rel => exact .inr (.inr ⟨by go_num, by go_num⟩)
      case measure => simp [intOf]
    · go_wp2_with fail
      refine (growNil (n + n') w (by omega)).mono ?_
      rintro e w1 ⟨v, rfl, hv, p1⟩
      have HV := Lib.hid hv
      have P1 := Lib.hid p1
      clear hv
      go_wp2_with fail
      have G0 := Lib.hid h0
      have G1 := Lib.hid h1
      go_loopw [6, 27] (fun v iv wr => ((iv = .int .i64 (0 : Nat) ∧ Hid (VR wr w.heap.size v [])) ∨ (iv = .int .i64 (1 : Nat) ∧ Hid (VR wr w.heap.size v xs)) ∨ (iv = .int .i64 (2 : Nat) ∧ Hid (VR wr w.heap.size v (xs ++ ys)))) ∧ Hid (Keep w wr)) (fun _ iv _ => 2 - (intOf iv).toNat)
      case atStart => exact ⟨.inl ⟨rfl, HV⟩, P1⟩
      case round =>
        obtain ⟨hr, hK⟩ := hrel
        clear h0 h1
        have k0 := (hK.out.cell (World.block_lt_of_cell? _ _ G0.out) (fun h => h)).trans G0.out
        have k1 := (hK.out.cell (World.block_lt_of_cell? _ _ G1.out) (fun h => h)).trans G1.out
        have hbs : w.heap.size ≤ wr.heap.size := hK.out.size
        rcases hr with ⟨rfl, hv⟩ | ⟨rfl, hv⟩ | ⟨rfl, hv⟩
        · have hx2 := HX.out.ext hK.out (fun _ _ h => h)
          go_wp2_with (at_builtin; refine wpList_appInts _ rfl (.tmp 31) (.tmp 32) rfl w.heap.size u6 0 [] rfl hv.out a n c xs D rfl hx2 (by omega) (by omega) ?_; intro v' w' ho hg)
          have hv2 : Hid (VR w' w.heap.size v' xs) := by have h := ho; have hl := HX.out.1; show VR _ _ _ _; rw [VR, hl]; simpa using h
          have hK2 := Lib.hid (hK.out.grown hg (fun q hq => .inl (hv.out.lt q hq).1))
          go_roundw
          case rel => exact ⟨.inr (.inl ⟨by go_num, hv2⟩), hK2⟩
          case measure => simp [intOf]
        · have hx2 := HY.out.ext hK.out (fun _ _ h => h)
          have hxl : xs.length ≤ 1052000 := by have := HX.out.1; omega
          go_wp2_with (at_builtin; refine wpList_appInts _ rfl (.tmp 31) (.tmp 32) rfl w.heap.size u6 xs.length xs rfl hv.out a' n' c' ys D' rfl hx2 (by omega) (by omega) ?_; intro v' w' ho hg)
          have hv2 : Hid (VR w' w.heap.size v' (xs ++ ys)) := by have h := ho; have hl := HY.out.1; show VR _ _ _ _; rw [VR, List.length_append, hl]; exact h
          have hK2 := Lib.hid (hK.out.grown hg (fun q hq => .inl (hv.out.lt q hq).1))
          go_roundw
          case rel => exact ⟨.inr (.inr ⟨by go_num, hv2⟩), hK2⟩
          case measure => simp [intOf]
        · go_wp2_with fail
          exact fin_ hQ ⟨_, rfl, hv.out, hK.out⟩
end Go.Proofs.YtkapldpmjkdmcaaGreat
