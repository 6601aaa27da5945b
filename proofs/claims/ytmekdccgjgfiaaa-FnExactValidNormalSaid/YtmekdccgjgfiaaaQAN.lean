/- The reference's types of blocks: choices. -/
import Derived.Test.YtmekdccgjgfiaaaQAM
import Derived.Test.YtmekdccgjgfiaaaQAH
namespace Go.Proofs.Ytmekdccgjgfiaaa
open Go.RowKit

/-- What blockType of the reference does for one block. -/
def BlS (ds : List DeclL) (rs : List RoutL) (res : Int) (ss : List StepL) : Prop := ∀ (a0 : Option Addr) (n0 c0 : Nat) (a1 : Option Addr) (n1 c1 : Nat) (av : Option Addr) (nv cv : Nat) (sc : List Int) (a : Option Addr) (n c : Nat) (w : World),
  NR w ds rs a0 n0 c0 a1 n1 c1 → Rd w (fun _ => True) (encInts sc) (.slice av nv cv) → Rd w (fun _ => True) (encSteps ss) (.slice a n c) → sc.length + 4 * nSs ss ≤ 1052000 → allT ds.length sc = true →
  Calls Try.prog 23 #[.agg #[.slice a0 n0 c0, .slice a1 n1 c1], .slice av nv cv, .agg #[.slice a n c, .int .i64 res]] w fun r w' => r = .returned (.int .i64 (runT ds (rs.map sigR) res sc ss)) ∧ Keep w w'
theorem NR.kd {w : World} {ds : List DeclL} {rs : List RoutL} {a0 : Option Addr} {n0 c0 : Nat} {a1 : Option Addr} {n1 c1 : Nat} (h : NR w ds rs a0 n0 c0 a1 n1 c1) : NR w.drew ds rs a0 n0 c0 a1 n1 c1 := h.k (Ext.refl (fun _ => False) w).drew
def kids7 (ds : List DeclL) (sg : List SigL) (sc : List Int) (ks : List BlockL) : Int := if ks.length = 2 then oneT (armT ds sg sc ks [[], []]) else -1
def kids8 (ds : List DeclL) (sg : List SigL) (sc : List Int) (num : Int) (ks : List BlockL) : Int := if 0 < (armsL ds num).length ∧ ks.length = (armsL ds num).length then oneT (armT ds sg sc ks (armsL ds num)) else -1
section
variable (ds : List DeclL) (rs : List RoutL)

set_option maxRecDepth 100000 in
set_option maxHeartbeats 4000000 in
theorem specKids_7 (num into : Int) (ks : List BlockL) (IH0 : ∀ j, j < ks.length → BlS ds rs (bAt ks j).result (bAt ks j).steps) (a0 : Option Addr) (n0 c0 : Nat) (a1 : Option Addr) (n1 c1 : Nat) (av : Option Addr) (nv cv : Nat) (sc : List Int) (aa : Option Addr) (na ca : Nat) (ak : Option Addr) (nk ck : Nat) (w : World)
    (hp : NR w ds rs a0 n0 c0 a1 n1 c1) (hv : Rd w (fun _ => True) (encInts sc) (.slice av nv cv)) (hk : Rd w (fun _ => True) (encBlocks ks) (.slice ak nk ck)) (hlen : sc.length + 4 * (nBs ks + 1) ≤ 1052000) (hall : allT ds.length sc = true) (hok : sigsOk ds (rs.map sigR) = true) :
    Calls Try.prog 67 #[.agg #[.slice a0 n0 c0, .slice a1 n1 c1], .slice av nv cv, .agg #[.int .i64 7, .int .i64 num, .int .i64 into, .slice aa na ca, .slice ak nk ck]] w fun r w' => r = .returned (.int .i64 (kids7 ds (rs.map sigR) sc ks)) ∧ Keep w w' := by
  refine calls_k fun Q hQ => ?_
  have ht := (sigsOk_parts hok).1
  have hf := Few.of_ok ht
  have K0 := (Keep.al w (.cells #[.slice a0 n0 c0, .slice a1 n1 c1] 36)).trans (Keep.al _ (.cells #[.int .i64 7, .int .i64 num, .int .i64 into, .slice aa na ca, .slice ak nk ck] 89))
  have R0 := (rowOf w #[.slice a0 n0 c0, .slice a1 n1 c1] 36).alloc (.cells #[.int .i64 7, .int .i64 num, .int .i64 into, .slice aa na ca, .slice ak nk ck] 89)
  have R1 := rowOf (w.alloc (.cells #[.slice a0 n0 c0, .slice a1 n1 c1] 36)) #[.int .i64 7, .int .i64 num, .int .i64 into, .slice aa na ca, .slice ak nk ck] 89
  simp only [World.size_alloc] at R1
  obtain ⟨e1, hnc, hnm, hat⟩ := blocks_at hk
  have HL := Lib.hid e1
  have HA := Lib.hid hat
  have hnv : nv ≤ 1052000 := by have := (ints_at hv).1; omega
  have HOK := Lib.hid hok
  have HAll := Lib.hid hall
  have HLen := Lib.hid hlen
  have HF := Lib.hid hf
  have HT := Lib.hid ht
  have IH := Lib.hid IH0
  have hcl := consL_len hf num
  have HAL := Lib.hid (armsL_len ds num)
  clear e1 hat hok hall ht IH0 hk
  by_cases hn : nk = 2
  case neg =>
    have V : Hid (kids7 ds (rs.map sigR) sc ks = -1) := by show _ = _; rw [kids7, if_neg (by have := HL.out; omega)]
    have hn2 : ((nk : Int) != 2) = true := by simp; omega
    go_enter Try.func67, Try.ntmps67
    go_wp2_with fail
    refine (specConsOf0 _ _ _ ds _ _ _ (Rd.toDecls (hp.1.k K0)) hf).mono ?_
    rintro e w1 ⟨ac, m, cc, rfl, hmc, oc, p1⟩
    have OC := Lib.hid oc
    have hml : m = (consL ds num).length := oc.1.symm
    have HM := Lib.hid hml
    have hm3 : m ≤ 3 := by omega
    have K1 := Lib.hid (K0.trans p1)
    have R0' := Lib.hid (row_ext R0 p1 (fun h => h))
    have R1' := Lib.hid (row_ext R1 p1 (fun h => h))
    have y0 := R1'.out.cell (i := 0) (by simp)
    have y4 := R1'.out.cell (i := 4) (by simp)
    simp at y0 y4
    have qp := hp.k K1.out
    have qv := hv.k K1.out
    clear oc hml p1 R0 R1 K0
    go_wp2_with fail
    exact fin_ hQ ⟨ret_i V.out.symm, K1.out⟩
  subst hn
  obtain ⟨T, hT⟩ : ∃ T, armT ds (rs.map sigR) sc ks [[], []] = T := ⟨_, rfl⟩
  have HTE := Lib.hid hT
  have HTL : Hid (T.length = ks.length) := by show _ = _; rw [← hT, armT_len]
  have HKS : Hid (ks.length = 2) := by have := HL.out; show _ = _; omega
  have VN : Hid (∀ i, i < T.length → iAt T i ≠ iAt T 0 ∨ iAt T i < 0 → kids7 ds (rs.map sigR) sc ks = -1) := fun i hi h => by rw [kids7, if_pos (by have := HL.out; omega)]; rw [hT]; exact oneT_neg hi h
  have VY : Hid (0 < T.length → (∀ i, i < T.length → iAt T i = iAt T 0 ∧ 0 ≤ iAt T 0) → kids7 ds (rs.map sigR) sc ks = iAt T 0) := fun h0 h => by rw [kids7, if_pos (by have := HL.out; omega)]; rw [hT]; exact oneT_at h0 (h 0 h0).2 (fun i hi => (h i hi).1)
  clear hT
  go_enter Try.func67, Try.ntmps67
  go_wp2_with fail
  refine (specConsOf0 _ _ _ ds _ _ _ (Rd.toDecls (hp.1.k K0)) hf).mono ?_
  rintro e w1 ⟨ac, m, cc, rfl, hmc, oc, p1⟩
  have OC := Lib.hid oc
  have hml : m = (consL ds num).length := oc.1.symm
  have HM := Lib.hid hml
  have hm3 : m ≤ 3 := by omega
  have K1 := Lib.hid (K0.trans p1)
  have R0' := Lib.hid (row_ext R0 p1 (fun h => h))
  have R1' := Lib.hid (row_ext R1 p1 (fun h => h))
  have y0 := R1'.out.cell (i := 0) (by simp)
  have y4 := R1'.out.cell (i := 4) (by simp)
  simp at y0 y4
  have qp := hp.k K1.out
  have qv := hv.k K1.out
  clear oc hml p1 R0 R1 K0
  go_wp2_with fail
  go_loopw [9, 10] (fun tv iv wr => ∃ (j : Nat) (t : Int), j ≤ 2 ∧ iv = .int .i64 j ∧ tv = .int .i64 t ∧ Hid (0 < j → t = iAt T 0) ∧ Hid (∀ l, l < j → iAt T l = iAt T 0 ∧ 0 ≤ iAt T 0) ∧ Hid (Keep w1 wr)) (fun _ iv _ => 2 - (intOf iv).toNat)
  case atStart => exact ⟨0, 0, Nat.zero_le _, rfl, rfl, (show 0 < 0 → _ from fun h => absurd h (by omega)), fun l hl => absurd hl (by omega), Ext.refl _ _⟩
  case round =>
    obtain ⟨wo, rfl⟩ : ∃ wo : World, wo = wr := ⟨_, rfl⟩
    obtain ⟨j, t, hj, rfl, rfl, hT0, hI, hK⟩ := hrel
    by_cases hlt : j < 2
    · have KW := Lib.hid (K1.out.trans hK.out)
      have HJ : Hid (j < ks.length) := by have := HKS.out; have := HM.out; show _ < _; omega
      have hjk : j < 2 := by have := HL.out; have := HJ.out; omega
      have x0 := (row_ext R0'.out hK.out (fun h => h)).cell (i := 0) (by simp)
      have x1 := (row_ext R0'.out hK.out (fun h => h)).cell (i := 1) (by simp)
      have y0 := (row_ext R1'.out hK.out (fun h => h)).cell (i := 0) (by simp)
      have y4 := (row_ext R1'.out hK.out (fun h => h)).cell (i := 4) (by simp)
      simp at x0 x1 y0 y4
      obtain ⟨b, o, rfl, _, a5, n5, c5, d0, d1, r5⟩ := HA.out j hjk
      have k0 := (KW.out.cell (World.block_lt_of_cell? w _ d0) (fun h => h)).trans d0
      have k1 := (KW.out.cell (World.block_lt_of_cell? w _ d1) (fun h => h)).trans d1
      have qk := (r5.k KW.out).kd
      have qpd := (qp.k hK.out).kd
      have qvd := (qv.k hK.out).kd
      have hb1 : sc.length + 4 * nSs (bAt ks j).steps + 4 ≤ 1052000 := by have := nB_le ks HJ.out; have := nB_eq (bAt ks j); have := HLen.out; omega
      have Z0 : iAt T j = runT ds (rs.map sigR) (bAt ks j).result sc (bAt ks j).steps := by rw [← HTE.out, armT_at ds (rs.map sigR) sc (ks := ks) (fs := [[], []]) HJ.out, blkT_eq]; rcases (show j = 0 ∨ j = 1 by omega) with rfl | rfl <;> simp [cAt]
      generalize hz : iAt T j = z at Z0
      have HZJ := Lib.hid hz
      have HZ : Hid (runT ds (rs.map sigR) (bAt ks j).result sc (bAt ks j).steps = z) := by show _ = _; rw [Z0]
      clear hz Z0 d0 d1 r5
      have hjm : (j : Int) < (2 : Int) := by omega
      have pc := Ext.refl0 wo
      by_cases hz0 : z < 0
      · have V : Hid (kids7 ds (rs.map sigR) sc ks = -1) := VN.out j (by rw [HTL.out]; exact HJ.out) (.inr (by rw [HZJ.out]; exact hz0))
        go_wp2_with fail
        go_region_held3 (fun w' => w'.cell? ⟨w.heap.size, 0, none⟩ = some (.slice a0 n0 c0) ∧ w'.cell? ⟨w.heap.size, 1, none⟩ = some (.slice a1 n1 c1) ∧ w'.cell? ⟨w.heap.size + 1, 4, none⟩ = some (.slice (some ⟨b, o, none⟩) 2 ck) ∧ w'.cell? ⟨b, o + j * 2, none⟩ = some (.slice a5 n5 c5) ∧ w'.cell? ⟨b, o + j * 2 + 1, none⟩ = some (.int .i64 (bAt ks j).result))
          (first | exact ⟨Keep.at pc x0, Keep.at pc x1, Keep.at pc y4, Keep.at pc k0, Keep.at pc k1⟩ | go_keep)
          ((go_at_call 23; refine (IH.out j HJ.out _ _ _ _ _ _ _ _ _ sc _ _ _ _ (qpd.k pc) (qvd.k pc) (qk.k pc) (by omega) HAll.out).mono ?_; rw [HZ.out]; rintro e w3 ⟨rfl, p3⟩; replace pc := pc.trans p3))
        have KE := Lib.hid (K1.out.trans (hK.out.trans (Keep.dt pc)))
        go_wp2_with fail
        exact fin_ hQ ⟨ret_i V.out.symm, KE.out⟩
      rcases Nat.eq_zero_or_pos j with hj0 | hj0
      · have hJ0 := Lib.hid hj0
        have hj1 : ¬ 0 < j := by omega
        have hj2 : ¬ (0 : Int) < (j : Int) := by omega
        have hI2 : Hid (∀ l, l < j + 1 → iAt T l = iAt T 0 ∧ 0 ≤ iAt T 0) := by
          intro l hl
          have hl0 : l = j := by omega
          have h0 : iAt T 0 = z := by rw [← hj0]; exact HZJ.out
          rw [hl0, HZJ.out, h0]
          exact ⟨rfl, by omega⟩
        have hZ0 : Hid (z = iAt T 0) := by show _ = _; rw [← HZJ.out, hj0]
        clear hj0
        go_wp2_with fail
        go_region_held3 (fun w' => w'.cell? ⟨w.heap.size, 0, none⟩ = some (.slice a0 n0 c0) ∧ w'.cell? ⟨w.heap.size, 1, none⟩ = some (.slice a1 n1 c1) ∧ w'.cell? ⟨w.heap.size + 1, 4, none⟩ = some (.slice (some ⟨b, o, none⟩) 2 ck) ∧ w'.cell? ⟨b, o + j * 2, none⟩ = some (.slice a5 n5 c5) ∧ w'.cell? ⟨b, o + j * 2 + 1, none⟩ = some (.int .i64 (bAt ks j).result))
          (first | exact ⟨Keep.at pc x0, Keep.at pc x1, Keep.at pc y4, Keep.at pc k0, Keep.at pc k1⟩ | go_keep)
          ((go_at_call 23; refine (IH.out j HJ.out _ _ _ _ _ _ _ _ _ sc _ _ _ _ (qpd.k pc) (qvd.k pc) (qk.k pc) (by omega) HAll.out).mono ?_; rw [HZ.out]; rintro e w3 ⟨rfl, p3⟩; replace pc := pc.trans p3))
        have KE := Lib.hid (hK.out.trans (Keep.dt pc))
        clear pc qk qvd
        go_wp2_with fail
        go_roundw
        case rel => exact ⟨j + 1, z, by omega, by go_num, rfl, fun _ => hZ0.out, hI2, KE.out⟩
        case measure => simp [intOf]; omega
      have hj0' : (0 : Int) < (j : Int) := by omega
      have hT1 := Lib.hid (hT0.out hj0)
      by_cases hzt : z = t
      · have hzt' : (z != t) = false := by simpa using hzt
        have hI2 : Hid (∀ l, l < j + 1 → iAt T l = iAt T 0 ∧ 0 ≤ iAt T 0) := by
          intro l hl
          rcases Nat.lt_succ_iff_lt_or_eq.1 hl with h | rfl
          · exact hI.out l h
          · exact ⟨by rw [HZJ.out, hzt]; exact hT1.out, by rw [← hT1.out, ← hzt]; omega⟩
        have HZT := Lib.hid hzt
        clear hzt
        go_wp2_with fail
        go_region_held3 (fun w' => w'.cell? ⟨w.heap.size, 0, none⟩ = some (.slice a0 n0 c0) ∧ w'.cell? ⟨w.heap.size, 1, none⟩ = some (.slice a1 n1 c1) ∧ w'.cell? ⟨w.heap.size + 1, 4, none⟩ = some (.slice (some ⟨b, o, none⟩) 2 ck) ∧ w'.cell? ⟨b, o + j * 2, none⟩ = some (.slice a5 n5 c5) ∧ w'.cell? ⟨b, o + j * 2 + 1, none⟩ = some (.int .i64 (bAt ks j).result))
          (first | exact ⟨Keep.at pc x0, Keep.at pc x1, Keep.at pc y4, Keep.at pc k0, Keep.at pc k1⟩ | go_keep)
          ((go_at_call 23; refine (IH.out j HJ.out _ _ _ _ _ _ _ _ _ sc _ _ _ _ (qpd.k pc) (qvd.k pc) (qk.k pc) (by omega) HAll.out).mono ?_; rw [HZ.out]; rintro e w3 ⟨rfl, p3⟩; replace pc := pc.trans p3))
        have KE := Lib.hid (hK.out.trans (Keep.dt pc))
        clear pc qk qvd
        go_wp2_with fail
        go_roundw
        case rel => exact ⟨j + 1, z, by omega, by go_num, rfl, fun _ => HZT.out.trans hT1.out, hI2, KE.out⟩
        case measure => simp [intOf]; omega
      · have hzt' : (z != t) = true := by simpa using hzt
        have V : Hid (kids7 ds (rs.map sigR) sc ks = -1) := VN.out j (by rw [HTL.out]; exact HJ.out) (.inl (by rw [HZJ.out, ← hT1.out]; exact hzt))
        clear hzt
        go_wp2_with fail
        go_region_held3 (fun w' => w'.cell? ⟨w.heap.size, 0, none⟩ = some (.slice a0 n0 c0) ∧ w'.cell? ⟨w.heap.size, 1, none⟩ = some (.slice a1 n1 c1) ∧ w'.cell? ⟨w.heap.size + 1, 4, none⟩ = some (.slice (some ⟨b, o, none⟩) 2 ck) ∧ w'.cell? ⟨b, o + j * 2, none⟩ = some (.slice a5 n5 c5) ∧ w'.cell? ⟨b, o + j * 2 + 1, none⟩ = some (.int .i64 (bAt ks j).result))
          (first | exact ⟨Keep.at pc x0, Keep.at pc x1, Keep.at pc y4, Keep.at pc k0, Keep.at pc k1⟩ | go_keep)
          ((go_at_call 23; refine (IH.out j HJ.out _ _ _ _ _ _ _ _ _ sc _ _ _ _ (qpd.k pc) (qvd.k pc) (qk.k pc) (by omega) HAll.out).mono ?_; rw [HZ.out]; rintro e w3 ⟨rfl, p3⟩; replace pc := pc.trans p3))
        have KE := Lib.hid (K1.out.trans (hK.out.trans (Keep.dt pc)))
        go_wp2_with fail
        exact fin_ hQ ⟨ret_i V.out.symm, KE.out⟩
    · have HJ : Hid (j = 2) := by show _ = _; omega
      have hj0 : ¬ j = 0 := by have := HJ.out; have := HM.out; omega
      have V : Hid (kids7 ds (rs.map sigR) sc ks = iAt T 0) := VY.out (by have := HTL.out; have := HKS.out; have := HM.out; omega) (fun l hl => hI.out l (by have := HTL.out; have := HKS.out; have := HM.out; omega))
      have hT1 := Lib.hid (hT0.out (by omega))
      go_wp2_with fail
      exact fin_ hQ ⟨ret_i (by rw [V.out]; exact hT1.out), K1.out.trans hK.out⟩

set_option maxRecDepth 100000 in
set_option maxHeartbeats 4000000 in
theorem specKids_8 (num into : Int) (ks : List BlockL) (IH0 : ∀ j, j < ks.length → BlS ds rs (bAt ks j).result (bAt ks j).steps) (a0 : Option Addr) (n0 c0 : Nat) (a1 : Option Addr) (n1 c1 : Nat) (av : Option Addr) (nv cv : Nat) (sc : List Int) (aa : Option Addr) (na ca : Nat) (ak : Option Addr) (nk ck : Nat) (w : World)
    (hp : NR w ds rs a0 n0 c0 a1 n1 c1) (hv : Rd w (fun _ => True) (encInts sc) (.slice av nv cv)) (hk : Rd w (fun _ => True) (encBlocks ks) (.slice ak nk ck)) (hlen : sc.length + 4 * (nBs ks + 1) ≤ 1052000) (hall : allT ds.length sc = true) (hok : sigsOk ds (rs.map sigR) = true) :
    Calls Try.prog 67 #[.agg #[.slice a0 n0 c0, .slice a1 n1 c1], .slice av nv cv, .agg #[.int .i64 8, .int .i64 num, .int .i64 into, .slice aa na ca, .slice ak nk ck]] w fun r w' => r = .returned (.int .i64 (kids8 ds (rs.map sigR) sc num ks)) ∧ Keep w w' := by
  refine calls_k fun Q hQ => ?_
  have ht := (sigsOk_parts hok).1
  have hf := Few.of_ok ht
  have K0 := (Keep.al w (.cells #[.slice a0 n0 c0, .slice a1 n1 c1] 36)).trans (Keep.al _ (.cells #[.int .i64 8, .int .i64 num, .int .i64 into, .slice aa na ca, .slice ak nk ck] 89))
  have R0 := (rowOf w #[.slice a0 n0 c0, .slice a1 n1 c1] 36).alloc (.cells #[.int .i64 8, .int .i64 num, .int .i64 into, .slice aa na ca, .slice ak nk ck] 89)
  have R1 := rowOf (w.alloc (.cells #[.slice a0 n0 c0, .slice a1 n1 c1] 36)) #[.int .i64 8, .int .i64 num, .int .i64 into, .slice aa na ca, .slice ak nk ck] 89
  simp only [World.size_alloc] at R1
  obtain ⟨e1, hnc, hnm, hat⟩ := blocks_at hk
  have HL := Lib.hid e1
  have HA := Lib.hid hat
  have hnv : nv ≤ 1052000 := by have := (ints_at hv).1; omega
  have HOK := Lib.hid hok
  have HAll := Lib.hid hall
  have HLen := Lib.hid hlen
  have HF := Lib.hid hf
  have HT := Lib.hid ht
  have IH := Lib.hid IH0
  have hcl := consL_len hf num
  have HAL := Lib.hid (armsL_len ds num)
  clear e1 hat hok hall ht IH0 hk
  rcases Nat.eq_zero_or_pos (consL ds num).length with hm0 | hm0
  · have V : Hid (kids8 ds (rs.map sigR) sc num ks = -1) := by show _ = _; rw [kids8, if_neg (by rw [HAL.out]; omega)]
    go_enter Try.func67, Try.ntmps67
    go_wp2_with fail
    refine (specConsOf0 _ _ _ ds _ _ _ (Rd.toDecls (hp.1.k K0)) hf).mono ?_
    rintro e w1 ⟨ac, m, cc, rfl, hmc, oc, p1⟩
    have OC := Lib.hid oc
    have hml : m = (consL ds num).length := oc.1.symm
    have HM := Lib.hid hml
    have hm3 : m ≤ 3 := by omega
    have K1 := Lib.hid (K0.trans p1)
    have R0' := Lib.hid (row_ext R0 p1 (fun h => h))
    have R1' := Lib.hid (row_ext R1 p1 (fun h => h))
    have y0 := R1'.out.cell (i := 0) (by simp)
    have y4 := R1'.out.cell (i := 4) (by simp)
    simp at y0 y4
    have qp := hp.k K1.out
    have qv := hv.k K1.out
    clear oc hml p1 R0 R1 K0
    have hmz : m = 0 := by have := HM.out; omega
    subst hmz
    go_wp2_with fail
    exact fin_ hQ ⟨ret_i V.out.symm, K1.out⟩
  by_cases hn : nk = (consL ds num).length
  case neg =>
    have V : Hid (kids8 ds (rs.map sigR) sc num ks = -1) := by show _ = _; rw [kids8, if_neg (by rw [HAL.out]; have := HL.out; omega)]
    go_enter Try.func67, Try.ntmps67
    go_wp2_with fail
    refine (specConsOf0 _ _ _ ds _ _ _ (Rd.toDecls (hp.1.k K0)) hf).mono ?_
    rintro e w1 ⟨ac, m, cc, rfl, hmc, oc, p1⟩
    have OC := Lib.hid oc
    have hml : m = (consL ds num).length := oc.1.symm
    have HM := Lib.hid hml
    have hm3 : m ≤ 3 := by omega
    have K1 := Lib.hid (K0.trans p1)
    have R0' := Lib.hid (row_ext R0 p1 (fun h => h))
    have R1' := Lib.hid (row_ext R1 p1 (fun h => h))
    have y0 := R1'.out.cell (i := 0) (by simp)
    have y4 := R1'.out.cell (i := 4) (by simp)
    simp at y0 y4
    have qp := hp.k K1.out
    have qv := hv.k K1.out
    clear oc hml p1 R0 R1 K0
    have hmz : ((m : Int) == 0) = false := by have := HM.out; simp; omega
    have hmz2 : ((nk : Int) != (m : Int)) = true := by have := HM.out; simp; omega
    go_wp2_with fail
    exact fin_ hQ ⟨ret_i V.out.symm, K1.out⟩
  have hnA : nk ≤ (consL ds num).length := by omega
  have hnB : (consL ds num).length ≤ nk := by omega
  clear hn
  obtain ⟨T, hT⟩ : ∃ T, armT ds (rs.map sigR) sc ks (armsL ds num) = T := ⟨_, rfl⟩
  have HTE := Lib.hid hT
  have HTL : Hid (T.length = ks.length) := by show _ = _; rw [← hT, armT_len]
  have HKS : Hid (ks.length = (consL ds num).length) := by have := HL.out; show _ = _; omega
  have VN : Hid (∀ i, i < T.length → iAt T i ≠ iAt T 0 ∨ iAt T i < 0 → kids8 ds (rs.map sigR) sc num ks = -1) := fun i hi h => by rw [kids8, if_pos ⟨by rw [HAL.out]; omega, by rw [HAL.out]; have := HL.out; omega⟩]; rw [hT]; exact oneT_neg hi h
  have VY : Hid (0 < T.length → (∀ i, i < T.length → iAt T i = iAt T 0 ∧ 0 ≤ iAt T 0) → kids8 ds (rs.map sigR) sc num ks = iAt T 0) := fun h0 h => by rw [kids8, if_pos ⟨by rw [HAL.out]; omega, by rw [HAL.out]; have := HL.out; omega⟩]; rw [hT]; exact oneT_at h0 (h 0 h0).2 (fun i hi => (h i hi).1)
  clear hT
  go_enter Try.func67, Try.ntmps67
  go_wp2_with fail
  refine (specConsOf0 _ _ _ ds _ _ _ (Rd.toDecls (hp.1.k K0)) hf).mono ?_
  rintro e w1 ⟨ac, m, cc, rfl, hmc, oc, p1⟩
  have OC := Lib.hid oc
  have hml : m = (consL ds num).length := oc.1.symm
  have HM := Lib.hid hml
  have hm3 : m ≤ 3 := by omega
  have K1 := Lib.hid (K0.trans p1)
  have R0' := Lib.hid (row_ext R0 p1 (fun h => h))
  have R1' := Lib.hid (row_ext R1 p1 (fun h => h))
  have y0 := R1'.out.cell (i := 0) (by simp)
  have y4 := R1'.out.cell (i := 4) (by simp)
  simp at y0 y4
  have qp := hp.k K1.out
  have qv := hv.k K1.out
  clear oc hml p1 R0 R1 K0
  have hmz : ((m : Int) == 0) = false := by have := HM.out; simp; omega
  have hmz2 : ((nk : Int) != (m : Int)) = false := by have := HM.out; simp; omega
  go_wp2_with fail
  clear hmz hmz2
  go_loopw [9, 10] (fun tv iv wr => ∃ (j : Nat) (t : Int), j ≤ m ∧ iv = .int .i64 j ∧ tv = .int .i64 t ∧ Hid (0 < j → t = iAt T 0) ∧ Hid (∀ l, l < j → iAt T l = iAt T 0 ∧ 0 ≤ iAt T 0) ∧ Hid (Keep w1 wr)) (fun _ iv _ => m - (intOf iv).toNat)
  case atStart => exact ⟨0, 0, Nat.zero_le _, rfl, rfl, (show 0 < 0 → _ from fun h => absurd h (by omega)), fun l hl => absurd hl (by omega), Ext.refl _ _⟩
  case round =>
    obtain ⟨wo, rfl⟩ : ∃ wo : World, wo = wr := ⟨_, rfl⟩
    obtain ⟨j, t, hj, rfl, rfl, hT0, hI, hK⟩ := hrel
    by_cases hlt : j < m
    · have KW := Lib.hid (K1.out.trans hK.out)
      have HJ : Hid (j < ks.length) := by have := HKS.out; have := HM.out; show _ < _; omega
      have hjk : j < nk := by have := HL.out; have := HJ.out; omega
      have x0 := (row_ext R0'.out hK.out (fun h => h)).cell (i := 0) (by simp)
      have x1 := (row_ext R0'.out hK.out (fun h => h)).cell (i := 1) (by simp)
      have y0 := (row_ext R1'.out hK.out (fun h => h)).cell (i := 0) (by simp)
      have y4 := (row_ext R1'.out hK.out (fun h => h)).cell (i := 4) (by simp)
      simp at x0 x1 y0 y4
      obtain ⟨bc, oc, rfl, _, hcq⟩ := (OC.out.read).2 (by omega)
      have dj := hcq j hlt
      have cq := (hK.out.cell (World.block_lt_of_cell? _ _ dj) (fun h => h)).trans dj
      have HFO := Lib.hid (conFieldsL_ok HT.out (iAt (consL ds num) j))
      have hfo : (conFieldsL ds (iAt (consL ds num) j)).length ≤ 3 := HFO.out.1
      clear hcq dj
      obtain ⟨b, o, rfl, _, a5, n5, c5, d0, d1, r5⟩ := HA.out j hjk
      have k0 := (KW.out.cell (World.block_lt_of_cell? w _ d0) (fun h => h)).trans d0
      have k1 := (KW.out.cell (World.block_lt_of_cell? w _ d1) (fun h => h)).trans d1
      have qk := (r5.k KW.out).kd
      have qpd := (qp.k hK.out).kd
      have qvd := (qv.k hK.out).kd
      have hb1 : sc.length + 4 * nSs (bAt ks j).steps + 4 ≤ 1052000 := by have := nB_le ks HJ.out; have := nB_eq (bAt ks j); have := HLen.out; omega
      have Z0 : iAt T j = runT ds (rs.map sigR) (bAt ks j).result (sc ++ conFieldsL ds (iAt (consL ds num) j)) (bAt ks j).steps := by rw [← HTE.out, armT_at ds (rs.map sigR) sc (ks := ks) (fs := (armsL ds num)) HJ.out, blkT_eq]; rw [armsL_at (by have := HM.out; omega)]
      generalize hz : iAt T j = z at Z0
      have HZJ := Lib.hid hz
      have HZ : Hid (runT ds (rs.map sigR) (bAt ks j).result (sc ++ conFieldsL ds (iAt (consL ds num) j)) (bAt ks j).steps = z) := by show _ = _; rw [Z0]
      clear hz Z0 d0 d1 r5
      have hjm : (j : Int) < (m : Int) := by omega
      have pc := Ext.refl0 wo
      by_cases hz0 : z < 0
      · have V : Hid (kids8 ds (rs.map sigR) sc num ks = -1) := VN.out j (by rw [HTL.out]; exact HJ.out) (.inr (by rw [HZJ.out]; exact hz0))
        go_wp2_with fail
        go_region_held3 (fun w' => w'.cell? ⟨w.heap.size, 0, none⟩ = some (.slice a0 n0 c0) ∧ w'.cell? ⟨bc, oc + j, none⟩ = some (.int .i64 (iAt (consL ds num) j)))
          (first | exact ⟨Keep.at pc x0, Keep.at pc cq⟩ | go_keep)
          (first
            | (go_at_call 66; refine (specConFields0 _ _ _ ds _ _ _ (Rd.toDecls (qpd.k pc).1) HF.out).mono ?_; rintro e wa ⟨fa, fm, fc, rfl, hfc, fi, pa⟩; replace pc := pc.trans pa)
            | (go_at_call 84; refine (specExtend _ _ _ sc _ _ _ _ _ _ _ (Rd.toInts (qvd.k pc)) (by omega) fi (by have := fi.1; omega)).mono ?_; rintro e wb ⟨xa, xn, xc, rfl, hxc, ox, pb⟩; replace pc := pc.trans pb))
        have KX := Lib.hid (Keep.dt pc)
        have x0 := Keep.at pc x0
        have x1 := Keep.at pc x1
        have y4 := Keep.at pc y4
        have y0 := Keep.at pc y0
        have k0 := Keep.at pc k0
        have k1 := Keep.at pc k1
        have qpd := (qpd.k pc).kd
        have qk := (qk.k pc).kd
        have qx := ((ox.read.toRd hxc (by have := ox.1; simp at this; omega)).t).kd
        clear pc qvd cq
        have pc := Ext.refl0 wb
        go_wp2_with fail
        go_region_held3 (fun w' => w'.cell? ⟨w.heap.size, 0, none⟩ = some (.slice a0 n0 c0) ∧ w'.cell? ⟨w.heap.size, 1, none⟩ = some (.slice a1 n1 c1) ∧ w'.cell? ⟨w.heap.size + 1, 4, none⟩ = some (.slice (some ⟨b, o, none⟩) nk ck) ∧ w'.cell? ⟨b, o + j * 2, none⟩ = some (.slice a5 n5 c5) ∧ w'.cell? ⟨b, o + j * 2 + 1, none⟩ = some (.int .i64 (bAt ks j).result))
          (first | exact ⟨Keep.at pc x0, Keep.at pc x1, Keep.at pc y4, Keep.at pc k0, Keep.at pc k1⟩ | go_keep)
          ((go_at_call 23; refine (IH.out j HJ.out _ _ _ _ _ _ _ _ _ _ _ _ _ _ (qpd.k pc) (qx.k pc) (qk.k pc) (by rw [List.length_append]; omega) (allT_append HAll.out HFO.out.2)).mono ?_; rw [HZ.out]; rintro e w3 ⟨rfl, p3⟩; replace pc := pc.trans p3))
        have KE := Lib.hid (K1.out.trans ((hK.out.trans KX.out).trans (Keep.dt pc)))
        go_wp2_with fail
        exact fin_ hQ ⟨ret_i V.out.symm, KE.out⟩
      rcases Nat.eq_zero_or_pos j with hj0 | hj0
      · have hJ0 := Lib.hid hj0
        have hj1 : ¬ 0 < j := by omega
        have hj2 : ¬ (0 : Int) < (j : Int) := by omega
        have hI2 : Hid (∀ l, l < j + 1 → iAt T l = iAt T 0 ∧ 0 ≤ iAt T 0) := by
          intro l hl
          have hl0 : l = j := by omega
          have h0 : iAt T 0 = z := by rw [← hj0]; exact HZJ.out
          rw [hl0, HZJ.out, h0]
          exact ⟨rfl, by omega⟩
        have hZ0 : Hid (z = iAt T 0) := by show _ = _; rw [← HZJ.out, hj0]
        clear hj0
        go_wp2_with fail
        go_region_held3 (fun w' => w'.cell? ⟨w.heap.size, 0, none⟩ = some (.slice a0 n0 c0) ∧ w'.cell? ⟨bc, oc + j, none⟩ = some (.int .i64 (iAt (consL ds num) j)))
          (first | exact ⟨Keep.at pc x0, Keep.at pc cq⟩ | go_keep)
          (first
            | (go_at_call 66; refine (specConFields0 _ _ _ ds _ _ _ (Rd.toDecls (qpd.k pc).1) HF.out).mono ?_; rintro e wa ⟨fa, fm, fc, rfl, hfc, fi, pa⟩; replace pc := pc.trans pa)
            | (go_at_call 84; refine (specExtend _ _ _ sc _ _ _ _ _ _ _ (Rd.toInts (qvd.k pc)) (by omega) fi (by have := fi.1; omega)).mono ?_; rintro e wb ⟨xa, xn, xc, rfl, hxc, ox, pb⟩; replace pc := pc.trans pb))
        have KX := Lib.hid (Keep.dt pc)
        have x0 := Keep.at pc x0
        have x1 := Keep.at pc x1
        have y4 := Keep.at pc y4
        have y0 := Keep.at pc y0
        have k0 := Keep.at pc k0
        have k1 := Keep.at pc k1
        have qpd := (qpd.k pc).kd
        have qk := (qk.k pc).kd
        have qx := ((ox.read.toRd hxc (by have := ox.1; simp at this; omega)).t).kd
        clear pc qvd cq
        have pc := Ext.refl0 wb
        go_wp2_with fail
        go_region_held3 (fun w' => w'.cell? ⟨w.heap.size, 0, none⟩ = some (.slice a0 n0 c0) ∧ w'.cell? ⟨w.heap.size, 1, none⟩ = some (.slice a1 n1 c1) ∧ w'.cell? ⟨w.heap.size + 1, 4, none⟩ = some (.slice (some ⟨b, o, none⟩) nk ck) ∧ w'.cell? ⟨b, o + j * 2, none⟩ = some (.slice a5 n5 c5) ∧ w'.cell? ⟨b, o + j * 2 + 1, none⟩ = some (.int .i64 (bAt ks j).result))
          (first | exact ⟨Keep.at pc x0, Keep.at pc x1, Keep.at pc y4, Keep.at pc k0, Keep.at pc k1⟩ | go_keep)
          ((go_at_call 23; refine (IH.out j HJ.out _ _ _ _ _ _ _ _ _ _ _ _ _ _ (qpd.k pc) (qx.k pc) (qk.k pc) (by rw [List.length_append]; omega) (allT_append HAll.out HFO.out.2)).mono ?_; rw [HZ.out]; rintro e w3 ⟨rfl, p3⟩; replace pc := pc.trans p3))
        have KE := Lib.hid ((hK.out.trans KX.out).trans (Keep.dt pc))
        clear pc qk qx
        go_wp2_with fail
        go_roundw
        case rel => exact ⟨j + 1, z, by omega, by go_num, rfl, fun _ => hZ0.out, hI2, KE.out⟩
        case measure => simp [intOf]; omega
      have hj0' : (0 : Int) < (j : Int) := by omega
      have hT1 := Lib.hid (hT0.out hj0)
      by_cases hzt : z = t
      · have hzt' : (z != t) = false := by simpa using hzt
        have hI2 : Hid (∀ l, l < j + 1 → iAt T l = iAt T 0 ∧ 0 ≤ iAt T 0) := by
          intro l hl
          rcases Nat.lt_succ_iff_lt_or_eq.1 hl with h | rfl
          · exact hI.out l h
          · exact ⟨by rw [HZJ.out, hzt]; exact hT1.out, by rw [← hT1.out, ← hzt]; omega⟩
        have HZT := Lib.hid hzt
        clear hzt
        go_wp2_with fail
        go_region_held3 (fun w' => w'.cell? ⟨w.heap.size, 0, none⟩ = some (.slice a0 n0 c0) ∧ w'.cell? ⟨bc, oc + j, none⟩ = some (.int .i64 (iAt (consL ds num) j)))
          (first | exact ⟨Keep.at pc x0, Keep.at pc cq⟩ | go_keep)
          (first
            | (go_at_call 66; refine (specConFields0 _ _ _ ds _ _ _ (Rd.toDecls (qpd.k pc).1) HF.out).mono ?_; rintro e wa ⟨fa, fm, fc, rfl, hfc, fi, pa⟩; replace pc := pc.trans pa)
            | (go_at_call 84; refine (specExtend _ _ _ sc _ _ _ _ _ _ _ (Rd.toInts (qvd.k pc)) (by omega) fi (by have := fi.1; omega)).mono ?_; rintro e wb ⟨xa, xn, xc, rfl, hxc, ox, pb⟩; replace pc := pc.trans pb))
        have KX := Lib.hid (Keep.dt pc)
        have x0 := Keep.at pc x0
        have x1 := Keep.at pc x1
        have y4 := Keep.at pc y4
        have y0 := Keep.at pc y0
        have k0 := Keep.at pc k0
        have k1 := Keep.at pc k1
        have qpd := (qpd.k pc).kd
        have qk := (qk.k pc).kd
        have qx := ((ox.read.toRd hxc (by have := ox.1; simp at this; omega)).t).kd
        clear pc qvd cq
        have pc := Ext.refl0 wb
        go_wp2_with fail
        go_region_held3 (fun w' => w'.cell? ⟨w.heap.size, 0, none⟩ = some (.slice a0 n0 c0) ∧ w'.cell? ⟨w.heap.size, 1, none⟩ = some (.slice a1 n1 c1) ∧ w'.cell? ⟨w.heap.size + 1, 4, none⟩ = some (.slice (some ⟨b, o, none⟩) nk ck) ∧ w'.cell? ⟨b, o + j * 2, none⟩ = some (.slice a5 n5 c5) ∧ w'.cell? ⟨b, o + j * 2 + 1, none⟩ = some (.int .i64 (bAt ks j).result))
          (first | exact ⟨Keep.at pc x0, Keep.at pc x1, Keep.at pc y4, Keep.at pc k0, Keep.at pc k1⟩ | go_keep)
          ((go_at_call 23; refine (IH.out j HJ.out _ _ _ _ _ _ _ _ _ _ _ _ _ _ (qpd.k pc) (qx.k pc) (qk.k pc) (by rw [List.length_append]; omega) (allT_append HAll.out HFO.out.2)).mono ?_; rw [HZ.out]; rintro e w3 ⟨rfl, p3⟩; replace pc := pc.trans p3))
        have KE := Lib.hid ((hK.out.trans KX.out).trans (Keep.dt pc))
        clear pc qk qx
        go_wp2_with fail
        go_roundw
        case rel => exact ⟨j + 1, z, by omega, by go_num, rfl, fun _ => HZT.out.trans hT1.out, hI2, KE.out⟩
        case measure => simp [intOf]; omega
      · have hzt' : (z != t) = true := by simpa using hzt
        have V : Hid (kids8 ds (rs.map sigR) sc num ks = -1) := VN.out j (by rw [HTL.out]; exact HJ.out) (.inl (by rw [HZJ.out, ← hT1.out]; exact hzt))
        clear hzt
        go_wp2_with fail
        go_region_held3 (fun w' => w'.cell? ⟨w.heap.size, 0, none⟩ = some (.slice a0 n0 c0) ∧ w'.cell? ⟨bc, oc + j, none⟩ = some (.int .i64 (iAt (consL ds num) j)))
          (first | exact ⟨Keep.at pc x0, Keep.at pc cq⟩ | go_keep)
          (first
            | (go_at_call 66; refine (specConFields0 _ _ _ ds _ _ _ (Rd.toDecls (qpd.k pc).1) HF.out).mono ?_; rintro e wa ⟨fa, fm, fc, rfl, hfc, fi, pa⟩; replace pc := pc.trans pa)
            | (go_at_call 84; refine (specExtend _ _ _ sc _ _ _ _ _ _ _ (Rd.toInts (qvd.k pc)) (by omega) fi (by have := fi.1; omega)).mono ?_; rintro e wb ⟨xa, xn, xc, rfl, hxc, ox, pb⟩; replace pc := pc.trans pb))
        have KX := Lib.hid (Keep.dt pc)
        have x0 := Keep.at pc x0
        have x1 := Keep.at pc x1
        have y4 := Keep.at pc y4
        have y0 := Keep.at pc y0
        have k0 := Keep.at pc k0
        have k1 := Keep.at pc k1
        have qpd := (qpd.k pc).kd
        have qk := (qk.k pc).kd
        have qx := ((ox.read.toRd hxc (by have := ox.1; simp at this; omega)).t).kd
        clear pc qvd cq
        have pc := Ext.refl0 wb
        go_wp2_with fail
        go_region_held3 (fun w' => w'.cell? ⟨w.heap.size, 0, none⟩ = some (.slice a0 n0 c0) ∧ w'.cell? ⟨w.heap.size, 1, none⟩ = some (.slice a1 n1 c1) ∧ w'.cell? ⟨w.heap.size + 1, 4, none⟩ = some (.slice (some ⟨b, o, none⟩) nk ck) ∧ w'.cell? ⟨b, o + j * 2, none⟩ = some (.slice a5 n5 c5) ∧ w'.cell? ⟨b, o + j * 2 + 1, none⟩ = some (.int .i64 (bAt ks j).result))
          (first | exact ⟨Keep.at pc x0, Keep.at pc x1, Keep.at pc y4, Keep.at pc k0, Keep.at pc k1⟩ | go_keep)
          ((go_at_call 23; refine (IH.out j HJ.out _ _ _ _ _ _ _ _ _ _ _ _ _ _ (qpd.k pc) (qx.k pc) (qk.k pc) (by rw [List.length_append]; omega) (allT_append HAll.out HFO.out.2)).mono ?_; rw [HZ.out]; rintro e w3 ⟨rfl, p3⟩; replace pc := pc.trans p3))
        have KE := Lib.hid (K1.out.trans ((hK.out.trans KX.out).trans (Keep.dt pc)))
        go_wp2_with fail
        exact fin_ hQ ⟨ret_i V.out.symm, KE.out⟩
    · have HJ : Hid (j = m) := by show _ = _; omega
      have hj0 : ¬ j = 0 := by have := HJ.out; have := HM.out; omega
      have V : Hid (kids8 ds (rs.map sigR) sc num ks = iAt T 0) := VY.out (by have := HTL.out; have := HKS.out; have := HM.out; omega) (fun l hl => hI.out l (by have := HTL.out; have := HKS.out; have := HM.out; omega))
      have hT1 := Lib.hid (hT0.out (by omega))
      go_wp2_with fail
      exact fin_ hQ ⟨ret_i (by rw [V.out]; exact hT1.out), K1.out.trans hK.out⟩
end
end Go.Proofs.Ytmekdccgjgfiaaa
