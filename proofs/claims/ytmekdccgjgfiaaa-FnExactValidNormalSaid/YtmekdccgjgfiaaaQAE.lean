/- ValidTypes of the program. -/
import Derived.Test.YtmekdccgjgfiaaaQAC
namespace Go.Proofs.Ytmekdccgjgfiaaa
open Go.RowKit

theorem conOk_iff {n : Nat} {c : List Int} : conOk n c = true ↔ c.length ≤ 3 ∧ allT n c = true := by simp [conOk]
theorem isT0 (n : Nat) : isT n 0 = true := by simp [isT]
theorem declBad1 {ds : List DeclL} {n k : Nat} (hn : ds.length = n) (h : isT n (dAt ds k).from_ = false) : declOk ds k = false := by
  unfold declOk
  split
  · have : (dAt ds k).from_ ≠ 0 := by intro e; rw [e, isT0] at h; cases h
    simp [this]
  · rw [hn, h]; simp
theorem declBad2 {ds : List DeclL} {n k : Nat} (hn : ds.length = n) (h : isT n (dAt ds k).to_ = false) : declOk ds k = false := by
  unfold declOk
  split
  · have : (dAt ds k).to_ ≠ 0 := by intro e; rw [e, isT0] at h; cases h
    simp [this]
  · rw [hn, h]; simp
theorem declBad3 {ds : List DeclL} {k : Nat} (h : 3 < (dAt ds k).cons.length) : declOk ds k = false := by
  unfold declOk
  rw [if_pos (by omega)]
  simp
  omega
theorem declBad4 {ds : List DeclL} {k : Nat} (h : 0 < (dAt ds k).cons.length) (h2 : (dAt ds k).from_ ≠ 0 ∨ (dAt ds k).to_ ≠ 0) : declOk ds k = false := by
  unfold declOk
  rw [if_pos h]
  rcases h2 with h2 | h2 <;> simp [h2]
theorem declBad5 {ds : List DeclL} {n k j : Nat} (hn : ds.length = n) (hj : j < (dAt ds k).cons.length) (h2 : conOk n (cAt (dAt ds k).cons j) = false) : declOk ds k = false := by
  unfold declOk
  rw [if_pos (by omega), hn, cAll_false hj h2]
  simp
theorem declBad6 {ds : List DeclL} {k j : Nat} (h : (dAt ds k).cons.length = 0) (hj : j < k) (h2 : sameArrow (dAt ds j) (dAt ds k) = true) : declOk ds k = false := by
  unfold declOk
  rw [if_neg (by omega), nAll_false hj (by simp [h2])]
  simp
theorem declGood1 {ds : List DeclL} {n k : Nat} (hn : ds.length = n) (h : 0 < (dAt ds k).cons.length) (h3 : (dAt ds k).cons.length ≤ 3) (h1 : (dAt ds k).from_ = 0) (h2 : (dAt ds k).to_ = 0)
    (hc : ∀ j, j < (dAt ds k).cons.length → conOk n (cAt (dAt ds k).cons j) = true) : declOk ds k = true := by
  unfold declOk
  rw [if_pos h, hn, cAll.2 hc]
  simp [h1, h2, h3]
theorem declGood2 {ds : List DeclL} {n k : Nat} (hn : ds.length = n) (h : (dAt ds k).cons.length = 0) (h1 : isT n (dAt ds k).from_ = true) (h2 : isT n (dAt ds k).to_ = true)
    (hc : ∀ j, j < k → sameArrow (dAt ds j) (dAt ds k) = false) : declOk ds k = true := by
  unfold declOk
  rw [if_neg (by omega), hn, h1, h2]
  simp only [Bool.true_and]
  exact nAll.2 fun j hj => by simp [hc j hj]

theorem box_keep {w w2 : World} {cs : Array Value} {T : TypeId} (h : Keep (w.alloc (.cells cs T)) w2) (i : Nat) : w2.cell? ⟨w.heap.size, i, none⟩ = cs[i]? := by
  rw [h.cell (p := ⟨w.heap.size, i, none⟩) (by simp) (fun h => h), cell_of_row _ w.heap.size i cs T (0, 0) (heap_alloc_new w _)]

set_option maxRecDepth 100000 in
set_option maxHeartbeats 2000000 in
theorem implValidTypes (a : Option Addr) (n c : Nat) (ds : List DeclL) (D : Nat → Prop) (w : World) (h : DeclsR w D a n ds) (hnc : n ≤ c) :
    Calls Try.prog 73 #[.slice a n c] w fun e w' => e = .returned (.bool (typesOk ds)) ∧ Keep w w' := by
  refine calls_k fun Q hQ => ?_
  have hlen := h.1
  by_cases h4 : n ≤ 4
  · have hfin : Hid (typesOk ds = (List.range n).all (declOk ds)) := by
      show _ = _
      simp [typesOk, hlen, h4]
    go_enter Try.func73, Try.ntmps73
    go_wp2
    go_loopw [14] (fun i wr => ∃ j : Nat, j ≤ n ∧ i = .int .i64 j ∧ Keep w wr ∧ Hid (∀ l, l < j → declOk ds l = true)) (fun i _ => n - (intOf i).toNat)
    case atStart => exact ⟨0, Nat.zero_le _, rfl, Ext.refl _ _, fun j hj => absurd hj (by omega)⟩
    case round =>
      obtain ⟨wo, rfl⟩ : ∃ wo : World, wo = wr := ⟨_, rfl⟩
      obtain ⟨k, hk, rfl, hK, H⟩ := hrel
      by_cases hlt : k < n
      · have h1 := h.ext hK (fun _ _ h => h)
        obtain ⟨_, hcell⟩ := h1
        obtain ⟨b, o, rfl, hd, hc⟩ := hcell (by omega)
        obtain ⟨c0, c1, a', m, c', c2, hmc, hcons⟩ := hc k hlt
        have HL := Lib.hid hlen
        have HM := Lib.hid hcons.1
        generalize hF : (dAt ds k).from_ = F at *
        generalize hT : (dAt ds k).to_ = T at *
        have HF := Lib.hid hF
        have HT := Lib.hid hT
        clear hF hT hlen
        have hKa : Keep wo (wo.alloc (.cells #[.int .i64 F, .int .i64 T, .slice a' m c'] 93)) := (Ext.refl _ wo).alloc _
        cases v1 : isT n F
        · have V1 := Lib.hid v1
          clear hc hcell hcons
          go_wp2_with (go_at_call 50; refine (implIsType_no _ _ _ _ _ V1.out).mono ?_; rintro e w1 ⟨rfl, rfl⟩)
          exact fin_ hQ ⟨ret_b (by rw [hfin.out, nAll_false hlt (declBad1 HL.out (by rw [HF.out]; exact V1.out))]), hK.trans hKa⟩
        cases v2 : isT n T
        · have V1 := Lib.hid v1
          have V2 := Lib.hid v2
          clear hc hcell hcons v1 v2
          go_wp2_with fail
          refine (implIsType_yes _ _ _ _ _ V1.out).mono ?_
          rintro e w1 ⟨rfl, rfl⟩
          go_wp2_with fail
          refine (implIsType_no _ _ _ _ _ V2.out).mono ?_
          rintro e w1 ⟨rfl, rfl⟩
          go_wp2_with fail
          exact fin_ hQ ⟨ret_b (by rw [hfin.out, nAll_false hlt (declBad2 HL.out (by rw [HT.out]; exact V2.out))]), hK.trans hKa⟩
        have V1 := Lib.hid v1
        have V2 := Lib.hid v2
        have HC := Lib.hid hc
        have HCO := Lib.hid hcons
        clear v1 v2 hc hcell hcons
        by_cases hm3 : m ≤ 3
        · by_cases hm0 : m = 0
          · subst hm0
            go_wp2_with fail
            refine (implIsType_yes _ _ _ _ _ V1.out).mono ?_
            rintro e w1 ⟨rfl, rfl⟩
            go_wp2_with fail
            refine (implIsType_yes _ _ _ _ _ V2.out).mono ?_
            rintro e w1 ⟨rfl, rfl⟩
            go_wp2_with fail
            refine wp_loop_once ?_
            go_wp2_with fail
            go_loopw [76] (fun i w2 => ∃ j : Nat, j ≤ k ∧ i = .int .i64 j ∧ Keep (wo.alloc (.cells #[.int .i64 F, .int .i64 T, .slice a' 0 c'] 93)) w2 ∧ Hid (∀ l, l < j → sameArrow (dAt ds l) (dAt ds k) = false)) (fun i _ => k - (intOf i).toNat)
            case atStart => exact ⟨0, Nat.zero_le _, rfl, Ext.refl _ _, fun j hj => absurd hj (by omega)⟩
            case round =>
              obtain ⟨w2, rfl⟩ : ∃ w2 : World, w2 = wr := ⟨_, rfl⟩
              obtain ⟨j, hj, rfl, hK2, H2⟩ := hrel
              by_cases hltj : j < k
              · have hK3 : Keep wo w2 := hKa.trans hK2
                obtain ⟨e0, e1, a2, m2, c2', e2, _, e3⟩ := HC.out j (by omega)
                have x0 := (hK3.cell (World.block_lt_of_cell? _ _ e0) (fun h => h)).trans e0
                have x1 := (hK3.cell (World.block_lt_of_cell? _ _ e1) (fun h => h)).trans e1
                have x2 := (hK3.cell (World.block_lt_of_cell? _ _ e2) (fun h => h)).trans e2
                have y0 := box_keep hK2 0
                have y1 := box_keep hK2 1
                have y2 := box_keep hK2 2
                have y0' : w2.cell? ⟨wo.heap.size, 0, none⟩ = some (.int .i64 F) := y0
                have y1' : w2.cell? ⟨wo.heap.size, 1, none⟩ = some (.int .i64 T) := y1
                have y2' : w2.cell? ⟨wo.heap.size, 2, none⟩ = some (.slice a' 0 c') := y2
                have E3 := Lib.hid e3.1
                have hlt2 : wo.heap.size < w2.heap.size := by have := hK2.size; simp at this; omega
                clear e0 e1 e2 e3 y0 y1 y2 c0 c1 c2
                by_cases g0 : m2 = 0
                · subst g0
                  cases g1 : ((dAt ds j).from_ == F)
                  · have hs : Hid (sameArrow (dAt ds j) (dAt ds k) = false) := by
                      show _ = _
                      simp only [sameArrow, HF.out]
                      simp only [beq_eq_false_iff_ne] at g1
                      simp [g1]
                    go_wp2
                    go_roundw
                    case rel => exact ⟨j + 1, by omega, by go_num, hK2.trans ((Ext.refl _ _).alloc _), fun l hl => by
                      rcases Nat.lt_succ_iff_lt_or_eq.1 hl with h | rfl
                      · exact H2.out l h
                      · exact hs.out⟩
                    case measure => simp [intOf]; omega
                  · cases g2 : ((dAt ds j).to_ == T)
                    · have hs : Hid (sameArrow (dAt ds j) (dAt ds k) = false) := by
                        show _ = _
                        simp only [sameArrow, HT.out]
                        simp only [beq_eq_false_iff_ne] at g2
                        simp [g2]
                      go_wp2
                      go_roundw
                      case rel => exact ⟨j + 1, by omega, by go_num, hK2.trans ((Ext.refl _ _).alloc _), fun l hl => by
                        rcases Nat.lt_succ_iff_lt_or_eq.1 hl with h | rfl
                        · exact H2.out l h
                        · exact hs.out⟩
                      case measure => simp [intOf]; omega
                    · have hs : Hid (sameArrow (dAt ds j) (dAt ds k) = true) := by
                        show _ = _
                        simp only [sameArrow, HF.out, HT.out]
                        simp only [beq_iff_eq] at g1 g2
                        simp [g1, g2]
                        exact List.eq_nil_of_length_eq_zero E3.out
                      go_wp2
                      exact fin_ hQ ⟨ret_b (by rw [hfin.out, nAll_false hlt (declBad6 HM.out hltj hs.out)]), hK.trans (hK3.trans ((Ext.refl _ _).alloc _))⟩
                · have g0' : ((m2 : Int) == 0) = false := by simp; omega
                  have hs : Hid (sameArrow (dAt ds j) (dAt ds k) = false) := by
                    show _ = _
                    simp only [sameArrow, E3.out]
                    simp [g0]
                  go_wp2
                  go_roundw
                  case rel => exact ⟨j + 1, by omega, by go_num, hK2.trans ((Ext.refl _ _).alloc _), fun l hl => by
                    rcases Nat.lt_succ_iff_lt_or_eq.1 hl with h | rfl
                    · exact H2.out l h
                    · exact hs.out⟩
                  case measure => simp [intOf]; omega
              · go_wp2
                go_roundw
                case rel => exact ⟨k + 1, by omega, by go_num, hK.trans (hKa.trans hK2), fun l hl => by
                  rcases Nat.lt_succ_iff_lt_or_eq.1 hl with h | rfl
                  · exact H.out l h
                  · exact declGood2 HL.out HM.out (by rw [HF.out]; exact V1.out) (by rw [HT.out]; exact V2.out) (fun i hi => H2.out i (by omega))⟩
                case measure => simp [intOf]; omega
          · by_cases hz : F = 0 ∧ T = 0
            · obtain ⟨rfl, rfl⟩ := hz
              go_wp2_with fail
              refine (implIsType_yes _ _ _ _ _ V1.out).mono ?_
              rintro e w1 ⟨rfl, rfl⟩
              go_wp2_with fail
              refine (implIsType_yes _ _ _ _ _ V2.out).mono ?_
              rintro e w1 ⟨rfl, rfl⟩
              go_wp2_with fail
              go_loopw [56] (fun i w2 => ∃ j : Nat, j ≤ m ∧ i = .int .i64 j ∧ Keep (wo.alloc (.cells #[.int .i64 0, .int .i64 0, .slice a' m c'] 93)) w2 ∧ Hid (∀ l, l < j → conOk n (cAt (dAt ds k).cons l) = true)) (fun i _ => m - (intOf i).toNat)
              case atStart => exact ⟨0, Nat.zero_le _, rfl, Ext.refl _ _, fun j hj => absurd hj (by omega)⟩
              case round =>
                obtain ⟨w2, rfl⟩ : ∃ w2 : World, w2 = wr := ⟨_, rfl⟩
                obtain ⟨j, hj, rfl, hK2, H2⟩ := hrel
                have hK3 : Keep wo w2 := hKa.trans hK2
                have hlt2 : wo.heap.size < w2.heap.size := by have := hK2.size; simp at this; omega
                by_cases hltj : j < m
                · have hco := HCO.out.ext hK3 (fun _ _ h => h)
                  obtain ⟨b1, o1, rfl, hd1, hc1⟩ := hco.2 (by omega)
                  obtain ⟨a2, m2, c2', x0, hmc2, hints⟩ := hc1 j hltj
                  have hints1 := hints.ext ((Ext.refl (fun _ => False) w2).alloc (.cells #[.slice a2 m2 c2'] 134)) (fun _ _ h => h)
                  have HL2 := Lib.hid hints.1
                  clear hc1 hco hints c0 c1 c2
                  by_cases g1 : m2 ≤ 3
                  · cases hv : allT n (cAt (dAt ds k).cons j)
                    · have V := Lib.hid hv
                      clear hv
                      go_wp2_with fail
                      refine (implAllTypes _ _ _ _ _ _ _ _ _ hints1 (by omega)).mono ?_
                      rw [V.out]
                      rintro e w1 ⟨rfl, rfl⟩
                      go_wp2_with fail
                      exact fin_ hQ ⟨ret_b (by rw [hfin.out, nAll_false hlt (declBad5 HL.out (j := j) (by have := HM.out; omega) (by simp [conOk, V.out]))]), hK.trans (hK3.trans ((Ext.refl _ _).alloc _))⟩
                    · have V := Lib.hid hv
                      clear hv
                      go_wp2_with fail
                      refine (implAllTypes _ _ _ _ _ _ _ _ _ hints1 (by omega)).mono ?_
                      rw [V.out]
                      rintro e w1 ⟨rfl, rfl⟩
                      go_wp2_with fail
                      go_roundw
                      case rel => exact ⟨j + 1, by omega, by go_num, hK2.trans ((Ext.refl _ _).alloc _), fun l hl => by
                        rcases Nat.lt_succ_iff_lt_or_eq.1 hl with h | rfl
                        · exact H2.out l h
                        · exact conOk_iff.2 ⟨by have := HL2.out; omega, V.out⟩⟩
                      case measure => simp [intOf]; omega
                  · go_wp2_with fail
                    exact fin_ hQ ⟨ret_b (by rw [hfin.out, nAll_false hlt (declBad5 HL.out (j := j) (by have := HM.out; omega) (by have := HL2.out; simp [conOk]; omega))]), hK.trans (hK3.trans ((Ext.refl _ _).alloc _))⟩
                · have hm0' : ((m : Int) == 0) = false := by simp; omega
                  have y2 : w2.cell? ⟨wo.heap.size, 2, none⟩ = some (.slice a' m c') := box_keep hK2 2
                  clear c0 c1 c2
                  go_wp2_with fail
                  go_loopw [76] (fun i w3 => ∃ l : Nat, l ≤ k ∧ i = .int .i64 l ∧ Keep w2 w3) (fun i _ => k - (intOf i).toNat)
                  case atStart => exact ⟨0, Nat.zero_le _, rfl, Ext.refl _ _⟩
                  case round =>
                    obtain ⟨w3, rfl⟩ : ∃ w3 : World, w3 = wr := ⟨_, rfl⟩
                    obtain ⟨l, hl, rfl, hK4⟩ := hrel
                    have z2 := (hK4.cell (p := ⟨wo.heap.size, 2, none⟩) hlt2 (fun h => h)).trans y2
                    have hlt3 : wo.heap.size < w3.heap.size := by have := hK4.size; omega
                    clear y2
                    by_cases hltl : l < k
                    · obtain ⟨e0, e1, a2, m2, c2', e2, _, e3⟩ := HC.out l (by omega)
                      have hK5 : Keep wo w3 := hK3.trans hK4
                      have x0 := (hK5.cell (World.block_lt_of_cell? _ _ e0) (fun h => h)).trans e0
                      have x1 := (hK5.cell (World.block_lt_of_cell? _ _ e1) (fun h => h)).trans e1
                      have x2 := (hK5.cell (World.block_lt_of_cell? _ _ e2) (fun h => h)).trans e2
                      clear e0 e1 e2 e3
                      go_wp2_with fail
                      go_roundw
                      case rel => exact ⟨l + 1, by omega, by go_num, hK4.trans ((Ext.refl _ _).alloc _)⟩
                      case measure => simp [intOf]; omega
                    · go_wp2_with fail
                      go_roundw
                      case rel => exact ⟨k + 1, by omega, by go_num, hK.trans (hK3.trans hK4), fun l hl => by
                        rcases Nat.lt_succ_iff_lt_or_eq.1 hl with h | rfl
                        · exact H.out l h
                        · exact declGood1 HL.out (by have := HM.out; omega) (by have := HM.out; omega) HF.out HT.out (fun i hi => H2.out i (by have := HM.out; omega))⟩
                      case measure => simp [intOf]; omega
            · have hz' : F ≠ 0 ∨ T ≠ 0 := by
                by_cases h0 : F = 0
                · exact .inr fun h1 => hz ⟨h0, h1⟩
                · exact .inl h0
              have hb := Lib.hid (declBad4 (ds := ds) (k := k) (by have := HM.out; omega) (by rw [HF.out, HT.out]; exact hz'))
              clear hz
              cases g0 : (F != 0)
              · have g1 : (T != 0) = true := by
                  simp only [bne_eq_false_iff_eq] at g0
                  rcases hz' with h | h
                  · exact absurd g0 h
                  · simpa using h
                clear hz'
                go_wp2_with fail
                refine (implIsType_yes _ _ _ _ _ V1.out).mono ?_
                rintro e w1 ⟨rfl, rfl⟩
                go_wp2_with fail
                refine (implIsType_yes _ _ _ _ _ V2.out).mono ?_
                rintro e w1 ⟨rfl, rfl⟩
                go_wp2_with fail
                exact fin_ hQ ⟨ret_b (by rw [hfin.out, nAll_false hlt hb.out]), hK.trans hKa⟩
              · clear hz'
                go_wp2_with fail
                refine (implIsType_yes _ _ _ _ _ V1.out).mono ?_
                rintro e w1 ⟨rfl, rfl⟩
                go_wp2_with fail
                refine (implIsType_yes _ _ _ _ _ V2.out).mono ?_
                rintro e w1 ⟨rfl, rfl⟩
                go_wp2_with fail
                exact fin_ hQ ⟨ret_b (by rw [hfin.out, nAll_false hlt hb.out]), hK.trans hKa⟩
        · go_wp2_with fail
          refine (implIsType_yes _ _ _ _ _ V1.out).mono ?_
          rintro e w1 ⟨rfl, rfl⟩
          go_wp2_with fail
          refine (implIsType_yes _ _ _ _ _ V2.out).mono ?_
          rintro e w1 ⟨rfl, rfl⟩
          go_wp2_with fail
          exact fin_ hQ ⟨ret_b (by rw [hfin.out, nAll_false hlt (declBad3 (by have := HM.out; omega))]), hK.trans hKa⟩
      · go_wp2
        exact fin_ hQ ⟨ret_b (by rw [hfin.out]; exact (nAll.2 (fun l hl => H.out l (by omega))).symm), hK⟩
  · have hfin : Hid (typesOk ds = false) := by
      show _ = _
      simp [typesOk, hlen, h4]
    go_enter Try.func73, Try.ntmps73
    go_wp2
    exact fin_ hQ ⟨ret_b hfin.out.symm, Ext.refl _ _⟩
end Go.Proofs.Ytmekdccgjgfiaaa
