/- ValidTypes of the program. -/
import Derived.Test.YtkapldpmjkdmcaaGreatSAB
namespace Go.Proofs.YtkapldpmjkdmcaaGreat
open Go.RowKit

theorem conOk_iff {n : Nat} {c : List Int} : conOk n c = true ↔ c.length ≤ 3 ∧ allT n c = true := by simp [conOk]
theorem isT0 (n : Nat) : isT n 0 = true := by simp [isT]
theorem declBad1 {ds : List DeclL} {n k : Nat} (hn : ds.length = n) (h : isT n (dAt ds k).from_ = false) : declOk ds k = false := by
  unfold declOk
  split
  · have : (dAt ds k).from_ ≠ 0 := by intro e; rw [e, isT0] at h; cases h
    simp [this]
  · rw [hn, h]; simp
theorem declBad2 {ds : List DeclL} {n k : Nat} (hn : ds.length = n) (h : isT n (dAt ds k).to_ = false) : declOk ds k = false := by
  unfold declOk
  split
  · have : (dAt ds k).to_ ≠ 0 := by intro e; rw [e, isT0] at h; cases h
    simp [this]
  · rw [hn, h]; simp
theorem declBad3 {ds : List DeclL} {k : Nat} (h : 3 < (dAt ds k).cons.length) : declOk ds k = false := by
  unfold declOk
  rw [if_pos (by omega)]
  simp
  omega
theorem declBad4 {ds : List DeclL} {k : Nat} (h : 0 < (dAt ds k).cons.length) (h2 : (dAt ds k).from_ ≠ 0 ∨ (dAt ds k).to_ ≠ 0) : declOk ds k = false := by
  unfold declOk
  rw [if_pos h]
  rcases h2 with h2 | h2 <;> simp [h2]
theorem declBad5 {ds : List DeclL} {n k j : Nat} (hn : ds.length = n) (hj : j < (dAt ds k).cons.length) (h2 : conOk n (cAt (dAt ds k).cons j) = false) : declOk ds k = false := by
  unfold declOk
  rw [if_pos (by omega), hn, cAll_false hj h2]
  simp
theorem declBad6 {ds : List DeclL} {k j : Nat} (h : (dAt ds k).cons.length = 0) (hj : j < k) (h2 : sameArrow (dAt ds j) (dAt ds k) = true) : declOk ds k = false := by
  unfold declOk
  rw [if_neg (by omega), nAll_false hj (by simp [h2])]
  simp
theorem declGood1 {ds : List DeclL} {n k : Nat} (hn : ds.length = n) (h : 0 < (dAt ds k).cons.length) (h3 : (dAt ds k).cons.length ≤ 3) (h1 : (dAt ds k).from_ = 0) (h2 : (dAt ds k).to_ = 0)
    (hc : ∀ j, j < (dAt ds k).cons.length → conOk n (cAt (dAt ds k).cons j) = true) : declOk ds k = true := by
  unfold declOk
  rw [if_pos h, hn, cAll.2 hc]
  simp [h1, h2, h3]
theorem declGood2 {ds : List DeclL} {n k : Nat} (hn : ds.length = n) (h : (dAt ds k).cons.length = 0) (h1 : isT n (dAt ds k).from_ = true) (h2 : isT n (dAt ds k).to_ = true)
    (hc : ∀ j, j < k → sameArrow (dAt ds j) (dAt ds k) = false) : declOk ds k = true := by
  unfold declOk
  rw [if_neg (by omega), hn, h1, h2]
  simp only [Bool.true_and]
  exact nAll.2 fun j hj => by simp [hc j hj]

theorem box_keep {w w2 : World} {cs : Array Value} {T : TypeId} (h : Keep (w.alloc (.cells cs T)) w2) (i : Nat) : w2.cell? ⟨w.heap.size, i, none⟩ = cs[i]? := by
  rw [h.cell (p := ⟨w.heap.size, i, none⟩) (by simp) (fun h => h), cell_of_row _ w.heap.size i cs T (0, 0) (heap_alloc_new w _)]

set_option maxRecDepth 100000 in
set_option maxHeartbeats 2000000 in
theorem implValidTypes (a : Option Addr) (n c : Nat) (ds : List DeclL) (D : Nat → Prop) (w : World) (h : DeclsR w D a n ds) (hnc : n ≤ c) :
    Calls Tryz.prog 159 #[.slice a n c] w fun e w' => e = .returned (.bool (typesOk ds)) ∧ Keep w w' := by
  refine calls_k fun Q hQ => ?_
  have hlen := h.1
  by_cases h4 : n ≤ 4
  · have hfin : Hid (typesOk ds = (List.range n).all (declOk ds)) := by
      show _ = _
      simp [typesOk, hlen, h4]
    go_enter Tryz.func159, Tryz.ntmps159
    go_wp2
    go_loopw [14] (fun i wr => ∃ j : Nat, j ≤ n ∧ i = .int .i64 j ∧ Keep w wr ∧ Hid (∀ l, l < j → declOk ds l = true)) (fun i _ => n - (intOf i).toNat)
    case atStart => exact ⟨0, Nat.zero_le _, rfl, Ext.refl _ _, fun j hj => absurd hj (by omega)⟩
    case round =>
      obtain ⟨wo, rfl⟩ : ∃ wo : World, wo = wr := ⟨_, rfl⟩
      obtain ⟨k, hk, rfl, hK, H⟩ := hrel
      by_cases hlt : k < n
      · have h1 := h.ext hK (fun _ _ h => h)
        obtain ⟨_, hcell⟩ := h1
        obtain ⟨b, o, rfl, hd, hc⟩ := hcell (by omega)
        obtain ⟨c0, c1, a', m, c', c2, hmc, hcons⟩ := hc k hlt
        have HL := Lib.hid hlen
        have HM := Lib.hid hcons.1
        generalize hF : (dAt ds k).from_ = F at *
        generalize hT : (dAt ds k).to_ = T at *
        have HF := Lib.hid hF
        have HT := Lib.hid hT
        clear hF hT hlen
        have hKa : Keep wo (wo.alloc (.cells #[.int .i64 F, .int .i64 T, .slice a' m c'] 125)) := (Ext.refl _ wo).alloc _
        cases v1 : isT n F
        · have V1 := Lib.hid v1
          clear hc hcell hcons
          go_wp2_with (go_at_call 160; refine (implIsType_no _ _ _ _ _ V1.out).mono ?_; rintro e w1 ⟨rfl, rfl⟩)
          exact fin_ hQ ⟨ret_b (by rw [hfin.out, nAll_false hlt (declBad1 HL.out (by rw [HF.out]; exact V1.out))]), hK.trans hKa⟩
        cases v2 : isT n T
        · have V1 := Lib.hid v1
          have V2 := Lib.hid v2
          clear hc hcell hcons v1 v2
          go_wp2_with fail
          refine (implIsType_yes _ _ _ _ _ V1.out).mono ?_
          rintro e w1 ⟨rfl, rfl⟩
          go_wp2_with fail
          refine (implIsType_no _ _ _ _ _ V2.out).mono ?_
          rintro e w1 ⟨rfl, rfl⟩
          go_wp2_with fail
          exact fin_ hQ ⟨ret_b (by rw [hfin.out, nAll_false hlt (declBad2 HL.out (by rw [HT.out]; exact V2.out))]), hK.trans hKa⟩
        have V1 := Lib.hid v1
        have V2 := Lib.hid v2
        have HC := Lib.hid hc
        have HCO := Lib.hid hcons
        clear v1 v2 hc hcell hcons
        by_cases hm3 : m ≤ 3
        · by_cases hm0 : m = 0
          · subst hm0
            go_wp2_with fail
            refine (implIsType_yes _ _ _ _ _ V1.out).mono ?_
            rintro e w1 ⟨rfl, rfl⟩
            go_wp2_with fail
            refine (implIsType_yes _ _ _ _ _ V2.out).mono ?_
            rintro e w1 ⟨rfl, rfl⟩
            go_wp2_with fail
            refine wp_loop_once ?_
            go_wp2_with fail
            go_loopw [76] (fun i w2 => ∃ j : Nat, j ≤ k ∧ i = .int .i64 j ∧ Keep (wo.alloc (.cells #[.int .i64 F, .int .i64 T, .slice a' 0 c'] 125)) w2 ∧ Hid (∀ l, l < j → sameArrow (dAt ds l) (dAt ds k) = false)) (fun i _ => k - (intOf i).toNat)
            case atStart => exact ⟨0, Nat.zero_le _, rfl, Ext.refl _ _, fun j hj => absurd hj (by omega)⟩
            case round =>
              obtain ⟨w2, rfl⟩ : ∃ w2 : World, w2 = wr := ⟨_, rfl⟩
              obtain ⟨j, hj, rfl, hK2, H2⟩ := hrel
              by_cases hltj : j < k
              · have hK3 : Keep wo w2 := hKa.trans hK2
                obtain ⟨e0, e1, a2, m2, c2', e2, _, e3⟩ := HC.out j (by omega)
                have x0 := (hK3.cell (World.block_lt_of_cell? _ _ e0) (fun h => h)).trans e0
                have x1 := (hK3.cell (World.block_lt_of_cell? _ _ e1) (fun h => h)).trans e1
                have x2 := (hK3.cell (World.block_lt_of_cell? _ _ e2) (fun h => h)).trans e2
                have y0 := box_keep hK2 0
                have y1 := box_keep hK2 1
                have y2 := box_keep hK2 2
                have y0' : w2.cell? ⟨wo.heap.size, 0, none⟩ = some (.int .i64 F) := y0
                have y1' : w2.cell? ⟨wo.heap.size, 1, none⟩ = some (.int .i64 T) := y1
                have y2' : w2.cell? ⟨wo.heap.size, 2, none⟩ = some (.slice a' 0 c') := y2
                have E3 := Lib.hid e3.1
                have hlt2 : wo.heap.size < w2.heap.size := by have := hK2.size; simp at this; omega
                clear e0 e1 e2 e3 y0 y1 y2 c0 c1 c2
                by_cases g0 : m2 = 0
                · subst g0
                  cases g1 : ((dAt ds j).from_ == F)
                  · have hs : Hid (sameArrow (dAt ds j) (dAt ds k) = false) := by
                      show _ = _
                      simp only [sameArrow, HF.out]
                      simp only [beq_eq_false_iff_ne] at g1
                      simp [g1]
                    go_wp2
                    go_roundw
                    case rel => exact ⟨j + 1, by omega, by go_num, hK2.trans ((Ext.refl _ _).alloc _), fun l hl => by
                      rcases Nat.lt_succ_iff_lt_or_eq.1 hl with h | rfl
                      · exact H2.out l h
                      · exact hs.out⟩
                    case measure => simp [intOf]; omega
                  · cases g2 : ((dAt ds j).to_ == T)
                    · have hs : Hid (sameArrow (dAt ds j) (dAt ds k) = false) := by
                        show _ = _
                        simp only [sameArrow, HT.out]
                        simp only [beq_eq_false_iff_ne] at g2
                        simp [g2]
                      go_wp2
                      go_roundw
                      case rel => exact ⟨j + 1, by omega, by go_num, hK2.trans ((Ext.refl _ _).alloc _), fun l hl => by
                        rcases Nat.lt_succ_iff_lt_or_eq.1 hl with h | rfl
                        · exact H2.out l h
                        · exact hs.out⟩
                      case measure => simp [intOf]; omega
                    · have hs : Hid (sameArrow (dAt ds j) (dAt ds k) = true) := by
                        show _ = _
                        simp only [sameArrow, HF.out, HT.out]
                        simp only [beq_iff_eq] at g1 g2
                        simp [g1, g2]
                        exact List.eq_nil_of_length_eq_zero E3.out
                      go_wp2
                      exact fin_ hQ ⟨ret_b (by rw [hfin.out, nAll_false hlt (declBad6 HM.out hltj hs.out)]), hK.trans (hK3.trans ((Ext.refl _ _).alloc _))⟩
                · have g0' : ((m2 : Int) == 0) = false := by simp; omega
                  have hs : Hid (sameArrow (dAt ds j) (dAt ds k) = false) := by
                    show _ = _
                    simp only [sameArrow, E3.out]
                    simp [g0]
                  go_wp2
                  go_roundw
                  case rel => exact ⟨j + 1, by omega, by go_num, hK2.trans ((Ext.refl _ _).alloc _), fun l hl => by
                    rcases Nat.lt_succ_iff_lt_or_eq.1 hl with h | rfl
                    · exact H2.out l h
                    · exact hs.out⟩
                  case measure => simp [intOf]; omega
              · go_wp2
                go_roundw
                case rel => exact ⟨k + 1, by omega, by go_num, hK.trans (hKa.trans hK2), fun l hl => by
                  rcases Nat.lt_succ_iff_lt_or_eq.1 hl with h | rfl
                  · exact H.out l h
                  · exact declGood2 HL.out HM.out (by rw [HF.out]; exact V1.out) (by rw [HT.out]; exact V2.out) (fun i hi => H2.out i (by omega))⟩
                case measure => simp [intOf]; omega
          · by_cases hz : F = 0 ∧ T = 0
            · obtain ⟨rfl, rfl⟩ := hz
              go_wp2_with fail
              refine (implIsType_yes _ _ _ _ _ V1.out).mono ?_
              rintro e w1 ⟨rfl, rfl⟩
              go_wp2_with fail
              refine (implIsType_yes _ _ _ _ _ V2.out).mono ?_
              rintro e w1 ⟨rfl, rfl⟩
              go_wp2_with fail
              go_loopw [56] (fun i w2 => ∃ j : Nat, j ≤ m ∧ i = .int .i64 j ∧ Keep (wo.alloc (.cells #[.int .i64 0, .int .i64 0, .slice a' m c'] 125)) w2 ∧ Hid (∀ l, l < j → conOk n (cAt (dAt ds k).cons l) = true)) (fun i _ => m - (intOf i).toNat)
              case atStart => exact ⟨0, Nat.zero_le _, rfl, Ext.refl _ _, fun j hj => absurd hj (by omega)⟩
              case round =>
                obtain ⟨w2, rfl⟩ : ∃ w2 : World, w2 = wr := ⟨_, rfl⟩
                obtain ⟨j, hj, rfl, hK2, H2⟩ := hrel
                have hK3 : Keep wo w2 := hKa.trans hK2
                have hlt2 : wo.heap.size < w2.heap.size := by have := hK2.size; simp at this; omega
                by_cases hltj : j < m
                · have hco := HCO.out.ext hK3 (fun _ _ h => h)
                  obtain ⟨b1, o1, rfl, hd1, hc1⟩ := hco.2 (by omega)
                  obtain ⟨a2, m2, c2', x0, hmc2, hints⟩ := hc1 j hltj
                  have hints1 := hints.ext ((Ext.refl (fun _ => False) w2).alloc (.cells #[.slice a2 m2 c2'] 155)) (fun _ _ h => h)
                  have HL2 := Lib.hid hints.1
                  clear hc1 hco hints c0 c1 c2
                  by_cases g1 : m2 ≤ 3
                  · cases hv : allT n (cAt (dAt ds k).cons j)
                    · have V := Lib.hid hv
                      clear hv
                      go_wp2_with fail
                      refine (implAllTypes _ _ _ _ _ _ _ _ _ hints1 (by omega)).mono ?_
                      rw [V.out]
                      rintro e w1 ⟨rfl, rfl⟩
                      go_wp2_with fail
                      exact fin_ hQ ⟨ret_b (by rw [hfin.out, nAll_false hlt (declBad5 HL.out (j := j) (by have := HM.out; omega) (by simp [conOk, V.out]))]), hK.trans (hK3.trans ((Ext.refl _ _).alloc _))⟩
                    · have V := Lib.hid hv
                      clear hv
                      go_wp2_with fail
                      refine (implAllTypes _ _ _ _ _ _ _ _ _ hints1 (by omega)).mono ?_
                      rw [V.out]
                      rintro e w1 ⟨rfl, rfl⟩
                      go_wp2_with fail
                      go_roundw
                      case rel => exact ⟨j + 1, by omega, by go_num, hK2.trans ((Ext.refl _ _).alloc _), fun l hl => by
                        rcases Nat.lt_succ_iff_lt_or_eq.1 hl with h | rfl
                        · exact H2.out l h
                        · exact conOk_iff.2 ⟨by have := HL2.out; omega, V.out⟩⟩
                      case measure => simp [intOf]; omega
                  · go_wp2_with fail
                    exact fin_ hQ ⟨ret_b (by rw [hfin.out, nAll_false hlt (declBad5 HL.out (j := j) (by have := HM.out; omega) (by have := HL2.out; simp [conOk]; omega))]), hK.trans (hK3.trans ((Ext.refl _ _).alloc _))⟩
                · have hm0' : ((m : Int) == 0) = false := by simp; omega
                  have y2 : w2.cell? ⟨wo.heap.size, 2, none⟩ = some (.slice a' m c') := box_keep hK2 2
                  clear c0 c1 c2
                  go_wp2_with fail
                  go_loopw [76] (fun i w3 => ∃ l : Nat, l ≤ k ∧ i = .int .i64 l ∧ Keep w2 w3) (fun i _ => k - (intOf i).toNat)
                  case atStart => exact ⟨0, Nat.zero_le _, rfl, Ext.refl _ _⟩
                  case round =>
                    obtain ⟨w3, rfl⟩ : ∃ w3 : World, w3 = wr := ⟨_, rfl⟩
                    obtain ⟨l, hl, rfl, hK4⟩ := hrel
                    have z2 := (hK4.cell (p := ⟨wo.heap.size, 2, none⟩) hlt2 (fun h => h)).trans y2
                    have hlt3 : wo.heap.size < w3.heap.size := by have := hK4.size; omega
                    clear y2
                    by_cases hltl : l < k
                    · obtain ⟨e0, e1, a2, m2, c2', e2, _, e3⟩ := HC.out l (by omega)
                      have hK5 : Keep wo w3 := hK3.trans hK4
                      have x0 := (hK5.cell (World.block_lt_of_cell? _ _ e0) (fun h => h)).trans e0
                      have x1 := (hK5.cell (World.block_lt_of_cell? _ _ e1) (fun h => h)).trans e1
                      have x2 := (hK5.cell (World.block_lt_of_cell? _ _ e2) (fun h => h)).trans e2
                      clear e0 e1 e2 e3
                      go_wp2_with fail
                      go_roundw
                      case rel => exact ⟨l + 1, by omega, by go_num, hK4.trans ((Ext.refl _ _).alloc _)⟩
                      case measure => simp [intOf]; omega
                    · go_wp2_with fail
                      go_roundw
                      case rel => exact ⟨k + 1, by omega, by go_num, hK.trans (hK3.trans hK4), fun l hl => by
                        rcases Nat.lt_succ_iff_lt_or_eq.1 hl with h | rfl
                        · exact H.out l h
                        · exact declGood1 HL.out (by have := HM.out; omega) (by have := HM.out; omega) HF.out HT.out (fun i hi => H2.out i (by have := HM.out; omega))⟩
                      case measure => simp [intOf]; omega
            · have hz' : F ≠ 0 ∨ T ≠ 0 := by
                by_cases h0 : F = 0
                · exact .inr fun h1 => hz ⟨h0, h1⟩
                · exact .inl h0
              have hb := Lib.hid (declBad4 (ds := ds) (k := k) (by have := HM.out; omega) (by rw [HF.out, HT.out]; exact hz'))
              clear hz
              cases g0 : (F != 0)
              · have g1 : (T != 0) = true := by
                  simp only [bne_eq_false_iff_eq] at g0
                  rcases hz' with h | h
                  · exact absurd g0 h
                  · simpa using h
                clear hz'
                go_wp2_with fail
                refine (implIsType_yes _ _ _ _ _ V1.out).mono ?_
                rintro e w1 ⟨rfl, rfl⟩
                go_wp2_with fail
                refine (implIsType_yes _ _ _ _ _ V2.out).mono ?_
                rintro e w1 ⟨rfl, rfl⟩
                go_wp2_with fail
                exact fin_ hQ ⟨ret_b (by rw [hfin.out, nAll_false hlt hb.out]), hK.trans hKa⟩
              · clear hz'
                go_wp2_with fail
                refine (implIsType_yes _ _ _ _ _ V1.out).mono ?_
                rintro e w1 ⟨rfl, rfl⟩
                go_wp2_with fail
                refine (implIsType_yes _ _ _ _ _ V2.out).mono ?_
                rintro e w1 ⟨rfl, rfl⟩
                go_wp2_with fail
                exact fin_ hQ ⟨ret_b (by rw [hfin.out, nAll_false hlt hb.out]), hK.trans hKa⟩
        · go_wp2_with fail
          refine (implIsType_yes _ _ _ _ _ V1.out).mono ?_
          rintro e w1 ⟨rfl, rfl⟩
          go_wp2_with fail
          refine (implIsType_yes _ _ _ _ _ V2.out).mono ?_
          rintro e w1 ⟨rfl, rfl⟩
          go_wp2_with fail
          exact fin_ hQ ⟨ret_b (by rw [hfin.out, nAll_false hlt (declBad3 (by have := HM.out; omega))]), hK.trans hKa⟩
      · go_wp2
        exact fin_ hQ ⟨ret_b (by rw [hfin.out]; exact (nAll.2 (fun l hl => H.out l (by omega))).symm), hK⟩
  · have hfin : Hid (typesOk ds = false) := by
      show _ = _
      simp [typesOk, hlen, h4]
    go_enter Tryz.func159, Tryz.ntmps159
    go_wp2
    exact fin_ hQ ⟨ret_b hfin.out.symm, Ext.refl _ _⟩
end Go.Proofs.YtkapldpmjkdmcaaGreat
/- Signatures: valid or not, by the reference and by the program. -/
namespace Go.Proofs.YtkapldpmjkdmcaaGreat
open Go.RowKit

def lentAt (s : SigL) (k : Nat) : Bool := decide (0 ≤ iAt s.lent k) && decide (iAt s.lent k < (s.params.length : Int)) && decide (iAt s.params (iAt s.lent k).toNat ≠ 0) && (decide (k = 0) || decide (iAt s.lent (k - 1) < iAt s.lent k))
def lentOk (s : SigL) : Bool := (List.range s.lent.length).all (lentAt s)
def sigOk (n : Nat) (s : SigL) : Bool := decide (s.params.length ≤ 3) && allT n s.params && isT n s.result && lentOk s
/-- Declarations and signatures are valid. -/
def sigsOk (ds : List DeclL) (sg : List SigL) : Bool :=
  typesOk ds && decide (1 ≤ sg.length) && decide (sg.length ≤ 4) && decide ((sgAt sg 0).params.length = 0) && decide ((sgAt sg 0).result = 0) && (List.range sg.length).all (fun i => sigOk ds.length (sgAt sg i))
def sigF (f : FuncL) : SigL := ⟨f.params, [], f.result⟩
theorem sgAt_sigF (fs : List FuncL) {i : Nat} (h : i < fs.length) : sgAt (fs.map sigF) i = sigF (fAt fs i) := by
  rw [sgAt_get (by simpa using h), fAt_get h]; simp

theorem sigsOk_types {ds sg} (h : typesOk ds = false) : sigsOk ds sg = false := by simp [sigsOk, h]
theorem sigsOk_len {ds} {sg : List SigL} (h : sg.length < 1 ∨ 4 < sg.length) : sigsOk ds sg = false := by
  rcases h with h | h
  · have e : decide (1 ≤ sg.length) = false := decide_eq_false (by omega)
    simp only [sigsOk, e, Bool.and_false, Bool.false_and]
  · have e : decide (sg.length ≤ 4) = false := decide_eq_false (by omega)
    simp only [sigsOk, e, Bool.and_false, Bool.false_and]
theorem sigsOk_first {ds} {sg : List SigL} (h : ¬ ((sgAt sg 0).params.length = 0 ∧ (sgAt sg 0).result = 0)) : sigsOk ds sg = false := by
  by_cases h1 : (sgAt sg 0).params.length = 0
  · have e : decide ((sgAt sg 0).result = 0) = false := decide_eq_false (fun h2 => h ⟨h1, h2⟩)
    simp only [sigsOk, e, Bool.and_false, Bool.false_and]
  · have e : decide ((sgAt sg 0).params.length = 0) = false := decide_eq_false h1
    simp only [sigsOk, e, Bool.and_false, Bool.false_and]
theorem sigsOk_at {ds} {sg : List SigL} {n i : Nat} (hn : ds.length = n) (hi : i < sg.length) (h : sigOk n (sgAt sg i) = false) : sigsOk ds sg = false := by
  subst hn
  have e : (List.range sg.length).all (fun i => sigOk ds.length (sgAt sg i)) = false := nAll_false hi h
  simp only [sigsOk, e, Bool.and_false]
theorem sigsOk_yes {ds} {sg : List SigL} {n : Nat} (hn : ds.length = n) (h1 : typesOk ds = true) (h2 : 1 ≤ sg.length) (h3 : sg.length ≤ 4) (h4 : (sgAt sg 0).params.length = 0) (h5 : (sgAt sg 0).result = 0)
    (h : ∀ i, i < sg.length → sigOk n (sgAt sg i) = true) : sigsOk ds sg = true := by
  subst hn
  have e : (List.range sg.length).all (fun i => sigOk ds.length (sgAt sg i)) = true := nAll.2 h
  simp only [sigsOk, e, h1, h2, h3, h4, h5, decide_true, Bool.and_self]
theorem sigOk_len {n : Nat} {s : SigL} (h : 3 < s.params.length) : sigOk n s = false := by
  have e : decide (s.params.length ≤ 3) = false := decide_eq_false (by omega)
  simp only [sigOk, e, Bool.false_and]
theorem sigOk_params {n : Nat} {s : SigL} (h : allT n s.params = false) : sigOk n s = false := by simp only [sigOk, h, Bool.and_false, Bool.false_and]
theorem sigOk_result {n : Nat} {s : SigL} (h : isT n s.result = false) : sigOk n s = false := by simp only [sigOk, h, Bool.and_false, Bool.false_and]
theorem sigOk_lent {n : Nat} {s : SigL} {k : Nat} (hk : k < s.lent.length) (h : lentAt s k = false) : sigOk n s = false := by
  have e : lentOk s = false := nAll_false hk h
  simp only [sigOk, e, Bool.and_false]
theorem sigOk_yes {n : Nat} {s : SigL} (h1 : s.params.length ≤ 3) (h2 : allT n s.params = true) (h3 : isT n s.result = true) (h4 : ∀ k, k < s.lent.length → lentAt s k = true) : sigOk n s = true := by
  have e : lentOk s = true := nAll.2 h4
  simp only [sigOk, e, h1, h2, h3, decide_true, Bool.and_self]
theorem sigF_lent {f : FuncL} : (sigF f).lent.length = 0 := rfl

theorem specValidTypesR (a : Option Addr) (n c : Nat) (ds : List DeclL) (D : Nat → Prop) (w : World) (h : Rd w D (encDecls ds) (.slice a n c)) :
    Calls Tryz.prog 142 #[.slice a n c] w fun e w' => e = .returned (.bool (typesOk ds)) ∧ Keep w w' := by
  by_cases h4 : n ≤ 4
  · exact specValidTypes0 a n c ds D w h.toDecls (by omega)
  refine calls_k fun Q hQ => ?_
  have hlen := h.toDecls.1
  have hfin : Hid (typesOk ds = false) := by
    show _ = _
    simp [typesOk, hlen, h4]
  go_enter Tryz.func142, Tryz.ntmps142
  go_wp2
  exact fin_ hQ ⟨ret_b hfin.out.symm, Ext.refl _ _⟩

set_option maxRecDepth 100000 in
set_option maxHeartbeats 2000000 in
theorem specValidSigs0 (ds : List DeclL) (fs : List FuncL) (a0 : Option Addr) (n0 c0 : Nat) (a1 : Option Addr) (n1 c1 : Nat) (D0 D1 : Nat → Prop) (w : World) (r0 : Rd w D0 (encDecls ds) (.slice a0 n0 c0)) (r1 : Rd w D1 (encFuncs fs) (.slice a1 n1 c1)) :
    Calls Tryz.prog 97 #[.agg #[.slice a0 n0 c0, .slice a1 n1 c1]] w fun e w' => e = .returned (.bool (sigsOk ds (fs.map sigF))) ∧ Keep w w' := by
  refine calls_k fun Q hQ => ?_
  have K0 := Keep.al w (.cells #[.slice a0 n0 c0, .slice a1 n1 c1] 44)
  have hd0 := Lib.hid (r0.toDecls.1)
  obtain ⟨e1, hnc, hm, hat⟩ := funcs_at r1
  have HL := Lib.hid e1
  have HA := Lib.hid hat
  have HLM : Hid ((fs.map sigF).length = n1) := by show _ = _; simp [e1]
  clear e1 hat
  cases v1 : typesOk ds
  · have V := Lib.hid (sigsOk_types (sg := fs.map sigF) v1)
    have V1 := Lib.hid v1
    clear v1
    go_enter Tryz.func97, Tryz.ntmps97
    go_wp2_with fail
    refine (specValidTypesR _ _ _ _ _ _ (r0.k K0)).mono ?_
    rw [V1.out]
    rintro e w1 ⟨rfl, p1⟩
    go_wp2_with fail
    exact fin_ hQ ⟨ret_b V.out.symm, K0.trans p1⟩
  have V1 := Lib.hid v1
  clear v1
  by_cases hl : 1 ≤ n1 ∧ n1 ≤ 4
  case neg =>
    have V := Lib.hid (sigsOk_len (ds := ds) (sg := fs.map sigF) (by have := HLM.out; omega))
    have V2 : Hid (decide ((1 : Int) ≤ (n1 : Int) ∧ (n1 : Int) ≤ 4) = false) := decide_eq_false (by omega)
    clear hl
    go_enter Tryz.func97, Tryz.ntmps97
    go_wp2_with fail
    refine (specValidTypesR _ _ _ _ _ _ (r0.k K0)).mono ?_
    rw [V1.out]
    rintro e w1 ⟨rfl, p1⟩
    have x1 := boxk p1 1
    simp at x1
    go_wp2_with fail
    refine (specInRange _ _ _ _).mono ?_
    rw [V2.out]
    rintro e w2 ⟨rfl, rfl⟩
    go_wp2_with fail
    exact fin_ hQ ⟨ret_b V.out.symm, K0.trans p1⟩
  obtain ⟨hl1, hl4⟩ := hl
  have V2 : Hid (decide ((1 : Int) ≤ (n1 : Int) ∧ (n1 : Int) ≤ 4) = true) := decide_eq_true (by omega)
  go_enter Tryz.func97, Tryz.ntmps97
  go_wp2_with fail
  refine (specValidTypesR _ _ _ _ _ _ (r0.k K0)).mono ?_
  rw [V1.out]
  rintro e w1 ⟨rfl, p1⟩
  have x1 := boxk p1 1
  simp at x1
  go_wp2_with fail
  refine (specInRange _ _ _ _).mono ?_
  rw [V2.out]
  rintro e w2 ⟨rfl, rfl⟩
  go_wp2_with fail
  clear x1
  go_loopw [3] (fun iv wr => ∃ j : Nat, j ≤ n1 ∧ iv = .int .i64 j ∧ Hid (∀ l, l < j → sigOk n0 (sgAt (fs.map sigF) l) = true) ∧ Keep (w.alloc (.cells #[.slice a0 n0 c0, .slice a1 n1 c1] 44)) wr) (fun i _ => n1 - (intOf i).toNat)
  case atStart => exact ⟨0, Nat.zero_le _, rfl, fun j hj => absurd hj (by omega), p1⟩
  case round =>
    obtain ⟨wo, rfl⟩ : ∃ wo : World, wo = wr := ⟨_, rfl⟩
    obtain ⟨j, hj, rfl, H, hK⟩ := hrel
    have x0 := boxk hK 0
    have x1 := boxk hK 1
    simp at x0 x1
    by_cases hlt : j < n1
    · obtain ⟨b, o, rfl, hd, a3, n3, c3, a4, n4, c4, d0, d1, d2, d3, d4, r3, r4⟩ := HA.out j hlt
      have hKw := K0.trans hK
      have g0 := (hKw.cell (World.block_lt_of_cell? w _ d0) (fun h => h)).trans d0
      have g1 := (hKw.cell (World.block_lt_of_cell? w _ d1) (fun h => h)).trans d1
      have g2 := (hKw.cell (World.block_lt_of_cell? w _ d2) (fun h => h)).trans d2
      have g3 := (hKw.cell (World.block_lt_of_cell? w _ d3) (fun h => h)).trans d3
      have g4 := (hKw.cell (World.block_lt_of_cell? w _ d4) (fun h => h)).trans d4
      have hP := Lib.hid r3.toInts.1
      have HG := Lib.hid (sgAt_sigF fs (i := j) (by have := HL.out; omega))
      have ka := Keep.al wo (.cells #[.slice a3 n3 c3, .int .i64 (fAt fs j).result, .int .i64 (fAt fs j).body.op, .int .i64 (fAt fs j).body.num, .slice a4 n4 c4] 60)
      have q3 := Lib.hid (((r3.k hKw).k ka).toInts)
      have hKa := Lib.hid (hKw.trans ka)
      have hKb := Lib.hid (hK.trans ka)
      have z0 := boxk hKb.out 0
      simp only [List.getElem?_toArray, List.getElem?_cons_zero] at z0
      clear d0 d1 d2 d3 d4 r3 r4 ka
      by_cases h3 : n3 ≤ 3
      case neg =>
        have V := Lib.hid (sigsOk_at (ds := ds) hd0.out (by have := HLM.out; omega) (show sigOk n0 (sgAt (fs.map sigF) j) = false from by rw [HG.out]; exact sigOk_len (by have := hP.out; show 3 < (fAt fs j).params.length; omega)))
        go_wp2_with fail
        exact fin_ hQ ⟨ret_b V.out.symm, hKa.out⟩
      cases v3 : allT n0 (fAt fs j).params
      · have V := Lib.hid (sigsOk_at (ds := ds) hd0.out (by have := HLM.out; omega) (show sigOk n0 (sgAt (fs.map sigF) j) = false from by rw [HG.out]; exact sigOk_params v3))
        have V3 := Lib.hid v3
        clear v3
        go_wp2_with fail
        refine (specAllTypes _ _ _ _ _ _ _ _ _ q3.out (by omega)).mono ?_
        rw [V3.out]
        rintro e w2 ⟨rfl, rfl⟩
        go_wp2_with fail
        exact fin_ hQ ⟨ret_b V.out.symm, hKa.out⟩
      have V3 := Lib.hid v3
      clear v3
      cases v4 : isT n0 (fAt fs j).result
      · have V := Lib.hid (sigsOk_at (ds := ds) hd0.out (by have := HLM.out; omega) (show sigOk n0 (sgAt (fs.map sigF) j) = false from by rw [HG.out]; exact sigOk_result v4))
        have V4 : Hid (decide (0 ≤ (fAt fs j).result ∧ (fAt fs j).result ≤ (n0 : Int)) = false) := v4
        clear v4
        go_wp2_with fail
        refine (specAllTypes _ _ _ _ _ _ _ _ _ q3.out (by omega)).mono ?_
        rw [V3.out]
        rintro e w2 ⟨rfl, rfl⟩
        go_wp2_with fail
        refine (specInRange _ _ _ _).mono ?_
        rw [V4.out]
        rintro e w2 ⟨rfl, rfl⟩
        go_wp2_with fail
        exact fin_ hQ ⟨ret_b V.out.symm, hKa.out⟩
      have V5 := Lib.hid v4
      have V4 : Hid (decide (0 ≤ (fAt fs j).result ∧ (fAt fs j).result ≤ (n0 : Int)) = true) := v4
      clear v4
      go_wp2_with fail
      refine (specAllTypes _ _ _ _ _ _ _ _ _ q3.out (by omega)).mono ?_
      rw [V3.out]
      rintro e w2 ⟨rfl, rfl⟩
      go_wp2_with fail
      refine (specInRange _ _ _ _).mono ?_
      rw [V4.out]
      rintro e w2 ⟨rfl, rfl⟩
      go_wp2_with fail
      go_roundw
      case rel => exact ⟨j + 1, by omega, by go_num, fun l hl => by
        rcases Nat.lt_succ_iff_lt_or_eq.1 hl with h | rfl
        · exact H.out l h
        · rw [HG.out]; exact sigOk_yes (by have := hP.out; show (fAt fs l).params.length ≤ 3; omega) V3.out V5.out (fun k hk => absurd hk (by rw [sigF_lent]; omega)), hKb.out⟩
      case measure => simp [intOf]; omega
    · obtain ⟨b, o, rfl, hd, a3, n3, c3, a4, n4, c4, d0, d1, d2, d3, d4, r3, r4⟩ := HA.out 0 (by omega)
      have hKw := K0.trans hK
      have g0 := (hKw.cell (World.block_lt_of_cell? w _ d0) (fun h => h)).trans d0
      have g1 := (hKw.cell (World.block_lt_of_cell? w _ d1) (fun h => h)).trans d1
      rw [Nat.zero_mul, Nat.add_zero] at g0 g1
      have hP := r3.toInts.1
      have HG := sgAt_sigF fs (i := 0) (by have := HL.out; omega)
      have HJ : j = n1 := by omega
      clear d0 d1 d2 d3 d4 r3 r4
      by_cases h0 : n3 = 0
      · by_cases h5 : (fAt fs 0).result = 0
        · have V := Lib.hid (sigsOk_yes (n := n0) hd0.out V1.out (by have := HLM.out; omega) (by have := HLM.out; omega) (by rw [HG]; show (fAt fs 0).params.length = 0; omega) (by rw [HG]; exact h5) (fun i hi => H.out i (by have := HLM.out; omega)))
          clear hP HG HJ
          subst h0
          rw [h5] at g1
          go_wp2_with fail
          exact fin_ hQ ⟨ret_b (by rw [V.out]), hKw⟩
        · have V := Lib.hid (sigsOk_first (ds := ds) (sg := fs.map sigF) (fun h => h5 (by have := h.2; rw [HG] at this; exact this)))
          have h5' : ((fAt fs 0).result == 0) = false := by simpa using h5
          clear hP HG HJ h5
          subst h0
          go_wp2_with fail
          exact fin_ hQ ⟨ret_b (by rw [V.out]), hKw⟩
      · have V := Lib.hid (sigsOk_first (ds := ds) (sg := fs.map sigF) (fun h => h0 (by have := h.1; rw [HG] at this; have e : (fAt fs 0).params.length = 0 := this; omega)))
        have h0' : ((n3 : Int) == 0) = false := by simp; omega
        clear hP HG HJ h0
        go_wp2_with fail
        exact fin_ hQ ⟨ret_b (by rw [V.out]), hKw⟩
end Go.Proofs.YtkapldpmjkdmcaaGreat
/- Expressions in plain Lean: nodes, mentions. -/
namespace Go.Proofs.YtkapldpmjkdmcaaGreat

mutual
/-- The number of nodes. -/
def nE : ExprL → Nat
  | .mk _ _ ks => nEs ks + 1
def nEs : List ExprL → Nat
  | [] => 0
  | k :: ks => nE k + nEs ks
end
theorem nE_eq (e : ExprL) : nE e = nEs e.kids + 1 := by cases e; rfl
theorem nE_pos (e : ExprL) : 1 ≤ nE e := by rw [nE_eq]; omega
theorem nEs_append (a b : List ExprL) : nEs (a ++ b) = nEs a + nEs b := by induction a <;> simp_all [nEs, Nat.add_assoc]
theorem take_succ_eAt (es : List ExprL) {j : Nat} (h : j < es.length) : es.take (j + 1) = es.take j ++ [eAt es j] := by rw [List.take_succ_eq_append_getElem h, eAt_get h]
theorem nEs_take (es : List ExprL) {j : Nat} (h : j < es.length) : nEs (es.take (j + 1)) = nEs (es.take j) + nE (eAt es j) := by rw [take_succ_eAt es h, nEs_append]; simp [nEs]
theorem nEs_take_le (es : List ExprL) (j : Nat) : nEs (es.take j) ≤ nEs es := by
  rw [← List.take_append_drop j es, nEs_append]; simp
theorem nE_le (es : List ExprL) {j : Nat} (h : j < es.length) : nE (eAt es j) ≤ nEs es := by
  have h1 := nEs_take es h
  have h2 := nEs_take_le es (j + 1)
  omega
theorem nEs_len (es : List ExprL) : es.length ≤ nEs es := by
  induction es with
  | nil => simp
  | cons e es ih => have := nE_pos e; simp only [List.length_cons, nEs]; omega

mutual
/-- How often a variable is mentioned. -/
def mE (v : Int) : ExprL → Nat
  | .mk op num ks => (if op = 12 ∧ num = v then 1 else 0) + mEs v ks
def mEs (v : Int) : List ExprL → Nat
  | [] => 0
  | k :: ks => mE v k + mEs v ks
end
mutual
theorem mE_le (v : Int) : ∀ e : ExprL, mE v e ≤ nE e
  | .mk op num ks => by
    have := mEs_le v ks
    rw [mE, nE]
    split <;> omega
theorem mEs_le (v : Int) : ∀ es : List ExprL, mEs v es ≤ nEs es
  | [] => Nat.le_refl _
  | k :: ks => by
    have := mE_le v k
    have := mEs_le v ks
    rw [mEs, nEs]
    omega
end
end Go.Proofs.YtkapldpmjkdmcaaGreat
/- Numbers of constructors, the place of a constructor, the arrow type between two types: in plain Lean. -/
namespace Go.Proofs.YtkapldpmjkdmcaaGreat

/-- The declarations are few, and so are their constructors. -/
def Few (ds : List DeclL) : Prop := ds.length ≤ 4 ∧ ∀ i, i < ds.length → (dAt ds i).cons.length ≤ 3

def firstN (ds : List DeclL) : Nat → Nat
  | 0 => 0
  | k + 1 => firstN ds k + (dAt ds k).cons.length
def conN (ds : List DeclL) : Nat := firstN ds ds.length

theorem declOk_few {ds : List DeclL} {k : Nat} (h : declOk ds k = true) : (dAt ds k).cons.length ≤ 3 := by
  unfold declOk at h
  split at h
  · simp at h; omega
  · omega
theorem Few.of_ok {ds : List DeclL} (h : typesOk ds = true) : Few ds := by
  simp only [typesOk, Bool.and_eq_true, decide_eq_true_eq] at h
  exact ⟨h.1, fun i hi => declOk_few (nAll.1 h.2 i hi)⟩
theorem firstN_le {ds : List DeclL} (h : Few ds) {k : Nat} (hk : k ≤ ds.length) : firstN ds k ≤ 3 * k := by
  induction k with
  | zero => simp [firstN]
  | succ k ih => have := h.2 k (by omega); have := ih (by omega); simp only [firstN]; omega
/-- The first of the numbers below n that is right. -/
def firstIx (n : Nat) (p : Nat → Bool) : Option Nat := (List.range n).find? p
theorem firstIx_some {n i : Nat} {p : Nat → Bool} (hi : i < n) (hp : p i = true) (hb : ∀ j, j < i → p j = false) : firstIx n p = some i := by
  unfold firstIx
  rw [List.find?_range_eq_some]
  exact ⟨hp, by simpa using hi, fun j hj => by simp [hb j hj]⟩
theorem firstIx_none {n : Nat} {p : Nat → Bool} (hb : ∀ j, j < n → p j = false) : firstIx n p = none := by
  unfold firstIx
  rw [List.find?_eq_none]
  intro j hj
  simp at hj
  simp [hb j hj]
theorem firstIx_spec {n i : Nat} {p : Nat → Bool} (h : firstIx n p = some i) : i < n ∧ p i = true ∧ ∀ j, j < i → p j = false := by
  unfold firstIx at h
  rw [List.find?_range_eq_some] at h
  exact ⟨by simpa using h.2.1, h.1, fun j hj => by simpa using h.2.2 j hj⟩
/-- A type plus 1, or -1. -/
def typeOr : Option Nat → Int
  | some i => (i : Int) + 1
  | none => -1
def inDecl (ds : List DeclL) (c : Int) (i : Nat) : Bool := decide ((firstN ds i : Int) ≤ c ∧ c < (firstN ds (i + 1) : Int))
def conIx (ds : List DeclL) (c : Int) : Option Nat := firstIx ds.length (inDecl ds c)
def conTypeL (ds : List DeclL) (c : Int) : Int := typeOr (conIx ds c)
/-- The fields of a constructor; none if there is no such constructor. -/
def conFieldsL (ds : List DeclL) (c : Int) : List Int :=
  match conIx ds c with
  | some i => cAt (dAt ds i).cons (c.toNat - firstN ds i)
  | none => []
def isArrow (ds : List DeclL) (f t : Int) (i : Nat) : Bool := decide ((dAt ds i).cons.length = 0) && ((dAt ds i).from_ == f) && ((dAt ds i).to_ == t)
def arrowL (ds : List DeclL) (f t : Int) : Int := typeOr (firstIx ds.length (isArrow ds f t))
/-- The numbers of the constructors of a type. -/
def consL (ds : List DeclL) (t : Int) : List Int :=
  if 1 ≤ t ∧ t ≤ (ds.length : Int) then (List.range (dAt ds (t.toNat - 1)).cons.length).map fun i => ((firstN ds (t.toNat - 1) + i : Nat) : Int) else []
end Go.Proofs.YtkapldpmjkdmcaaGreat
/- The types of expressions, plain. -/
namespace Go.Proofs.YtkapldpmjkdmcaaGreat
open Go.RowKit

/-- A type is an arrow type. -/
def isArr (ds : List DeclL) (t : Int) : Bool := decide (1 ≤ t ∧ t ≤ (ds.length : Int)) && decide ((dAt ds (t.toNat - 1)).cons.length = 0)
/-- The type of an operation that neither binds nor chooses, for kids of some types; -1 if it is not right. -/
def simpleL (ds : List DeclL) (sg : List SigL) (op num : Int) (tys : List Int) : Int :=
  if op = 0 then (if tys = [] ∧ -999 ≤ num ∧ num ≤ 999 then 0 else -1)
  else if op = 1 ∨ op = 2 ∨ op = 3 ∨ op = 4 then (if num = 0 ∧ tys = [0, 0] then 0 else -1)
  else if op = 5 then (if num = 0 ∧ tys = [0] then 0 else -1)
  else if op = 11 then (if num = 0 ∧ tys.length = 2 ∧ isArr ds (iAt tys 0) = true ∧ iAt tys 1 = (dAt ds ((iAt tys 0).toNat - 1)).from_ then (dAt ds ((iAt tys 0).toNat - 1)).to_ else -1)
  else if op = 6 then (if 0 < conTypeL ds num ∧ tys = conFieldsL ds num then conTypeL ds num else -1)
  else if op = 9 then (if 0 ≤ num ∧ num < (sg.length : Int) ∧ tys = (sgAt sg num.toNat).params then (sgAt sg num.toNat).result else -1)
  else if op = 10 then (if 0 ≤ num ∧ num < (sg.length : Int) ∧ 0 < (sgAt sg num.toNat).params.length ∧ tys = (sgAt sg num.toNat).params.take ((sgAt sg num.toNat).params.length - 1) then
    arrowL ds (iAt (sgAt sg num.toNat).params ((sgAt sg num.toNat).params.length - 1)) (sgAt sg num.toNat).result else -1)
  else -1
/-- The type that all have, or -1. -/
def oneT : List Int → Int
  | [] => -1
  | t :: ts => if 0 ≤ t ∧ ts.all (fun u => decide (u = t)) = true then t else -1
/-- The fields of the constructors of a type. -/
def armsL (ds : List DeclL) (t : Int) : List (List Int) := (consL ds t).map (conFieldsL ds)

mutual
/-- The type of an expression; -1 if it has none. -/
def tyE (ds : List DeclL) (sg : List SigL) (vars : List Int) : ExprL → Int
  | .mk op num ks =>
    if op = 12 then (if ks.length = 0 ∧ 0 ≤ num ∧ num < (vars.length : Int) then iAt vars num.toNat else -1)
    else if op = 13 then (if num = 0 ∧ ks.length = 2 then tyLet ds sg vars ks else -1)
    else if op = 7 then (if num = 0 ∧ ks.length = 3 ∧ tyHd ds sg vars ks = 0 then oneT (tyTl ds sg vars ks [[], []]) else -1)
    else if op = 8 then (if 0 < (armsL ds num).length ∧ ks.length = 1 + (armsL ds num).length ∧ tyHd ds sg vars ks = num then oneT (tyTl ds sg vars ks (armsL ds num)) else -1)
    else simpleL ds sg op num (tyEs ds sg vars ks)
def tyEs (ds : List DeclL) (sg : List SigL) (vars : List Int) : List ExprL → List Int
  | [] => []
  | k :: ks => tyE ds sg vars k :: tyEs ds sg vars ks
def tyHd (ds : List DeclL) (sg : List SigL) (vars : List Int) : List ExprL → Int
  | [] => -1
  | k :: _ => tyE ds sg vars k
def tyTl (ds : List DeclL) (sg : List SigL) (vars : List Int) : List ExprL → List (List Int) → List Int
  | [], _ => []
  | _ :: ks, fs => tyArms ds sg vars ks fs
def tyArms (ds : List DeclL) (sg : List SigL) (vars : List Int) : List ExprL → List (List Int) → List Int
  | [], _ => []
  | k :: ks, fs => tyE ds sg (vars ++ fs.headD []) k :: tyArms ds sg vars ks fs.tail
def tyLet (ds : List DeclL) (sg : List SigL) (vars : List Int) : List ExprL → Int
  | [] => -1
  | k :: ks => if 0 ≤ tyE ds sg vars k then tyHd ds sg (vars ++ [tyE ds sg vars k]) ks else -1
end

section
variable (ds : List DeclL) (sg : List SigL) (vars : List Int)
theorem tyEs_map (ks : List ExprL) : tyEs ds sg vars ks = ks.map (tyE ds sg vars) := by induction ks <;> simp_all [tyEs]
theorem tyEs_len (ks : List ExprL) : (tyEs ds sg vars ks).length = ks.length := by rw [tyEs_map]; simp
theorem tyEs_at {ks : List ExprL} {i : Nat} (h : i < ks.length) : iAt (tyEs ds sg vars ks) i = tyE ds sg vars (eAt ks i) := by
  rw [tyEs_map, iAt_get (by simpa using h), eAt_get h]; simp
theorem tyHd_at {ks : List ExprL} (h : 0 < ks.length) : tyHd ds sg vars ks = tyE ds sg vars (eAt ks 0) := by
  cases ks with
  | nil => simp at h
  | cons k ks => rfl
theorem tyArms_len (ks : List ExprL) (fs : List (List Int)) : (tyArms ds sg vars ks fs).length = ks.length := by
  induction ks generalizing fs with
  | nil => rfl
  | cons k ks ih => simp [tyArms, ih]
theorem tyArms_at {ks : List ExprL} {fs : List (List Int)} {i : Nat} (h : i < ks.length) : iAt (tyArms ds sg vars ks fs) i = tyE ds sg (vars ++ cAt fs i) (eAt ks i) := by
  induction ks generalizing fs i with
  | nil => simp at h
  | cons k ks ih =>
    cases i with
    | zero => cases fs <;> simp [tyArms, iAt, cAt, eAt, List.headD]
    | succ i =>
      have := ih (fs := fs.tail) (i := i) (by simpa using h)
      simp only [tyArms, iAt, List.getD_cons_succ] at this ⊢
      rw [this]
      have e1 : cAt fs.tail i = cAt fs (i + 1) := by cases fs <;> simp [cAt]
      have e2 : eAt (k :: ks) (i + 1) = eAt ks i := by simp [eAt]
      rw [e1, e2]
theorem tyTl_len {ks : List ExprL} (fs : List (List Int)) : (tyTl ds sg vars ks fs).length = ks.length - 1 := by
  cases ks with
  | nil => rfl
  | cons k ks => simp [tyTl, tyArms_len]
theorem tyTl_at {ks : List ExprL} {fs : List (List Int)} {i : Nat} (h : i + 1 < ks.length) : iAt (tyTl ds sg vars ks fs) i = tyE ds sg (vars ++ cAt fs i) (eAt ks (i + 1)) := by
  cases ks with
  | nil => simp at h
  | cons k ks =>
    have := tyArms_at ds sg vars (ks := ks) (fs := fs) (i := i) (by simpa using h)
    rw [tyTl, this]
    simp [eAt]
theorem tyLet_at {ks : List ExprL} (h : ks.length = 2) : tyLet ds sg vars ks = if 0 ≤ tyE ds sg vars (eAt ks 0) then tyE ds sg (vars ++ [tyE ds sg vars (eAt ks 0)]) (eAt ks 1) else -1 := by
  match ks, h with
  | [a, b], _ => simp [tyLet, tyHd, eAt]
end
theorem oneT_at {ts : List Int} (h0 : 0 < ts.length) (h1 : 0 ≤ iAt ts 0) (h : ∀ i, i < ts.length → iAt ts i = iAt ts 0) : oneT ts = iAt ts 0 := by
  cases ts with
  | nil => simp at h0
  | cons t ts =>
    have e : iAt (t :: ts) 0 = t := by simp [iAt]
    rw [e] at h1 h ⊢
    have h2 : ts.all (fun u => decide (u = t)) = true := by
      rw [List.all_eq_true]
      intro u hu
      obtain ⟨i, hi, rfl⟩ := List.getElem_of_mem hu
      have := h (i + 1) (by simpa using hi)
      simpa [iAt, hi] using this
    rw [oneT, if_pos ⟨h1, h2⟩]
theorem oneT_neg {ts : List Int} {i : Nat} (hi : i < ts.length) (h : iAt ts i ≠ iAt ts 0 ∨ iAt ts i < 0) : oneT ts = -1 := by
  cases ts with
  | nil => simp at hi
  | cons t ts =>
    have e : iAt (t :: ts) 0 = t := by simp [iAt]
    rw [e] at h
    rw [oneT, if_neg ?_]
    rintro ⟨h1, h2⟩
    rw [List.all_eq_true] at h2
    cases i with
    | zero => rw [e] at h; omega
    | succ i =>
      have hi' : i < ts.length := by simpa using hi
      have := h2 ts[i] (List.getElem_mem hi')
      have e2 : iAt (t :: ts) (i + 1) = ts[i] := by simp [iAt, hi']
      rw [e2] at h
      simp at this
      omega
end Go.Proofs.YtkapldpmjkdmcaaGreat
/- A whole element written into a slice of the call's own; rows that are filled one by one. -/
namespace Go.Proofs.YtkapldpmjkdmcaaGreat
open Go.RowKit

/-- The cells from o on are written over. -/
def setAll (w : World) (b o : Nat) : List Value → World
  | [] => w
  | u :: us => setAll (w.setCell ⟨b, o, none⟩ u) b (o + 1) us
theorem setAll_ext (w : World) (b o : Nat) (us : List Value) : Ext (fun k => k = b) w (setAll w b o us) := by
  induction us generalizing w o with
  | nil => exact Ext.refl _ _
  | cons u us ih => exact ((Ext.refl (fun k => k = b) w).setCell (p := ⟨b, o, none⟩) (.inr rfl) u).trans (ih _ _)
theorem setAll_row {w : World} {b N : Nat} {T : TypeId} {f : Nat → Value} (h : w.rowIs b T N f) (us : List Value) (o : Nat) : (setAll w b o us).rowIs b T N (fun k => if o ≤ k ∧ k < o + us.length then us.getD (k - o) undef else f k) := by
  induction us generalizing w o f with
  | nil => exact h.congr (fun i _ => by rw [if_neg (by simp)])
  | cons u us ih =>
    refine (ih (h.set o u) (o + 1)).congr (fun i _ => ?_)
    by_cases e : i = o
    · subst e
      rw [if_neg (by omega), if_pos rfl, if_pos (by simp)]
      simp [List.getD]
    · by_cases e1 : o + 1 ≤ i ∧ i < o + 1 + us.length
      · rw [if_pos e1, if_pos (by simp; omega), show i - o = (i - (o + 1)) + 1 by omega]
        simp [List.getD]
      · rw [if_neg e1, if_neg e, if_neg (by simp; omega)]

section
variable {D : Nat → Prop} {w : World}
theorem Own.cells {s : Nat} {rows : List (List Dat)} {a : Option Addr} {n c : Nat} (h : Own w D (.arr s rows) (.slice a n c)) {j : Nat} (hj : j < n) : ∃ b, a = some ⟨b, 0, none⟩ ∧ D b ∧ b < w.heap.size ∧ (∀ o, w.frozen? ⟨b, o, none⟩ = false) ∧ ∀ l, l < s → ∃ u, w.cell? ⟨b, j * s + l, none⟩ = some u := by
  cases h with
  | nil => omega
  | arr D E s rows b c T N f hD h0 hs0 hc hm hs' hN hrow hE hdis hr =>
    exact ⟨b, rfl, hD, hrow.lt, hrow.frozen, fun l hl => ⟨_, hrow.cell (Nat.lt_of_lt_of_le (idx_lt hj hl) hN)⟩⟩
theorem Own.putRow {s : Nat} {rows : List (List Dat)} {b n c : Nat} (h : Own w D (.arr s rows) (.slice (some ⟨b, 0, none⟩) n c)) {j : Nat} (hj : j < n) (us : List Value) (ds : List Dat) (E : Nat → Nat → Prop)
    (hus : us.length = s) (hds : ds.length = s) (ho : ∀ i, i < s → ∃ u, us[i]? = some u ∧ Own w (E i) (dGet ds i) u) (hE : ∀ i k, i < s → E i k → ¬ D k) (hdis : ∀ i i' k, i < s → i' < s → E i k → E i' k → i = i') :
    Own (setAll w b (j * s) us) (fun k => D k ∨ ∃ i, i < s ∧ E i k) (.arr s (rows.set j ds)) (.slice (some ⟨b, 0, none⟩) n c) := by
  cases h with
  | nil => omega
  | arr D E0 s rows b c T N f hD h0 hs0 hc hm hs' hN hrow hE0 hdis0 hr =>
    have hx := setAll_ext w b (j * s) us
    have hlen : (rows.set j ds).length = rows.length := by simp
    have q := Own.arr (w := setAll w b (j * s) us) (fun k => D k ∨ ∃ i, i < s ∧ E i k) (fun k l => if k = j then E l else E0 k l) s (rows.set j ds) b c T N _ (.inl hD) (by rw [hlen]; exact h0) hs0 (by rw [hlen]; exact hc) (by rw [hlen]; exact hm)
      (fun i hi => by
        rw [hlen] at hi
        rw [rGet_set hj]
        by_cases e : i = j
        · rw [if_pos e, hds]
        · rw [if_neg e, hs' i hi]) (by rw [hlen]; exact hN) (setAll_row hrow us (j * s))
      (by
        rw [hlen]
        intro i l k hi hl hk
        by_cases e : i = j
        · rw [if_pos e] at hk
          exact ⟨.inr ⟨l, hl, hk⟩, fun e' => hE l k hl hk (e' ▸ hD)⟩
        · rw [if_neg e] at hk
          exact ⟨.inl (hE0 i l k hi hl hk).1, (hE0 i l k hi hl hk).2⟩)
      (by
        rw [hlen]
        intro i l i' l' k hi hl hi' hl' hk hk'
        by_cases e : i = j <;> by_cases e' : i' = j
        · rw [if_pos e] at hk; rw [if_pos e'] at hk'
          exact ⟨by omega, hdis l l' k hl hl' hk hk'⟩
        · rw [if_pos e] at hk; rw [if_neg e'] at hk'
          exact absurd (hE0 i' l' k hi' hl' hk').1 (hE l k hl hk)
        · rw [if_neg e] at hk; rw [if_pos e'] at hk'
          exact absurd (hE0 i l k hi hl hk).1 (hE l' k hl' hk')
        · rw [if_neg e] at hk; rw [if_neg e'] at hk'
          exact hdis0 i l i' l' k hi hl hi' hl' hk hk')
      (fun i l hi hl => by
        rw [hlen] at hi
        have hlt := idx_lt hi hl
        by_cases e : i = j
        · subst e
          obtain ⟨u, hu, hown⟩ := ho l hl
          have e1 : (if i * s ≤ i * s + l ∧ i * s + l < i * s + us.length then us.getD (i * s + l - i * s) undef else f (i * s + l)) = u := by
            rw [if_pos (by omega), Nat.add_sub_cancel_left]; simp [List.getD, hu]
          show Own _ (if i = i then E l else E0 i l) _ (if i * s ≤ i * s + l ∧ i * s + l < i * s + us.length then us.getD (i * s + l - i * s) undef else f (i * s + l))
          rw [if_pos rfl, e1, rAt, rGet_set hj, if_pos rfl]
          exact hown.ext hx (fun k hk h => hE l k hl hk (h ▸ hD))
        · have hne : ¬ (j * s ≤ i * s + l ∧ i * s + l < j * s + us.length) := by
            rintro ⟨q1, q2⟩
            have : i * s + l = j * s + (i * s + l - j * s) := by omega
            exact e (idx_inj hl (by omega) this).1
          show Own _ (if i = j then E l else E0 i l) _ (if j * s ≤ i * s + l ∧ i * s + l < j * s + us.length then us.getD (i * s + l - j * s) undef else f (i * s + l))
          rw [if_neg e, if_neg hne, rAt, rGet_set hj, if_neg e]
          exact (hr i l hi hl).ext hx (fun k hk h => (hE0 i l k hi hl hk).2 h))
    rw [hlen] at q
    exact q
end

/-- The values us hold the data ds in rows of the call's own, whose blocks lie from lo on and below hi. -/
def ToS (lo hi : Nat) (w : World) (ds : List Dat) (us : List Value) : Prop := ∃ E : Nat → Nat → Prop, (∀ i k, E i k → lo ≤ k ∧ k < hi) ∧ (∀ i i' k, E i k → E i' k → i = i') ∧ us.length = ds.length ∧
  ∀ i, i < ds.length → ∃ u, us[i]? = some u ∧ Own w (E i) (dGet ds i) u
theorem ToS.nil (lo hi : Nat) (w : World) : ToS lo hi w [] [] := ⟨fun _ _ => False, by simp, by simp, rfl, by simp⟩
theorem ToS.ext {S : Nat → Prop} {lo hi : Nat} {w w' : World} {ds : List Dat} {us : List Value} (h : ToS lo hi w ds us) (hx : Ext S w w') (hs : ∀ k, lo ≤ k → k < hi → ¬ S k) : ToS lo hi w' ds us := by
  obtain ⟨E, h1, h2, h3, h4⟩ := h
  exact ⟨E, h1, h2, h3, fun i hi => by obtain ⟨u, hu, ho⟩ := h4 i hi; exact ⟨u, hu, ho.ext hx (fun k hk => hs k (h1 i k hk).1 (h1 i k hk).2)⟩⟩
theorem ToS.wide {lo hi lo' hi' : Nat} {w : World} {ds : List Dat} {us : List Value} (h : ToS lo hi w ds us) (h1 : lo' ≤ lo) (h2 : hi ≤ hi') : ToS lo' hi' w ds us := by
  obtain ⟨E, q1, q2, q3, q4⟩ := h
  exact ⟨E, fun i k hk => by have := q1 i k hk; omega, q2, q3, q4⟩
theorem ToS.own {w : World} {m : Nat} {d : Dat} {u : Value} (h : Own w (fun k => m ≤ k) d u) : ToS m w.heap.size w [d] [u] := by
  refine ⟨fun i k => i = 0 ∧ m ≤ k ∧ k < w.heap.size, fun i k hk => hk.2, fun i i' k hk hk' => by omega, rfl, fun i hi => ?_⟩
  obtain rfl : i = 0 := by simpa using hi
  exact ⟨u, rfl, h.lt.mono (fun k hk => ⟨rfl, hk⟩)⟩
theorem ToS.int (lo hi : Nat) (w : World) (z : Int) : ToS lo hi w [.num z] [.int .i64 z] := by
  refine ⟨fun _ _ => False, by simp, by simp, rfl, fun i hi => ?_⟩
  obtain rfl : i = 0 := by simpa using hi
  exact ⟨_, rfl, .num _ z⟩
theorem ToS.app {lo m hi : Nat} {w : World} {ds ds2 : List Dat} {us us2 : List Value} (h : ToS lo m w ds us) (h2 : ToS m hi w ds2 us2) (hlo : lo ≤ m) (hhi : m ≤ hi) : ToS lo hi w (ds ++ ds2) (us ++ us2) := by
  obtain ⟨E, q1, q2, q3, q4⟩ := h
  obtain ⟨E', r1, r2, r3, r4⟩ := h2
  refine ⟨fun i => if i < ds.length then E i else E' (i - ds.length), fun i k hk => ?_, fun i i' k hk hk' => ?_, by simp [q3, r3], fun i hi => ?_⟩
  · by_cases e : i < ds.length
    · simp only [if_pos e] at hk; have := q1 i k hk; omega
    · simp only [if_neg e] at hk; have := r1 _ k hk; omega
  · by_cases e : i < ds.length <;> by_cases e' : i' < ds.length
    · simp only [if_pos e] at hk; simp only [if_pos e'] at hk'; exact q2 i i' k hk hk'
    · simp only [if_pos e] at hk; simp only [if_neg e'] at hk'
      have := q1 i k hk; have := r1 _ k hk'; omega
    · simp only [if_neg e] at hk; simp only [if_pos e'] at hk'
      have := q1 i' k hk'; have := r1 _ k hk; omega
    · simp only [if_neg e] at hk; simp only [if_neg e'] at hk'
      have := r2 _ _ k hk hk'; omega
  · by_cases e : i < ds.length
    · obtain ⟨u, hu, ho⟩ := q4 i e
      refine ⟨u, by rw [List.getElem?_append_left (by omega)]; exact hu, ?_⟩
      show Own w (if i < ds.length then E i else E' (i - ds.length)) _ _
      rw [if_pos e]
      have : dGet (ds ++ ds2) i = dGet ds i := by simp [dGet, List.getD, List.getElem?_append_left e]
      rw [this]; exact ho
    · have hl : i - ds.length < ds2.length := by simp at hi; omega
      obtain ⟨u, hu, ho⟩ := r4 _ hl
      refine ⟨u, by rw [List.getElem?_append_right (by omega), q3]; exact hu, ?_⟩
      show Own w (if i < ds.length then E i else E' (i - ds.length)) _ _
      rw [if_neg e]
      have : dGet (ds ++ ds2) i = dGet ds2 (i - ds.length) := by simp [dGet, List.getD, List.getElem?_append_right (Nat.le_of_not_lt e)]
      rw [this]; exact ho
/-- A whole element into a slice of the call's own. -/
theorem Own.put {w : World} {lo hi hi' s : Nat} {rows : List (List Dat)} {b n c : Nat} (h : Own w (fun k => lo ≤ k ∧ k < hi) (.arr s rows) (.slice (some ⟨b, 0, none⟩) n c)) {j : Nat} (hj : j < n) (us : List Value) (ds : List Dat)
    (hds : ds.length = s) (ht : ToS hi hi' w ds us) (hlo : lo ≤ hi) (hhi : hi ≤ hi') : Own (setAll w b (j * s) us) (fun k => lo ≤ k ∧ k < hi') (.arr s (rows.set j ds)) (.slice (some ⟨b, 0, none⟩) n c) := by
  obtain ⟨E, h1, h2, h3, h4⟩ := ht
  refine (h.putRow hj us ds E (by omega) hds (fun i hi => h4 i (by omega)) (fun i k _ hk hk' => by have := h1 i k hk; omega) (fun i i' k _ _ => h2 i i' k)).mono (fun k hk => ?_)
  rcases hk with hk | ⟨i, _, hk⟩
  · omega
  · have := h1 i k hk; omega
theorem ToS.get {lo hi : Nat} {w : World} {ds : List Dat} {us : List Value} (h : ToS lo hi w ds us) (i : Nat) (d : Dat) (u : Value) (hd : ds[i]? = some d) (hu : us[i]? = some u) : Own w (fun k => lo ≤ k ∧ k < hi) d u := by
  obtain ⟨E, h1, _, h3, h4⟩ := h
  obtain ⟨hi', e⟩ := List.getElem?_eq_some_iff.1 hd
  obtain ⟨u', hu', ho⟩ := h4 i hi'
  rw [hu] at hu'
  injection hu' with hu'
  subst hu'
  have : dGet ds i = d := by rw [dGet_lt hi', e]
  rw [this] at ho
  exact ho.mono (fun k hk => h1 i k hk)
theorem rowOf (w : World) (c : Array Value) (T : TypeId) : (w.alloc (.cells c T)).rowIs w.heap.size T c.size (fun i => c.getD i undef) := World.rowIs_alloc w c T _ (fun i hi => by simp [Array.getD, hi])

/-- The first j of rows, then z. -/
def rowsTo (rows : List (List Dat)) (z : List Dat) (j : Nat) : List (List Dat) := rows.take j ++ List.replicate (rows.length - j) z
theorem rowsTo_zero (rows : List (List Dat)) (z : List Dat) : rowsTo rows z 0 = List.replicate rows.length z := by simp [rowsTo]
theorem rowsTo_all (rows : List (List Dat)) (z : List Dat) {n : Nat} (h : n = rows.length) : rowsTo rows z n = rows := by subst h; simp [rowsTo]
theorem rowsTo_succ (rows : List (List Dat)) (z : List Dat) {j : Nat} (h : j < rows.length) : (rowsTo rows z j).set j (rGet rows j) = rowsTo rows z (j + 1) := by
  have h1 : (rows.take j).length = j := by simp; omega
  simp only [rowsTo]
  rw [List.set_append_right _ _ (Nat.le_of_eq h1), h1, Nat.sub_self, take_succ_rows rows j h, show rows.length - j = (rows.length - (j + 1)) + 1 by omega, List.replicate_succ, List.set_cons_zero]
  simp
end Go.Proofs.YtkapldpmjkdmcaaGreat
/- conCount, firstCon, conType, conAt and arrowOf of the program and of the reference. -/
namespace Go.Proofs.YtkapldpmjkdmcaaGreat
open Go.RowKit

theorem box_at {w w2 : World} {cs : Array Value} {T : TypeId} (h : Keep (w.alloc (.cells cs T)) w2) (i : Nat) : w2.cell? ⟨w.heap.size, i, none⟩ = cs[i]? := by
  rw [h.cell (p := ⟨w.heap.size, i, none⟩) (by simp) (fun h => h), cell_of_row _ w.heap.size i cs T (0, 0) (heap_alloc_new w _)]

theorem implConCount0 (a : Option Addr) (n c : Nat) (ds : List DeclL) (D : Nat → Prop) (w : World) (h : DeclsR w D a n ds) (hf : Few ds) :
    Calls Tryz.prog 155 #[.slice a n c] w fun e w' => e = .returned (.int .i64 (conN ds)) ∧ Keep w w' := by
  refine calls_k fun Q hQ => ?_
  have hlen := h.1
  have HL := Lib.hid hlen
  have hn4 : n ≤ 4 := by have := hf.1; omega
  clear hlen
  go_enter Tryz.func155, Tryz.ntmps155
  go_wp2
  go_loopw [3, 8] (fun t i wr => ∃ k : Nat, k ≤ n ∧ i = .int .i64 k ∧ t = .int .i64 (firstN ds k) ∧ Keep w wr) (fun _ i _ => n - (intOf i).toNat)
  case atStart => exact ⟨0, Nat.zero_le _, rfl, rfl, Ext.refl _ _⟩
  case round =>
    obtain ⟨k, hk, rfl, rfl, hK⟩ := hrel
    by_cases hlt : k < n
    · have h1 := h.ext hK (fun _ _ h => h)
      obtain ⟨b, o, rfl, hd, hc⟩ := h1.2 (by omega)
      obtain ⟨c0, c1, a', m, c', c2, hmc, hcons⟩ := hc k hlt
      have HM := Lib.hid hcons.1
      have b1 := firstN_le hf (k := k) (by have := HL.out; omega)
      have b2 : m ≤ 3 := by have := hf.2 k (by have := HL.out; omega); have := HM.out; omega
      clear hc hcons h1 h
      go_wp2
      go_roundw
      case rel => exact ⟨k + 1, by omega, by go_num, by simp only [firstN, HM.out]; go_num, hK.trans ((Ext.refl _ _).alloc _)⟩
      case measure => simp [intOf]; omega
    · go_wp2
      exact fin_ hQ ⟨ret_i (by rw [conN, HL.out, show k = n by omega]), hK⟩


theorem specFirstCon (a : Option Addr) (n c : Nat) (ds : List DeclL) (D : Nat → Prop) (at_ : Nat) (w : World) (h : DeclsR w D a n ds) (hf : Few ds) (hat : at_ ≤ n) :
    Calls Tryz.prog 196 #[.slice a n c, .int .i64 at_] w fun e w' => e = .returned (.int .i64 (firstN ds at_)) ∧ w = w' := by
  refine calls_k fun Q hQ => ?_
  have hlen := h.1
  have HL := Lib.hid hlen
  have hn4 : n ≤ 4 := by have := hf.1; omega
  clear hlen
  go_enter Tryz.func196, Tryz.ntmps196
  go_wp2
  go_loop [5, 6] (fun t i => ∃ k : Nat, k ≤ at_ ∧ i = .int .i64 k ∧ t = .int .i64 (firstN ds k)) (fun _ i => at_ - (intOf i).toNat)
  case atStart => exact ⟨0, Nat.zero_le _, rfl, rfl⟩
  case round =>
    obtain ⟨k, hk, rfl, rfl⟩ := hrel
    by_cases hlt : k < at_
    · obtain ⟨b, o, rfl, hd, hc⟩ := h.2 (by omega)
      obtain ⟨c0, c1, a', m, c', c2, hmc, hcons⟩ := hc k (by omega)
      have HM := Lib.hid hcons.1
      have b1 := firstN_le hf (k := k) (by have := HL.out; omega)
      have b2 : m ≤ 3 := by have := hf.2 k (by have := HL.out; omega); have := HM.out; omega
      clear hc hcons h
      go_wp2
      go_round
      case rel => exact ⟨k + 1, by omega, by go_num, by simp only [firstN, HM.out]; go_num⟩
      case measure => simp [intOf]; omega
    · go_wp2
      exact fin_ hQ ⟨ret_i (by rw [show k = at_ by omega]), rfl⟩

set_option maxHeartbeats 1000000 in
theorem specConType0 (a : Option Addr) (n c : Nat) (ds : List DeclL) (D : Nat → Prop) (x : Int) (w : World) (h : DeclsR w D a n ds) (hf : Few ds) :
    Calls Tryz.prog 146 #[.slice a n c, .int .i64 x] w fun e w' => e = .returned (.int .i64 (conTypeL ds x)) ∧ w = w' := by
  refine calls_k fun Q hQ => ?_
  have hlen := h.1
  have HL := Lib.hid hlen
  have hn4 : n ≤ 4 := by have := hf.1; omega
  clear hlen
  go_enter Tryz.func146, Tryz.ntmps146
  go_wp2
  go_loop [5] (fun i => ∃ k : Nat, k ≤ n ∧ i = .int .i64 k ∧ Hid (∀ j, j < k → inDecl ds x j = false)) (fun i => n - (intOf i).toNat)
  case atStart => exact ⟨0, Nat.zero_le _, rfl, fun j hj => absurd hj (by omega)⟩
  case round =>
    obtain ⟨k, hk, rfl, H⟩ := hrel
    by_cases hlt : k < n
    · obtain ⟨b, o, rfl, hd, hc⟩ := h.2 (by omega)
      obtain ⟨c0, c1, a', m, c', c2, hmc, hcons⟩ := hc k (by omega)
      have HM := Lib.hid hcons.1
      have b1 := firstN_le hf (k := k) (by have := HL.out; omega)
      have b2 : m ≤ 3 := by have := hf.2 k (by have := HL.out; omega); have := HM.out; omega
      have HI : Hid (inDecl ds x k = decide ((firstN ds k : Int) ≤ x ∧ x ≤ (firstN ds k : Int) + (m : Int) - 1)) := by
        show _ = _
        simp only [inDecl, firstN, HM.out]
        congr 1
        simp only [eq_iff_iff]
        omega
      clear hc hcons
      cases hv : decide ((firstN ds k : Int) ≤ x ∧ x ≤ (firstN ds k : Int) + (m : Int) - 1)
      · go_wp2_with fail
        refine (specFirstCon _ _ _ _ _ _ _ h hf (by omega)).mono ?_
        rintro e w1 ⟨rfl, rfl⟩
        go_wp2_with (go_at_call 60; refine (specInRange _ _ _ _).mono ?_; rintro e w1 ⟨rfl, rfl⟩)
        go_round
        case rel => exact ⟨k + 1, by omega, by go_num, fun j hj => by
          rcases Nat.lt_succ_iff_lt_or_eq.1 hj with h | rfl
          · exact H.out j h
          · rw [HI.out]; exact hv⟩
        case measure => simp [intOf]; omega
      · go_wp2_with fail
        refine (specFirstCon _ _ _ _ _ _ _ h hf (by omega)).mono ?_
        rintro e w1 ⟨rfl, rfl⟩
        go_wp2_with (go_at_call 60; refine (specInRange _ _ _ _).mono ?_; rintro e w1 ⟨rfl, rfl⟩)
        exact fin_ hQ ⟨ret_i (by rw [conTypeL, conIx, firstIx_some (by have := HL.out; omega) (by rw [HI.out]; exact hv) H.out]; rfl), rfl⟩
    · go_wp2
      exact fin_ hQ ⟨ret_i (by rw [conTypeL, conIx, firstIx_none (fun j hj => H.out j (by have := HL.out; omega))]; rfl), rfl⟩
end Go.Proofs.YtkapldpmjkdmcaaGreat
/- conAt of the program: a constructor and its type. -/
namespace Go.Proofs.YtkapldpmjkdmcaaGreat
open Go.RowKit

theorem inDecl_iff {ds : List DeclL} {x : Int} {k : Nat} : inDecl ds x k = true ↔ 0 ≤ x - (firstN ds k : Int) ∧ x - (firstN ds k : Int) < ((dAt ds k).cons.length : Int) := by
  constructor
  · intro h
    have := of_decide_eq_true h
    simp only [firstN] at this
    omega
  · intro h
    refine decide_eq_true ?_
    simp only [firstN]
    omega

set_option maxHeartbeats 1000000 in
theorem implConAt_mid (a : Option Addr) (n c : Nat) (ds : List DeclL) (D : Nat → Prop) (x : Int) (w : World) (h : DeclsR w D a n ds) (hf : Few ds) (hx1 : -9223372036854775000 ≤ x) (hx2 : x ≤ 9223372036854775807) :
    Calls Tryz.prog 156 #[.slice a n c, .int .i64 x] w fun e w' => ∃ a' m c', e = .returned (.tuple #[.int .i64 (conTypeL ds x), .agg #[.slice a' m c']]) ∧ m ≤ c' ∧
      IntsL w D a' m (conFieldsL ds x) ∧ Keep w w' := by
  refine calls_k fun Q hQ => ?_
  have hlen := h.1
  have HL := Lib.hid hlen
  have hn4 : n ≤ 4 := by have := hf.1; omega
  clear hlen
  go_enter Tryz.func156, Tryz.ntmps156
  go_wp2
  go_loopw [1, 10] (fun cv i wr => ∃ k : Nat, k ≤ n ∧ i = .int .i64 k ∧ cv = .int .i64 (x - (firstN ds k : Int)) ∧ Keep (w.alloc (.cells #[.slice none 0 0] 155)) wr ∧ Hid (∀ j, j < k → inDecl ds x j = false)) (fun _ i _ => n - (intOf i).toNat)
  case atStart => exact ⟨0, Nat.zero_le _, rfl, by simp [firstN], Ext.refl _ _, fun j hj => absurd hj (by omega)⟩
  case round =>
    obtain ⟨k, hk, rfl, rfl, hK, H⟩ := hrel
    have hK0 : Keep w wr := ((Ext.refl _ w).alloc _).trans hK
    have hr0 : wr.cell? ⟨w.heap.size, 0, none⟩ = some (.slice none 0 0) := box_at hK 0
    have hr1 : wr.frozen? ⟨w.heap.size, 0, none⟩ = false := by rw [hK.frozen (p := ⟨w.heap.size, 0, none⟩) (by simp) (fun h => h)]; simp
    have hsz : w.heap.size < wr.heap.size := by have := hK.size; simp at this; omega
    have b1 := firstN_le hf (k := k) (by have := HL.out; omega)
    by_cases hlt : k < n
    · have h1 := h.ext hK0 (fun _ _ h => h)
      obtain ⟨b, o, rfl, hd, hc0⟩ := h.2 (by omega)
      obtain ⟨_, _, a', m, c', c2, hmc, hcons⟩ := hc0 k hlt
      obtain ⟨d0, d1, _, _, _, d2, _, _⟩ := hc0 k hlt
      have c0 := (hK0.cell (World.block_lt_of_cell? _ _ d0) (fun h => h)).trans d0
      have c1 := (hK0.cell (World.block_lt_of_cell? _ _ d1) (fun h => h)).trans d1
      have c3 := (hK0.cell (World.block_lt_of_cell? _ _ c2) (fun h => h)).trans c2
      have HM := Lib.hid hcons.1
      have HC := Lib.hid hcons
      have b2 : m ≤ 3 := by have := hf.2 k (by have := HL.out; omega); have := HM.out; omega
      clear hc0 h1 h d0 d1 d2 c2 hcons
      cases hv : inDecl ds x k
      · have V := Lib.hid hv
        clear hv
        by_cases g : 0 ≤ x - (firstN ds k : Int)
        · have g2 : ¬ x - (firstN ds k : Int) < (m : Int) := by
            intro g2
            have := V.out
            rw [inDecl_iff.2 ⟨g, by rw [HM.out]; exact g2⟩] at this
            cases this
          go_wp2
          go_roundw
          case rel => exact ⟨k + 1, by omega, by go_num, by simp only [firstN, HM.out]; congr 1; omega, hK.trans ((Ext.refl _ _).alloc _), fun j hj => by
            rcases Nat.lt_succ_iff_lt_or_eq.1 hj with h | rfl
            · exact H.out j h
            · exact V.out⟩
          case measure => simp [intOf]; omega
        · go_wp2
          go_roundw
          case rel => exact ⟨k + 1, by omega, by go_num, by simp only [firstN, HM.out]; congr 1; omega, hK.trans ((Ext.refl _ _).alloc _), fun j hj => by
            rcases Nat.lt_succ_iff_lt_or_eq.1 hj with h | rfl
            · exact H.out j h
            · exact V.out⟩
          case measure => simp [intOf]; omega
      · have V := Lib.hid hv
        clear hv
        have g := inDecl_iff.1 V.out
        rw [HM.out] at g
        obtain ⟨g1, g2⟩ := g
        obtain ⟨j, hj⟩ := Int.eq_ofNat_of_zero_le g1
        have hjm : j < m := by omega
        obtain ⟨b1', o1, rfl, hd1, hc1⟩ := HC.out.2 (by omega)
        obtain ⟨a2, m2, c2', x0, hmc2, hints⟩ := hc1 j hjm
        have x1 := (hK0.cell (World.block_lt_of_cell? _ _ x0) (fun h => h)).trans x0
        have HJ := Lib.hid hj
        rw [hj] at g1 g2 ⊢
        have hKa : Keep wr (wr.alloc (.cells #[.int .i64 (dAt ds k).from_, .int .i64 (dAt ds k).to_, .slice (some ⟨b1', o1, none⟩) m c'] 125)) := (Ext.refl _ _).alloc _
        have xa := (hKa.cell (World.block_lt_of_cell? _ _ x1) (fun h => h)).trans x1
        have ra := (hKa.cell (World.block_lt_of_cell? _ _ hr0) (fun h => h)).trans hr0
        have rb := (hKa.frozen (p := ⟨w.heap.size, 0, none⟩) hsz (fun h => h)).trans hr1
        clear hj hc1 x0 hKa
        go_wp2
        go_region
        all_goals go_wp2
        refine bodyPost_ret (v := .tuple #[.int .i64 ((k : Int) + 1), .agg #[.slice a2 m2 c2']]) (by simp [results, Tryz.results156, go_sem, hr0, hsz]) rfl (fin_ hQ ⟨a2, m2, c2', ?_, hmc2, ?_, ?_⟩)
        · rw [conTypeL, conIx, firstIx_some (by have := HL.out; omega) V.out H.out]; rfl
        · rw [conFieldsL, conIx, firstIx_some (by have := HL.out; omega) V.out H.out]
          show IntsL w D a2 m2 (cAt (dAt ds k).cons (x.toNat - firstN ds k))
          rw [show x.toNat - firstN ds k = j by have := HJ.out; omega]
          exact hints
        · exact ((hK0.setCell (p := ⟨w.heap.size, 0, none⟩) (.inl (Nat.le_refl _)) _).alloc _).drew
    · go_wp2
      refine bodyPost_ret (v := .tuple #[.int .i64 (-1), .agg #[.slice none 0 0]]) (by simp [results, Tryz.results156, go_sem, hr0]) rfl (fin_ hQ ⟨none, 0, 0, ?_, Nat.le_refl _, ?_, ?_⟩)
      · rw [conTypeL, conIx, firstIx_none (fun j hj => H.out j (by have := HL.out; omega))]; rfl
      · rw [conFieldsL, conIx, firstIx_none (fun j hj => H.out j (by have := HL.out; omega))]; exact ⟨rfl, fun h => absurd h (by omega)⟩
      · exact hK0.setCell (p := ⟨w.heap.size, 0, none⟩) (.inl (Nat.le_refl _)) _

theorem wrap_low {v : Int} {m k : Nat} (h1 : v < 0 ∨ 1000 - 3 * (k : Int) ≤ v) (h2 : -9223372036854775808 ≤ v) (h3 : v ≤ 9223372036854775807) (hm : m ≤ 3) (hk : k ≤ 4) :
    (wrap64 (v - (m : Int)) < 0 ∨ 1000 - 3 * ((k + 1 : Nat) : Int) ≤ wrap64 (v - (m : Int))) ∧ -9223372036854775808 ≤ wrap64 (v - (m : Int)) ∧ wrap64 (v - (m : Int)) ≤ 9223372036854775807 := by
  unfold wrap64
  omega

set_option maxHeartbeats 1000000 in
theorem implConAt_low (a : Option Addr) (n c : Nat) (ds : List DeclL) (D : Nat → Prop) (x : Int) (w : World) (h : DeclsR w D a n ds) (hf : Few ds) (hx1 : -9223372036854775808 ≤ x) (hx2 : x < -9223372036854775000) :
    Calls Tryz.prog 156 #[.slice a n c, .int .i64 x] w fun e w' => ∃ a' m c', e = .returned (.tuple #[.int .i64 (conTypeL ds x), .agg #[.slice a' m c']]) ∧ m ≤ c' ∧
      IntsL w D a' m (conFieldsL ds x) ∧ Keep w w' := by
  refine calls_k fun Q hQ => ?_
  have hlen := h.1
  have HL := Lib.hid hlen
  have hn4 : n ≤ 4 := by have := hf.1; omega
  have HX : Hid (conIx ds x = none) := firstIx_none (fun j _ => by
    cases hv : inDecl ds x j
    · rfl
    · have := inDecl_iff.1 hv; omega)
  clear hlen
  go_enter Tryz.func156, Tryz.ntmps156
  go_wp2
  go_loopw [1, 10] (fun cv i wr => ∃ (k : Nat) (v : Int), k ≤ n ∧ i = .int .i64 k ∧ cv = .int .i64 v ∧ (v < 0 ∨ 1000 - 3 * (k : Int) ≤ v) ∧ -9223372036854775808 ≤ v ∧ v ≤ 9223372036854775807 ∧ Keep (w.alloc (.cells #[.slice none 0 0] 155)) wr) (fun _ i _ => n - (intOf i).toNat)
  case atStart => exact ⟨0, x, Nat.zero_le _, rfl, rfl, by omega, by omega, by omega, Ext.refl _ _⟩
  case round =>
    obtain ⟨k, v, hk, rfl, rfl, q1, q2, q3, hK⟩ := hrel
    have hK0 : Keep w wr := ((Ext.refl _ w).alloc _).trans hK
    have hr0 : wr.cell? ⟨w.heap.size, 0, none⟩ = some (.slice none 0 0) := box_at hK 0
    have hr1 : wr.frozen? ⟨w.heap.size, 0, none⟩ = false := by rw [hK.frozen (p := ⟨w.heap.size, 0, none⟩) (by simp) (fun h => h)]; simp
    have hsz : w.heap.size < wr.heap.size := by have := hK.size; simp at this; omega
    by_cases hlt : k < n
    · obtain ⟨b, o, rfl, hd, hc0⟩ := h.2 (by omega)
      obtain ⟨d0, d1, a', m, c', d2, hmc, hcons⟩ := hc0 k hlt
      have c0 := (hK0.cell (World.block_lt_of_cell? _ _ d0) (fun h => h)).trans d0
      have c1 := (hK0.cell (World.block_lt_of_cell? _ _ d1) (fun h => h)).trans d1
      have c3 := (hK0.cell (World.block_lt_of_cell? _ _ d2) (fun h => h)).trans d2
      have HM := Lib.hid hcons.1
      have b2 : m ≤ 3 := by have := hf.2 k (by have := HL.out; omega); have := HM.out; omega
      have W1 := Lib.hid (wrap_low q1 q2 q3 b2 (by omega))
      clear hc0 h d0 d1 d2 hcons
      by_cases g : 0 ≤ v
      · have g2 : ¬ v < (m : Int) := by omega
        clear q1
        go_wp2
        go_roundw
        case rel => exact ⟨k + 1, _, by omega, by go_num, rfl, by first | exact W1.out.1 | (rw [← IntWalk.wrap64_in (v - (m : Int)) ⟨by omega, by omega⟩]; exact W1.out.1), by first | exact W1.out.2.1 | omega, by first | exact W1.out.2.2 | omega, hK.trans ((Ext.refl _ _).alloc _)⟩
        case measure => simp [intOf]; omega
      · clear q1
        go_wp2
        go_roundw
        case rel => exact ⟨k + 1, _, by omega, by go_num, rfl, W1.out.1, W1.out.2.1, W1.out.2.2, hK.trans ((Ext.refl _ _).alloc _)⟩
        case measure => simp [intOf]; omega
    · go_wp2
      refine bodyPost_ret (v := .tuple #[.int .i64 (-1), .agg #[.slice none 0 0]]) (by simp [results, Tryz.results156, go_sem, hr0]) rfl (fin_ hQ ⟨none, 0, 0, ?_, Nat.le_refl _, ?_, ?_⟩)
      · rw [conTypeL, HX.out]; rfl
      · rw [conFieldsL, HX.out]; exact ⟨rfl, fun h => absurd h (by omega)⟩
      · exact hK0.setCell (p := ⟨w.heap.size, 0, none⟩) (.inl (Nat.le_refl _)) _

theorem implConAt (a : Option Addr) (n c : Nat) (ds : List DeclL) (D : Nat → Prop) (x : Int) (w : World) (h : DeclsR w D a n ds) (hf : Few ds) (hx1 : -9223372036854775808 ≤ x) (hx2 : x ≤ 9223372036854775807) :
    Calls Tryz.prog 156 #[.slice a n c, .int .i64 x] w fun e w' => ∃ a' m c', e = .returned (.tuple #[.int .i64 (conTypeL ds x), .agg #[.slice a' m c']]) ∧ m ≤ c' ∧
      IntsL w D a' m (conFieldsL ds x) ∧ Keep w w' := by
  by_cases g : -9223372036854775000 ≤ x
  · exact implConAt_mid a n c ds D x w h hf g hx2
  · exact implConAt_low a n c ds D x w h hf hx1 (by omega)
end Go.Proofs.YtkapldpmjkdmcaaGreat
