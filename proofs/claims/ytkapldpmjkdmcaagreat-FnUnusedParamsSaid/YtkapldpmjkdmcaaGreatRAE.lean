/- ValidTypes of the program. -/
import Derived.Test.YtkapldpmjkdmcaaGreatRAD
import Derived.Test.YtkapldpmjkdmcaaGreatRAC
import Derived.Deep.RegionHeld3
namespace Go.Proofs.YtkapldpmjkdmcaaGreat
open Go.RowKit

theorem conOk_iff {n : Nat} {c : List Int} : conOk n c = true ↔ c.length ≤ 3 ∧ allT n c = true := by simp [conOk]
theorem isT0 (n : Nat) : isT n 0 = true := by simp [isT]
theorem declBad1 {ds : List DeclL} {n k : Nat} (hn : ds.length = n) (h : isT n (dAt ds k).from_ = false) : declOk ds k = false := by
  unfold declOk
  split
  · have : (dAt ds k).from_ ≠ 0 := by intro e; rw [e, isT0] at h; cases h
    simp [this]
  · rw [hn, h]; simp
theorem declBad2 {ds : List DeclL} {n k : Nat} (hn : ds.length = n) (h : isT n (dAt ds k).to_ = false) : declOk ds k = false := by
  unfold declOk
  split
  · have : (dAt ds k).to_ ≠ 0 := by intro e; rw [e, isT0] at h; cases h
    simp [this]
  · rw [hn, h]; simp
theorem declBad3 {ds : List DeclL} {k : Nat} (h : 3 < (dAt ds k).cons.length) : declOk ds k = false := by
  unfold declOk
  rw [if_pos (by omega)]
  simp
  omega
theorem declBad4 {ds : List DeclL} {k : Nat} (h : 0 < (dAt ds k).cons.length) (h2 : (dAt ds k).from_ ≠ 0 ∨ (dAt ds k).to_ ≠ 0) : declOk ds k = false := by
  unfold declOk
  rw [if_pos h]
  rcases h2 with h2 | h2 <;> simp [h2]
theorem declBad5 {ds : List DeclL} {n k j : Nat} (hn : ds.length = n) (hj : j < (dAt ds k).cons.length) (h2 : conOk n (cAt (dAt ds k).cons j) = false) : declOk ds k = false := by
  unfold declOk
  rw [if_pos (by omega), hn, cAll_false hj h2]
  simp
theorem declBad6 {ds : List DeclL} {k j : Nat} (h : (dAt ds k).cons.length = 0) (hj : j < k) (h2 : sameArrow (dAt ds j) (dAt ds k) = true) : declOk ds k = false := by
  unfold declOk
  rw [if_neg (by omega), nAll_false hj (by simp [h2])]
  simp
theorem declGood1 {ds : List DeclL} {n k : Nat} (hn : ds.length = n) (h : 0 < (dAt ds k).cons.length) (h3 : (dAt ds k).cons.length ≤ 3) (h1 : (dAt ds k).from_ = 0) (h2 : (dAt ds k).to_ = 0)
    (hc : ∀ j, j < (dAt ds k).cons.length → conOk n (cAt (dAt ds k).cons j) = true) : declOk ds k = true := by
  unfold declOk
  rw [if_pos h, hn, cAll.2 hc]
  simp [h1, h2, h3]
theorem declGood2 {ds : List DeclL} {n k : Nat} (hn : ds.length = n) (h : (dAt ds k).cons.length = 0) (h1 : isT n (dAt ds k).from_ = true) (h2 : isT n (dAt ds k).to_ = true)
    (hc : ∀ j, j < k → sameArrow (dAt ds j) (dAt ds k) = false) : declOk ds k = true := by
  unfold declOk
  rw [if_neg (by omega), hn, h1, h2]
  simp only [Bool.true_and]
  exact nAll.2 fun j hj => by simp [hc j hj]

theorem box_keep {w w2 : World} {cs : Array Value} {T : TypeId} (h : Keep (w.alloc (.cells cs T)) w2) (i : Nat) : w2.cell? ⟨w.heap.size, i, none⟩ = cs[i]? := by
  rw [h.cell (p := ⟨w.heap.size, i, none⟩) (by simp) (fun h => h), cell_of_row _ w.heap.size i cs T (0, 0) (heap_alloc_new w _)]

set_option maxRecDepth 100000 in
set_option maxHeartbeats 2000000 in
theorem implValidTypes (a : Option Addr) (n c : Nat) (ds : List DeclL) (D : Nat → Prop) (w : World) (h : DeclsR w D a n ds) (hnc : n ≤ c) :
    Calls Tryz.prog 159 #[.slice a n c] w fun e w' => e = .returned (.bool (typesOk ds)) ∧ Keep w w' := by
  refine calls_k fun Q hQ => ?_
  have hlen := h.1
  by_cases h4 : n ≤ 4
  · have hfin : Hid (typesOk ds = (List.range n).all (declOk ds)) := by
      show _ = _
      simp [typesOk, hlen, h4]
    go_enter Tryz.func159, Tryz.ntmps159
    go_wp2
    go_loopw [14] (fun i wr => ∃ j : Nat, j ≤ n ∧ i = .int .i64 j ∧ Keep w wr ∧ Hid (∀ l, l < j → declOk ds l = true)) (fun i _ => n - (intOf i).toNat)
    case atStart => exact ⟨0, Nat.zero_le _, rfl, Ext.refl _ _, fun j hj => absurd hj (by omega)⟩
    case round =>
      obtain ⟨wo, rfl⟩ : ∃ wo : World, wo = wr := ⟨_, rfl⟩
      obtain ⟨k, hk, rfl, hK, H⟩ := hrel
      by_cases hlt : k < n
      · have h1 := h.ext hK (fun _ _ h => h)
        obtain ⟨_, hcell⟩ := h1
        obtain ⟨b, o, rfl, hd, hc⟩ := hcell (by omega)
        obtain ⟨c0, c1, a', m, c', c2, hmc, hcons⟩ := hc k hlt
        have HL := Lib.hid hlen
        have HM := Lib.hid hcons.1
        generalize hF : (dAt ds k).from_ = F at *
        generalize hT : (dAt ds k).to_ = T at *
        have HF := Lib.hid hF
        have HT := Lib.hid hT
        clear hF hT hlen
        have hKa : Keep wo (wo.alloc (.cells #[.int .i64 F, .int .i64 T, .slice a' m c'] 125)) := (Ext.refl _ wo).alloc _
        cases v1 : isT n F
        · have V1 := Lib.hid v1
          clear hc hcell hcons
          go_wp2_with (go_at_call 160; refine (implIsType_no _ _ _ _ _ V1.out).mono ?_; rintro e w1 ⟨rfl, rfl⟩)
          exact fin_ hQ ⟨ret_b (by rw [hfin.out, nAll_false hlt (declBad1 HL.out (by rw [HF.out]; exact V1.out))]), hK.trans hKa⟩
        cases v2 : isT n T
        · have V1 := Lib.hid v1
          have V2 := Lib.hid v2
          clear hc hcell hcons v1 v2
          go_wp2_with fail
          refine (implIsType_yes _ _ _ _ _ V1.out).mono ?_
          rintro e w1 ⟨rfl, rfl⟩
          go_wp2_with fail
          refine (implIsType_no _ _ _ _ _ V2.out).mono ?_
          rintro e w1 ⟨rfl, rfl⟩
          go_wp2_with fail
          exact fin_ hQ ⟨ret_b (by rw [hfin.out, nAll_false hlt (declBad2 HL.out (by rw [HT.out]; exact V2.out))]), hK.trans hKa⟩
        have V1 := Lib.hid v1
        have V2 := Lib.hid v2
        have HC := Lib.hid hc
        have HCO := Lib.hid hcons
        clear v1 v2 hc hcell hcons
        by_cases hm3 : m ≤ 3
        · by_cases hm0 : m = 0
          · subst hm0
            go_wp2_with fail
            refine (implIsType_yes _ _ _ _ _ V1.out).mono ?_
            rintro e w1 ⟨rfl, rfl⟩
            go_wp2_with fail
            refine (implIsType_yes _ _ _ _ _ V2.out).mono ?_
            rintro e w1 ⟨rfl, rfl⟩
            go_wp2_with fail
            refine wp_loop_once ?_
            go_wp2_with fail
            go_loopw [76] (fun i w2 => ∃ j : Nat, j ≤ k ∧ i = .int .i64 j ∧ Keep (wo.alloc (.cells #[.int .i64 F, .int .i64 T, .slice a' 0 c'] 125)) w2 ∧ Hid (∀ l, l < j → sameArrow (dAt ds l) (dAt ds k) = false)) (fun i _ => k - (intOf i).toNat)
            case atStart => exact ⟨0, Nat.zero_le _, rfl, Ext.refl _ _, fun j hj => absurd hj (by omega)⟩
            case round =>
              obtain ⟨w2, rfl⟩ : ∃ w2 : World, w2 = wr := ⟨_, rfl⟩
              obtain ⟨j, hj, rfl, hK2, H2⟩ := hrel
              by_cases hltj : j < k
              · have hK3 : Keep wo w2 := hKa.trans hK2
                obtain ⟨e0, e1, a2, m2, c2', e2, _, e3⟩ := HC.out j (by omega)
                have x0 := (hK3.cell (World.block_lt_of_cell? _ _ e0) (fun h => h)).trans e0
                have x1 := (hK3.cell (World.block_lt_of_cell? _ _ e1) (fun h => h)).trans e1
                have x2 := (hK3.cell (World.block_lt_of_cell? _ _ e2) (fun h => h)).trans e2
                have y0 := box_keep hK2 0
                have y1 := box_keep hK2 1
                have y2 := box_keep hK2 2
                have y0' : w2.cell? ⟨wo.heap.size, 0, none⟩ = some (.int .i64 F) := y0
                have y1' : w2.cell? ⟨wo.heap.size, 1, none⟩ = some (.int .i64 T) := y1
                have y2' : w2.cell? ⟨wo.heap.size, 2, none⟩ = some (.slice a' 0 c') := y2
                have E3 := Lib.hid e3.1
                have hlt2 : wo.heap.size < w2.heap.size := by have := hK2.size; simp at this; omega
                clear e0 e1 e2 e3 y0 y1 y2 c0 c1 c2
                by_cases g0 : m2 = 0
                · subst g0
                  cases g1 : ((dAt ds j).from_ == F)
                  · have hs : Hid (sameArrow (dAt ds j) (dAt ds k) = false) := by
                      show _ = _
                      simp only [sameArrow, HF.out]
                      simp only [beq_eq_false_iff_ne] at g1
                      simp [g1]
                    go_wp2
                    go_roundw
                    case rel => exact ⟨j + 1, by omega, by go_num, hK2.trans ((Ext.refl _ _).alloc _), fun l hl => by
                      rcases Nat.lt_succ_iff_lt_or_eq.1 hl with h | rfl
                      · exact H2.out l h
                      · exact hs.out⟩
                    case measure => simp [intOf]; omega
                  · cases g2 : ((dAt ds j).to_ == T)
                    · have hs : Hid (sameArrow (dAt ds j) (dAt ds k) = false) := by
                        show _ = _
                        simp only [sameArrow, HT.out]
                        simp only [beq_eq_false_iff_ne] at g2
                        simp [g2]
                      go_wp2
                      go_roundw
                      case rel => exact ⟨j + 1, by omega, by go_num, hK2.trans ((Ext.refl _ _).alloc _), fun l hl => by
                        rcases Nat.lt_succ_iff_lt_or_eq.1 hl with h | rfl
                        · exact H2.out l h
                        · exact hs.out⟩
                      case measure => simp [intOf]; omega
                    · have hs : Hid (sameArrow (dAt ds j) (dAt ds k) = true) := by
                        show _ = _
                        simp only [sameArrow, HF.out, HT.out]
                        simp only [beq_iff_eq] at g1 g2
                        simp [g1, g2]
                        exact List.eq_nil_of_length_eq_zero E3.out
                      go_wp2
                      exact fin_ hQ ⟨ret_b (by rw [hfin.out, nAll_false hlt (declBad6 HM.out hltj hs.out)]), hK.trans (hK3.trans ((Ext.refl _ _).alloc _))⟩
                · have g0' : ((m2 : Int) == 0) = false := by simp; omega
                  have hs : Hid (sameArrow (dAt ds j) (dAt ds k) = false) := by
                    show _ = _
                    simp only [sameArrow, E3.out]
                    simp [g0]
                  go_wp2
                  go_roundw
                  case rel => exact ⟨j + 1, by omega, by go_num, hK2.trans ((Ext.refl _ _).alloc _), fun l hl => by
                    rcases Nat.lt_succ_iff_lt_or_eq.1 hl with h | rfl
                    · exact H2.out l h
                    · exact hs.out⟩
                  case measure => simp [intOf]; omega
              · go_wp2
                go_roundw
                case rel => exact ⟨k + 1, by omega, by go_num, hK.trans (hKa.trans hK2), fun l hl => by
                  rcases Nat.lt_succ_iff_lt_or_eq.1 hl with h | rfl
                  · exact H.out l h
                  · exact declGood2 HL.out HM.out (by rw [HF.out]; exact V1.out) (by rw [HT.out]; exact V2.out) (fun i hi => H2.out i (by omega))⟩
                case measure => simp [intOf]; omega
          · by_cases hz : F = 0 ∧ T = 0
            · obtain ⟨rfl, rfl⟩ := hz
              go_wp2_with fail
              refine (implIsType_yes _ _ _ _ _ V1.out).mono ?_
              rintro e w1 ⟨rfl, rfl⟩
              go_wp2_with fail
              refine (implIsType_yes _ _ _ _ _ V2.out).mono ?_
              rintro e w1 ⟨rfl, rfl⟩
              go_wp2_with fail
              go_loopw [56] (fun i w2 => ∃ j : Nat, j ≤ m ∧ i = .int .i64 j ∧ Keep (wo.alloc (.cells #[.int .i64 0, .int .i64 0, .slice a' m c'] 125)) w2 ∧ Hid (∀ l, l < j → conOk n (cAt (dAt ds k).cons l) = true)) (fun i _ => m - (intOf i).toNat)
              case atStart => exact ⟨0, Nat.zero_le _, rfl, Ext.refl _ _, fun j hj => absurd hj (by omega)⟩
              case round =>
                obtain ⟨w2, rfl⟩ : ∃ w2 : World, w2 = wr := ⟨_, rfl⟩
                obtain ⟨j, hj, rfl, hK2, H2⟩ := hrel
                have hK3 : Keep wo w2 := hKa.trans hK2
                have hlt2 : wo.heap.size < w2.heap.size := by have := hK2.size; simp at this; omega
                by_cases hltj : j < m
                · have hco := HCO.out.ext hK3 (fun _ _ h => h)
                  obtain ⟨b1, o1, rfl, hd1, hc1⟩ := hco.2 (by omega)
                  obtain ⟨a2, m2, c2', x0, hmc2, hints⟩ := hc1 j hltj
                  have hints1 := hints.ext ((Ext.refl (fun _ => False) w2).alloc (.cells #[.slice a2 m2 c2'] 155)) (fun _ _ h => h)
                  have HL2 := Lib.hid hints.1
                  clear hc1 hco hints c0 c1 c2
                  by_cases g1 : m2 ≤ 3
                  · cases hv : allT n (cAt (dAt ds k).cons j)
                    · have V := Lib.hid hv
                      clear hv
                      go_wp2_with fail
                      refine (implAllTypes _ _ _ _ _ _ _ _ _ hints1 (by omega)).mono ?_
                      rw [V.out]
                      rintro e w1 ⟨rfl, rfl⟩
                      go_wp2_with fail
                      exact fin_ hQ ⟨ret_b (by rw [hfin.out, nAll_false hlt (declBad5 HL.out (j := j) (by have := HM.out; omega) (by simp [conOk, V.out]))]), hK.trans (hK3.trans ((Ext.refl _ _).alloc _))⟩
                    · have V := Lib.hid hv
                      clear hv
                      go_wp2_with fail
                      refine (implAllTypes _ _ _ _ _ _ _ _ _ hints1 (by omega)).mono ?_
                      rw [V.out]
                      rintro e w1 ⟨rfl, rfl⟩
                      go_wp2_with fail
                      go_roundw
                      case rel => exact ⟨j + 1, by omega, by go_num, hK2.trans ((Ext.refl _ _).alloc _), fun l hl => by
                        rcases Nat.lt_succ_iff_lt_or_eq.1 hl with h | rfl
                        · exact H2.out l h
                        · exact conOk_iff.2 ⟨by have := HL2.out; omega, V.out⟩⟩
                      case measure => simp [intOf]; omega
                  · go_wp2_with fail
                    exact fin_ hQ ⟨ret_b (by rw [hfin.out, nAll_false hlt (declBad5 HL.out (j := j) (by have := HM.out; omega) (by have := HL2.out; simp [conOk]; omega))]), hK.trans (hK3.trans ((Ext.refl _ _).alloc _))⟩
                · have hm0' : ((m : Int) == 0) = false := by simp; omega
                  have y2 : w2.cell? ⟨wo.heap.size, 2, none⟩ = some (.slice a' m c') := box_keep hK2 2
                  clear c0 c1 c2
                  go_wp2_with fail
                  go_loopw [76] (fun i w3 => ∃ l : Nat, l ≤ k ∧ i = .int .i64 l ∧ Keep w2 w3) (fun i _ => k - (intOf i).toNat)
                  case atStart => exact ⟨0, Nat.zero_le _, rfl, Ext.refl _ _⟩
                  case round =>
                    obtain ⟨w3, rfl⟩ : ∃ w3 : World, w3 = wr := ⟨_, rfl⟩
                    obtain ⟨l, hl, rfl, hK4⟩ := hrel
                    have z2 := (hK4.cell (p := ⟨wo.heap.size, 2, none⟩) hlt2 (fun h => h)).trans y2
                    have hlt3 : wo.heap.size < w3.heap.size := by have := hK4.size; omega
                    clear y2
                    by_cases hltl : l < k
                    · obtain ⟨e0, e1, a2, m2, c2', e2, _, e3⟩ := HC.out l (by omega)
                      have hK5 : Keep wo w3 := hK3.trans hK4
                      have x0 := (hK5.cell (World.block_lt_of_cell? _ _ e0) (fun h => h)).trans e0
                      have x1 := (hK5.cell (World.block_lt_of_cell? _ _ e1) (fun h => h)).trans e1
                      have x2 := (hK5.cell (World.block_lt_of_cell? _ _ e2) (fun h => h)).trans e2
                      clear e0 e1 e2 e3
                      go_wp2_with fail
                      go_roundw
                      case rel => exact ⟨l + 1, by omega, by go_num, hK4.trans ((Ext.refl _ _).alloc _)⟩
                      case measure => simp [intOf]; omega
                    · go_wp2_with fail
                      go_roundw
                      case rel => exact ⟨k + 1, by omega, by go_num, hK.trans (hK3.trans hK4), fun l hl => by
                        rcases Nat.lt_succ_iff_lt_or_eq.1 hl with h | rfl
                        · exact H.out l h
                        · exact declGood1 HL.out (by have := HM.out; omega) (by have := HM.out; omega) HF.out HT.out (fun i hi => H2.out i (by have := HM.out; omega))⟩
                      case measure => simp [intOf]; omega
            · have hz' : F ≠ 0 ∨ T ≠ 0 := by
                by_cases h0 : F = 0
                · exact .inr fun h1 => hz ⟨h0, h1⟩
                · exact .inl h0
              have hb := Lib.hid (declBad4 (ds := ds) (k := k) (by have := HM.out; omega) (by rw [HF.out, HT.out]; exact hz'))
              clear hz
              cases g0 : (F != 0)
              · have g1 : (T != 0) = true := by
                  simp only [bne_eq_false_iff_eq] at g0
                  rcases hz' with h | h
                  · exact absurd g0 h
                  · simpa using h
                clear hz'
                go_wp2_with fail
                refine (implIsType_yes _ _ _ _ _ V1.out).mono ?_
                rintro e w1 ⟨rfl, rfl⟩
                go_wp2_with fail
                refine (implIsType_yes _ _ _ _ _ V2.out).mono ?_
                rintro e w1 ⟨rfl, rfl⟩
                go_wp2_with fail
                exact fin_ hQ ⟨ret_b (by rw [hfin.out, nAll_false hlt hb.out]), hK.trans hKa⟩
              · clear hz'
                go_wp2_with fail
                refine (implIsType_yes _ _ _ _ _ V1.out).mono ?_
                rintro e w1 ⟨rfl, rfl⟩
                go_wp2_with fail
                refine (implIsType_yes _ _ _ _ _ V2.out).mono ?_
                rintro e w1 ⟨rfl, rfl⟩
                go_wp2_with fail
                exact fin_ hQ ⟨ret_b (by rw [hfin.out, nAll_false hlt hb.out]), hK.trans hKa⟩
        · go_wp2_with fail
          refine (implIsType_yes _ _ _ _ _ V1.out).mono ?_
          rintro e w1 ⟨rfl, rfl⟩
          go_wp2_with fail
          refine (implIsType_yes _ _ _ _ _ V2.out).mono ?_
          rintro e w1 ⟨rfl, rfl⟩
          go_wp2_with fail
          exact fin_ hQ ⟨ret_b (by rw [hfin.out, nAll_false hlt (declBad3 (by have := HM.out; omega))]), hK.trans hKa⟩
      · go_wp2
        exact fin_ hQ ⟨ret_b (by rw [hfin.out]; exact (nAll.2 (fun l hl => H.out l (by omega))).symm), hK⟩
  · have hfin : Hid (typesOk ds = false) := by
      show _ = _
      simp [typesOk, hlen, h4]
    go_enter Tryz.func159, Tryz.ntmps159
    go_wp2
    exact fin_ hQ ⟨ret_b hfin.out.symm, Ext.refl _ _⟩
end Go.Proofs.YtkapldpmjkdmcaaGreat
/- Signatures: valid or not, by the reference and by the program. -/
namespace Go.Proofs.YtkapldpmjkdmcaaGreat
open Go.RowKit

def lentAt (s : SigL) (k : Nat) : Bool := decide (0 ≤ iAt s.lent k) && decide (iAt s.lent k < (s.params.length : Int)) && decide (iAt s.params (iAt s.lent k).toNat ≠ 0) && (decide (k = 0) || decide (iAt s.lent (k - 1) < iAt s.lent k))
def lentOk (s : SigL) : Bool := (List.range s.lent.length).all (lentAt s)
def sigOk (n : Nat) (s : SigL) : Bool := decide (s.params.length ≤ 3) && allT n s.params && isT n s.result && lentOk s
/-- Declarations and signatures are valid. -/
def sigsOk (ds : List DeclL) (sg : List SigL) : Bool :=
  typesOk ds && decide (1 ≤ sg.length) && decide (sg.length ≤ 4) && decide ((sgAt sg 0).params.length = 0) && decide ((sgAt sg 0).result = 0) && (List.range sg.length).all (fun i => sigOk ds.length (sgAt sg i))
def sigF (f : FuncL) : SigL := ⟨f.params, [], f.result⟩
theorem sgAt_sigF (fs : List FuncL) {i : Nat} (h : i < fs.length) : sgAt (fs.map sigF) i = sigF (fAt fs i) := by
  rw [sgAt_get (by simpa using h), fAt_get h]; simp

theorem sigsOk_types {ds sg} (h : typesOk ds = false) : sigsOk ds sg = false := by simp [sigsOk, h]
theorem sigsOk_len {ds} {sg : List SigL} (h : sg.length < 1 ∨ 4 < sg.length) : sigsOk ds sg = false := by
  rcases h with h | h
  · have e : decide (1 ≤ sg.length) = false := decide_eq_false (by omega)
    simp only [sigsOk, e, Bool.and_false, Bool.false_and]
  · have e : decide (sg.length ≤ 4) = false := decide_eq_false (by omega)
    simp only [sigsOk, e, Bool.and_false, Bool.false_and]
theorem sigsOk_first {ds} {sg : List SigL} (h : ¬ ((sgAt sg 0).params.length = 0 ∧ (sgAt sg 0).result = 0)) : sigsOk ds sg = false := by
  by_cases h1 : (sgAt sg 0).params.length = 0
  · have e : decide ((sgAt sg 0).result = 0) = false := decide_eq_false (fun h2 => h ⟨h1, h2⟩)
    simp only [sigsOk, e, Bool.and_false, Bool.false_and]
  · have e : decide ((sgAt sg 0).params.length = 0) = false := decide_eq_false h1
    simp only [sigsOk, e, Bool.and_false, Bool.false_and]
theorem sigsOk_at {ds} {sg : List SigL} {n i : Nat} (hn : ds.length = n) (hi : i < sg.length) (h : sigOk n (sgAt sg i) = false) : sigsOk ds sg = false := by
  subst hn
  have e : (List.range sg.length).all (fun i => sigOk ds.length (sgAt sg i)) = false := nAll_false hi h
  simp only [sigsOk, e, Bool.and_false]
theorem sigsOk_yes {ds} {sg : List SigL} {n : Nat} (hn : ds.length = n) (h1 : typesOk ds = true) (h2 : 1 ≤ sg.length) (h3 : sg.length ≤ 4) (h4 : (sgAt sg 0).params.length = 0) (h5 : (sgAt sg 0).result = 0)
    (h : ∀ i, i < sg.length → sigOk n (sgAt sg i) = true) : sigsOk ds sg = true := by
  subst hn
  have e : (List.range sg.length).all (fun i => sigOk ds.length (sgAt sg i)) = true := nAll.2 h
  simp only [sigsOk, e, h1, h2, h3, h4, h5, decide_true, Bool.and_self]
theorem sigOk_len {n : Nat} {s : SigL} (h : 3 < s.params.length) : sigOk n s = false := by
  have e : decide (s.params.length ≤ 3) = false := decide_eq_false (by omega)
  simp only [sigOk, e, Bool.false_and]
theorem sigOk_params {n : Nat} {s : SigL} (h : allT n s.params = false) : sigOk n s = false := by simp only [sigOk, h, Bool.and_false, Bool.false_and]
theorem sigOk_result {n : Nat} {s : SigL} (h : isT n s.result = false) : sigOk n s = false := by simp only [sigOk, h, Bool.and_false, Bool.false_and]
theorem sigOk_lent {n : Nat} {s : SigL} {k : Nat} (hk : k < s.lent.length) (h : lentAt s k = false) : sigOk n s = false := by
  have e : lentOk s = false := nAll_false hk h
  simp only [sigOk, e, Bool.and_false]
theorem sigOk_yes {n : Nat} {s : SigL} (h1 : s.params.length ≤ 3) (h2 : allT n s.params = true) (h3 : isT n s.result = true) (h4 : ∀ k, k < s.lent.length → lentAt s k = true) : sigOk n s = true := by
  have e : lentOk s = true := nAll.2 h4
  simp only [sigOk, e, h1, h2, h3, decide_true, Bool.and_self]
theorem sigF_lent {f : FuncL} : (sigF f).lent.length = 0 := rfl

theorem specValidTypesR (a : Option Addr) (n c : Nat) (ds : List DeclL) (D : Nat → Prop) (w : World) (h : Rd w D (encDecls ds) (.slice a n c)) :
    Calls Tryz.prog 142 #[.slice a n c] w fun e w' => e = .returned (.bool (typesOk ds)) ∧ Keep w w' := by
  by_cases h4 : n ≤ 4
  · exact specValidTypes0 a n c ds D w h.toDecls (by omega)
  refine calls_k fun Q hQ => ?_
  have hlen := h.toDecls.1
  have hfin : Hid (typesOk ds = false) := by
    show _ = _
    simp [typesOk, hlen, h4]
  go_enter Tryz.func142, Tryz.ntmps142
  go_wp2
  exact fin_ hQ ⟨ret_b hfin.out.symm, Ext.refl _ _⟩

set_option maxRecDepth 100000 in
set_option maxHeartbeats 2000000 in
theorem specValidSigs0 (ds : List DeclL) (fs : List FuncL) (a0 : Option Addr) (n0 c0 : Nat) (a1 : Option Addr) (n1 c1 : Nat) (D0 D1 : Nat → Prop) (w : World) (r0 : Rd w D0 (encDecls ds) (.slice a0 n0 c0)) (r1 : Rd w D1 (encFuncs fs) (.slice a1 n1 c1)) :
    Calls Tryz.prog 97 #[.agg #[.slice a0 n0 c0, .slice a1 n1 c1]] w fun e w' => e = .returned (.bool (sigsOk ds (fs.map sigF))) ∧ Keep w w' := by
  refine calls_k fun Q hQ => ?_
  have K0 := Keep.al w (.cells #[.slice a0 n0 c0, .slice a1 n1 c1] 44)
  have hd0 := Lib.hid (r0.toDecls.1)
  obtain ⟨e1, hnc, hm, hat⟩ := funcs_at r1
  have HL := Lib.hid e1
  have HA := Lib.hid hat
  have HLM : Hid ((fs.map sigF).length = n1) := by show _ = _; simp [e1]
  clear e1 hat
  cases v1 : typesOk ds
  · have V := Lib.hid (sigsOk_types (sg := fs.map sigF) v1)
    have V1 := Lib.hid v1
    clear v1
    go_enter Tryz.func97, Tryz.ntmps97
    go_wp2_with fail
    refine (specValidTypesR _ _ _ _ _ _ (r0.k K0)).mono ?_
    rw [V1.out]
    rintro e w1 ⟨rfl, p1⟩
    go_wp2_with fail
    exact fin_ hQ ⟨ret_b V.out.symm, K0.trans p1⟩
  have V1 := Lib.hid v1
  clear v1
  by_cases hl : 1 ≤ n1 ∧ n1 ≤ 4
  case neg =>
    have V := Lib.hid (sigsOk_len (ds := ds) (sg := fs.map sigF) (by have := HLM.out; omega))
    have V2 : Hid (decide ((1 : Int) ≤ (n1 : Int) ∧ (n1 : Int) ≤ 4) = false) := decide_eq_false (by omega)
    clear hl
    go_enter Tryz.func97, Tryz.ntmps97
    go_wp2_with fail
    refine (specValidTypesR _ _ _ _ _ _ (r0.k K0)).mono ?_
    rw [V1.out]
    rintro e w1 ⟨rfl, p1⟩
    have x1 := boxk p1 1
    simp at x1
    go_wp2_with fail
    refine (specInRange _ _ _ _).mono ?_
    rw [V2.out]
    rintro e w2 ⟨rfl, rfl⟩
    go_wp2_with fail
    exact fin_ hQ ⟨ret_b V.out.symm, K0.trans p1⟩
  obtain ⟨hl1, hl4⟩ := hl
  have V2 : Hid (decide ((1 : Int) ≤ (n1 : Int) ∧ (n1 : Int) ≤ 4) = true) := decide_eq_true (by omega)
  go_enter Tryz.func97, Tryz.ntmps97
  go_wp2_with fail
  refine (specValidTypesR _ _ _ _ _ _ (r0.k K0)).mono ?_
  rw [V1.out]
  rintro e w1 ⟨rfl, p1⟩
  have x1 := boxk p1 1
  simp at x1
  go_wp2_with fail
  refine (specInRange _ _ _ _).mono ?_
  rw [V2.out]
  rintro e w2 ⟨rfl, rfl⟩
  go_wp2_with fail
  clear x1
  go_loopw [3] (fun iv wr => ∃ j : Nat, j ≤ n1 ∧ iv = .int .i64 j ∧ Hid (∀ l, l < j → sigOk n0 (sgAt (fs.map sigF) l) = true) ∧ Keep (w.alloc (.cells #[.slice a0 n0 c0, .slice a1 n1 c1] 44)) wr) (fun i _ => n1 - (intOf i).toNat)
  case atStart => exact ⟨0, Nat.zero_le _, rfl, fun j hj => absurd hj (by omega), p1⟩
  case round =>
    obtain ⟨wo, rfl⟩ : ∃ wo : World, wo = wr := ⟨_, rfl⟩
    obtain ⟨j, hj, rfl, H, hK⟩ := hrel
    have x0 := boxk hK 0
    have x1 := boxk hK 1
    simp at x0 x1
    by_cases hlt : j < n1
    · obtain ⟨b, o, rfl, hd, a3, n3, c3, a4, n4, c4, d0, d1, d2, d3, d4, r3, r4⟩ := HA.out j hlt
      have hKw := K0.trans hK
      have g0 := (hKw.cell (World.block_lt_of_cell? w _ d0) (fun h => h)).trans d0
      have g1 := (hKw.cell (World.block_lt_of_cell? w _ d1) (fun h => h)).trans d1
      have g2 := (hKw.cell (World.block_lt_of_cell? w _ d2) (fun h => h)).trans d2
      have g3 := (hKw.cell (World.block_lt_of_cell? w _ d3) (fun h => h)).trans d3
      have g4 := (hKw.cell (World.block_lt_of_cell? w _ d4) (fun h => h)).trans d4
      have hP := Lib.hid r3.toInts.1
      have HG := Lib.hid (sgAt_sigF fs (i := j) (by have := HL.out; omega))
      have ka := Keep.al wo (.cells #[.slice a3 n3 c3, .int .i64 (fAt fs j).result, .int .i64 (fAt fs j).body.op, .int .i64 (fAt fs j).body.num, .slice a4 n4 c4] 60)
      have q3 := Lib.hid (((r3.k hKw).k ka).toInts)
      have hKa := Lib.hid (hKw.trans ka)
      have hKb := Lib.hid (hK.trans ka)
      have z0 := boxk hKb.out 0
      simp only [List.getElem?_toArray, List.getElem?_cons_zero] at z0
      clear d0 d1 d2 d3 d4 r3 r4 ka
      by_cases h3 : n3 ≤ 3
      case neg =>
        have V := Lib.hid (sigsOk_at (ds := ds) hd0.out (by have := HLM.out; omega) (show sigOk n0 (sgAt (fs.map sigF) j) = false from by rw [HG.out]; exact sigOk_len (by have := hP.out; show 3 < (fAt fs j).params.length; omega)))
        go_wp2_with fail
        exact fin_ hQ ⟨ret_b V.out.symm, hKa.out⟩
      cases v3 : allT n0 (fAt fs j).params
      · have V := Lib.hid (sigsOk_at (ds := ds) hd0.out (by have := HLM.out; omega) (show sigOk n0 (sgAt (fs.map sigF) j) = false from by rw [HG.out]; exact sigOk_params v3))
        have V3 := Lib.hid v3
        clear v3
        go_wp2_with fail
        refine (specAllTypes _ _ _ _ _ _ _ _ _ q3.out (by omega)).mono ?_
        rw [V3.out]
        rintro e w2 ⟨rfl, rfl⟩
        go_wp2_with fail
        exact fin_ hQ ⟨ret_b V.out.symm, hKa.out⟩
      have V3 := Lib.hid v3
      clear v3
      cases v4 : isT n0 (fAt fs j).result
      · have V := Lib.hid (sigsOk_at (ds := ds) hd0.out (by have := HLM.out; omega) (show sigOk n0 (sgAt (fs.map sigF) j) = false from by rw [HG.out]; exact sigOk_result v4))
        have V4 : Hid (decide (0 ≤ (fAt fs j).result ∧ (fAt fs j).result ≤ (n0 : Int)) = false) := v4
        clear v4
        go_wp2_with fail
        refine (specAllTypes _ _ _ _ _ _ _ _ _ q3.out (by omega)).mono ?_
        rw [V3.out]
        rintro e w2 ⟨rfl, rfl⟩
        go_wp2_with fail
        refine (specInRange _ _ _ _).mono ?_
        rw [V4.out]
        rintro e w2 ⟨rfl, rfl⟩
        go_wp2_with fail
        exact fin_ hQ ⟨ret_b V.out.symm, hKa.out⟩
      have V5 := Lib.hid v4
      have V4 : Hid (decide (0 ≤ (fAt fs j).result ∧ (fAt fs j).result ≤ (n0 : Int)) = true) := v4
      clear v4
      go_wp2_with fail
      refine (specAllTypes _ _ _ _ _ _ _ _ _ q3.out (by omega)).mono ?_
      rw [V3.out]
      rintro e w2 ⟨rfl, rfl⟩
      go_wp2_with fail
      refine (specInRange _ _ _ _).mono ?_
      rw [V4.out]
      rintro e w2 ⟨rfl, rfl⟩
      go_wp2_with fail
      go_roundw
      case rel => exact ⟨j + 1, by omega, by go_num, fun l hl => by
        rcases Nat.lt_succ_iff_lt_or_eq.1 hl with h | rfl
        · exact H.out l h
        · rw [HG.out]; exact sigOk_yes (by have := hP.out; show (fAt fs l).params.length ≤ 3; omega) V3.out V5.out (fun k hk => absurd hk (by rw [sigF_lent]; omega)), hKb.out⟩
      case measure => simp [intOf]; omega
    · obtain ⟨b, o, rfl, hd, a3, n3, c3, a4, n4, c4, d0, d1, d2, d3, d4, r3, r4⟩ := HA.out 0 (by omega)
      have hKw := K0.trans hK
      have g0 := (hKw.cell (World.block_lt_of_cell? w _ d0) (fun h => h)).trans d0
      have g1 := (hKw.cell (World.block_lt_of_cell? w _ d1) (fun h => h)).trans d1
      rw [Nat.zero_mul, Nat.add_zero] at g0 g1
      have hP := r3.toInts.1
      have HG := sgAt_sigF fs (i := 0) (by have := HL.out; omega)
      have HJ : j = n1 := by omega
      clear d0 d1 d2 d3 d4 r3 r4
      by_cases h0 : n3 = 0
      · by_cases h5 : (fAt fs 0).result = 0
        · have V := Lib.hid (sigsOk_yes (n := n0) hd0.out V1.out (by have := HLM.out; omega) (by have := HLM.out; omega) (by rw [HG]; show (fAt fs 0).params.length = 0; omega) (by rw [HG]; exact h5) (fun i hi => H.out i (by have := HLM.out; omega)))
          clear hP HG HJ
          subst h0
          rw [h5] at g1
          go_wp2_with fail
          exact fin_ hQ ⟨ret_b (by rw [V.out]), hKw⟩
        · have V := Lib.hid (sigsOk_first (ds := ds) (sg := fs.map sigF) (fun h => h5 (by have := h.2; rw [HG] at this; exact this)))
          have h5' : ((fAt fs 0).result == 0) = false := by simpa using h5
          clear hP HG HJ h5
          subst h0
          go_wp2_with fail
          exact fin_ hQ ⟨ret_b (by rw [V.out]), hKw⟩
      · have V := Lib.hid (sigsOk_first (ds := ds) (sg := fs.map sigF) (fun h => h0 (by have := h.1; rw [HG] at this; have e : (fAt fs 0).params.length = 0 := this; omega)))
        have h0' : ((n3 : Int) == 0) = false := by simp; omega
        clear hP HG HJ h0
        go_wp2_with fail
        exact fin_ hQ ⟨ret_b (by rw [V.out]), hKw⟩
end Go.Proofs.YtkapldpmjkdmcaaGreat
/- Expressions in plain Lean: nodes, mentions. -/
namespace Go.Proofs.YtkapldpmjkdmcaaGreat

mutual
/-- The number of nodes. -/
def nE : ExprL → Nat
  | .mk _ _ ks => nEs ks + 1
def nEs : List ExprL → Nat
  | [] => 0
  | k :: ks => nE k + nEs ks
end
theorem nE_eq (e : ExprL) : nE e = nEs e.kids + 1 := by cases e; rfl
theorem nE_pos (e : ExprL) : 1 ≤ nE e := by rw [nE_eq]; omega
theorem nEs_append (a b : List ExprL) : nEs (a ++ b) = nEs a + nEs b := by induction a <;> simp_all [nEs, Nat.add_assoc]
theorem take_succ_eAt (es : List ExprL) {j : Nat} (h : j < es.length) : es.take (j + 1) = es.take j ++ [eAt es j] := by rw [List.take_succ_eq_append_getElem h, eAt_get h]
theorem nEs_take (es : List ExprL) {j : Nat} (h : j < es.length) : nEs (es.take (j + 1)) = nEs (es.take j) + nE (eAt es j) := by rw [take_succ_eAt es h, nEs_append]; simp [nEs]
theorem nEs_take_le (es : List ExprL) (j : Nat) : nEs (es.take j) ≤ nEs es := by
  rw [← List.take_append_drop j es, nEs_append]; simp
theorem nE_le (es : List ExprL) {j : Nat} (h : j < es.length) : nE (eAt es j) ≤ nEs es := by
  have h1 := nEs_take es h
  have h2 := nEs_take_le es (j + 1)
  omega
theorem nEs_len (es : List ExprL) : es.length ≤ nEs es := by
  induction es with
  | nil => simp
  | cons e es ih => have := nE_pos e; simp only [List.length_cons, nEs]; omega

mutual
/-- How often a variable is mentioned. -/
def mE (v : Int) : ExprL → Nat
  | .mk op num ks => (if op = 12 ∧ num = v then 1 else 0) + mEs v ks
def mEs (v : Int) : List ExprL → Nat
  | [] => 0
  | k :: ks => mE v k + mEs v ks
end
theorem mEs_append (v : Int) (a b : List ExprL) : mEs v (a ++ b) = mEs v a + mEs v b := by induction a <;> simp_all [mEs, Nat.add_assoc]
theorem mEs_take (v : Int) (es : List ExprL) {j : Nat} (h : j < es.length) : mEs v (es.take (j + 1)) = mEs v (es.take j) + mE v (eAt es j) := by rw [take_succ_eAt es h, mEs_append]; simp [mEs]
mutual
theorem mE_le (v : Int) : ∀ e : ExprL, mE v e ≤ nE e
  | .mk op num ks => by
    have := mEs_le v ks
    rw [mE, nE]
    split <;> omega
theorem mEs_le (v : Int) : ∀ es : List ExprL, mEs v es ≤ nEs es
  | [] => Nat.le_refl _
  | k :: ks => by
    have := mE_le v k
    have := mEs_le v ks
    rw [mEs, nEs]
    omega
end
theorem mEs_take_le (v : Int) (es : List ExprL) (j : Nat) : mEs v (es.take j) ≤ mEs v es := by
  conv => rhs; rw [← List.take_append_drop j es, mEs_append]
  omega
end Go.Proofs.YtkapldpmjkdmcaaGreat
/- Numbers of constructors, the place of a constructor, the arrow type between two types: in plain Lean. -/
namespace Go.Proofs.YtkapldpmjkdmcaaGreat

/-- The declarations are few, and so are their constructors. -/
def Few (ds : List DeclL) : Prop := ds.length ≤ 4 ∧ ∀ i, i < ds.length → (dAt ds i).cons.length ≤ 3

def firstN (ds : List DeclL) : Nat → Nat
  | 0 => 0
  | k + 1 => firstN ds k + (dAt ds k).cons.length
def conN (ds : List DeclL) : Nat := firstN ds ds.length

theorem declOk_few {ds : List DeclL} {k : Nat} (h : declOk ds k = true) : (dAt ds k).cons.length ≤ 3 := by
  unfold declOk at h
  split at h
  · simp at h; omega
  · omega
theorem Few.of_ok {ds : List DeclL} (h : typesOk ds = true) : Few ds := by
  simp only [typesOk, Bool.and_eq_true, decide_eq_true_eq] at h
  exact ⟨h.1, fun i hi => declOk_few (nAll.1 h.2 i hi)⟩
theorem firstN_le {ds : List DeclL} (h : Few ds) {k : Nat} (hk : k ≤ ds.length) : firstN ds k ≤ 3 * k := by
  induction k with
  | zero => simp [firstN]
  | succ k ih => have := h.2 k (by omega); have := ih (by omega); simp only [firstN]; omega
/-- The first of the numbers below n that is right. -/
def firstIx (n : Nat) (p : Nat → Bool) : Option Nat := (List.range n).find? p
theorem firstIx_some {n i : Nat} {p : Nat → Bool} (hi : i < n) (hp : p i = true) (hb : ∀ j, j < i → p j = false) : firstIx n p = some i := by
  unfold firstIx
  rw [List.find?_range_eq_some]
  exact ⟨hp, by simpa using hi, fun j hj => by simp [hb j hj]⟩
theorem firstIx_none {n : Nat} {p : Nat → Bool} (hb : ∀ j, j < n → p j = false) : firstIx n p = none := by
  unfold firstIx
  rw [List.find?_eq_none]
  intro j hj
  simp at hj
  simp [hb j hj]
theorem firstIx_spec {n i : Nat} {p : Nat → Bool} (h : firstIx n p = some i) : i < n ∧ p i = true ∧ ∀ j, j < i → p j = false := by
  unfold firstIx at h
  rw [List.find?_range_eq_some] at h
  exact ⟨by simpa using h.2.1, h.1, fun j hj => by simpa using h.2.2 j hj⟩
/-- A type plus 1, or -1. -/
def typeOr : Option Nat → Int
  | some i => (i : Int) + 1
  | none => -1
def inDecl (ds : List DeclL) (c : Int) (i : Nat) : Bool := decide ((firstN ds i : Int) ≤ c ∧ c < (firstN ds (i + 1) : Int))
def conIx (ds : List DeclL) (c : Int) : Option Nat := firstIx ds.length (inDecl ds c)
def conTypeL (ds : List DeclL) (c : Int) : Int := typeOr (conIx ds c)
/-- The fields of a constructor; none if there is no such constructor. -/
def conFieldsL (ds : List DeclL) (c : Int) : List Int :=
  match conIx ds c with
  | some i => cAt (dAt ds i).cons (c.toNat - firstN ds i)
  | none => []
def isArrow (ds : List DeclL) (f t : Int) (i : Nat) : Bool := decide ((dAt ds i).cons.length = 0) && ((dAt ds i).from_ == f) && ((dAt ds i).to_ == t)
def arrowL (ds : List DeclL) (f t : Int) : Int := typeOr (firstIx ds.length (isArrow ds f t))
/-- The numbers of the constructors of a type. -/
def consL (ds : List DeclL) (t : Int) : List Int :=
  if 1 ≤ t ∧ t ≤ (ds.length : Int) then (List.range (dAt ds (t.toNat - 1)).cons.length).map fun i => ((firstN ds (t.toNat - 1) + i : Nat) : Int) else []
end Go.Proofs.YtkapldpmjkdmcaaGreat
/- The types of expressions, plain. -/
namespace Go.Proofs.YtkapldpmjkdmcaaGreat
open Go.RowKit

/-- A type is an arrow type. -/
def isArr (ds : List DeclL) (t : Int) : Bool := decide (1 ≤ t ∧ t ≤ (ds.length : Int)) && decide ((dAt ds (t.toNat - 1)).cons.length = 0)
/-- The type of an operation that neither binds nor chooses, for kids of some types; -1 if it is not right. -/
def simpleL (ds : List DeclL) (sg : List SigL) (op num : Int) (tys : List Int) : Int :=
  if op = 0 then (if tys = [] ∧ -999 ≤ num ∧ num ≤ 999 then 0 else -1)
  else if op = 1 ∨ op = 2 ∨ op = 3 ∨ op = 4 then (if num = 0 ∧ tys = [0, 0] then 0 else -1)
  else if op = 5 then (if num = 0 ∧ tys = [0] then 0 else -1)
  else if op = 11 then (if num = 0 ∧ tys.length = 2 ∧ isArr ds (iAt tys 0) = true ∧ iAt tys 1 = (dAt ds ((iAt tys 0).toNat - 1)).from_ then (dAt ds ((iAt tys 0).toNat - 1)).to_ else -1)
  else if op = 6 then (if 0 < conTypeL ds num ∧ tys = conFieldsL ds num then conTypeL ds num else -1)
  else if op = 9 then (if 0 ≤ num ∧ num < (sg.length : Int) ∧ tys = (sgAt sg num.toNat).params then (sgAt sg num.toNat).result else -1)
  else if op = 10 then (if 0 ≤ num ∧ num < (sg.length : Int) ∧ 0 < (sgAt sg num.toNat).params.length ∧ tys = (sgAt sg num.toNat).params.take ((sgAt sg num.toNat).params.length - 1) then
    arrowL ds (iAt (sgAt sg num.toNat).params ((sgAt sg num.toNat).params.length - 1)) (sgAt sg num.toNat).result else -1)
  else -1
/-- The type that all have, or -1. -/
def oneT : List Int → Int
  | [] => -1
  | t :: ts => if 0 ≤ t ∧ ts.all (fun u => decide (u = t)) = true then t else -1
/-- The fields of the constructors of a type. -/
def armsL (ds : List DeclL) (t : Int) : List (List Int) := (consL ds t).map (conFieldsL ds)

mutual
/-- The type of an expression; -1 if it has none. -/
def tyE (ds : List DeclL) (sg : List SigL) (vars : List Int) : ExprL → Int
  | .mk op num ks =>
    if op = 12 then (if ks.length = 0 ∧ 0 ≤ num ∧ num < (vars.length : Int) then iAt vars num.toNat else -1)
    else if op = 13 then (if num = 0 ∧ ks.length = 2 then tyLet ds sg vars ks else -1)
    else if op = 7 then (if num = 0 ∧ ks.length = 3 ∧ tyHd ds sg vars ks = 0 then oneT (tyTl ds sg vars ks [[], []]) else -1)
    else if op = 8 then (if 0 < (armsL ds num).length ∧ ks.length = 1 + (armsL ds num).length ∧ tyHd ds sg vars ks = num then oneT (tyTl ds sg vars ks (armsL ds num)) else -1)
    else simpleL ds sg op num (tyEs ds sg vars ks)
def tyEs (ds : List DeclL) (sg : List SigL) (vars : List Int) : List ExprL → List Int
  | [] => []
  | k :: ks => tyE ds sg vars k :: tyEs ds sg vars ks
def tyHd (ds : List DeclL) (sg : List SigL) (vars : List Int) : List ExprL → Int
  | [] => -1
  | k :: _ => tyE ds sg vars k
def tyTl (ds : List DeclL) (sg : List SigL) (vars : List Int) : List ExprL → List (List Int) → List Int
  | [], _ => []
  | _ :: ks, fs => tyArms ds sg vars ks fs
def tyArms (ds : List DeclL) (sg : List SigL) (vars : List Int) : List ExprL → List (List Int) → List Int
  | [], _ => []
  | k :: ks, fs => tyE ds sg (vars ++ fs.headD []) k :: tyArms ds sg vars ks fs.tail
def tyLet (ds : List DeclL) (sg : List SigL) (vars : List Int) : List ExprL → Int
  | [] => -1
  | k :: ks => if 0 ≤ tyE ds sg vars k then tyHd ds sg (vars ++ [tyE ds sg vars k]) ks else -1
end

section
variable (ds : List DeclL) (sg : List SigL) (vars : List Int)
theorem tyEs_map (ks : List ExprL) : tyEs ds sg vars ks = ks.map (tyE ds sg vars) := by induction ks <;> simp_all [tyEs]
theorem tyEs_len (ks : List ExprL) : (tyEs ds sg vars ks).length = ks.length := by rw [tyEs_map]; simp
theorem tyEs_at {ks : List ExprL} {i : Nat} (h : i < ks.length) : iAt (tyEs ds sg vars ks) i = tyE ds sg vars (eAt ks i) := by
  rw [tyEs_map, iAt_get (by simpa using h), eAt_get h]; simp
theorem tyHd_at {ks : List ExprL} (h : 0 < ks.length) : tyHd ds sg vars ks = tyE ds sg vars (eAt ks 0) := by
  cases ks with
  | nil => simp at h
  | cons k ks => rfl
theorem tyArms_len (ks : List ExprL) (fs : List (List Int)) : (tyArms ds sg vars ks fs).length = ks.length := by
  induction ks generalizing fs with
  | nil => rfl
  | cons k ks ih => simp [tyArms, ih]
theorem tyArms_at {ks : List ExprL} {fs : List (List Int)} {i : Nat} (h : i < ks.length) : iAt (tyArms ds sg vars ks fs) i = tyE ds sg (vars ++ cAt fs i) (eAt ks i) := by
  induction ks generalizing fs i with
  | nil => simp at h
  | cons k ks ih =>
    cases i with
    | zero => cases fs <;> simp [tyArms, iAt, cAt, eAt, List.headD]
    | succ i =>
      have := ih (fs := fs.tail) (i := i) (by simpa using h)
      simp only [tyArms, iAt, List.getD_cons_succ] at this ⊢
      rw [this]
      have e1 : cAt fs.tail i = cAt fs (i + 1) := by cases fs <;> simp [cAt]
      have e2 : eAt (k :: ks) (i + 1) = eAt ks i := by simp [eAt]
      rw [e1, e2]
theorem tyTl_len {ks : List ExprL} (fs : List (List Int)) : (tyTl ds sg vars ks fs).length = ks.length - 1 := by
  cases ks with
  | nil => rfl
  | cons k ks => simp [tyTl, tyArms_len]
theorem tyTl_at {ks : List ExprL} {fs : List (List Int)} {i : Nat} (h : i + 1 < ks.length) : iAt (tyTl ds sg vars ks fs) i = tyE ds sg (vars ++ cAt fs i) (eAt ks (i + 1)) := by
  cases ks with
  | nil => simp at h
  | cons k ks =>
    have := tyArms_at ds sg vars (ks := ks) (fs := fs) (i := i) (by simpa using h)
    rw [tyTl, this]
    simp [eAt]
theorem tyLet_at {ks : List ExprL} (h : ks.length = 2) : tyLet ds sg vars ks = if 0 ≤ tyE ds sg vars (eAt ks 0) then tyE ds sg (vars ++ [tyE ds sg vars (eAt ks 0)]) (eAt ks 1) else -1 := by
  match ks, h with
  | [a, b], _ => simp [tyLet, tyHd, eAt]
end
theorem oneT_at {ts : List Int} (h0 : 0 < ts.length) (h1 : 0 ≤ iAt ts 0) (h : ∀ i, i < ts.length → iAt ts i = iAt ts 0) : oneT ts = iAt ts 0 := by
  cases ts with
  | nil => simp at h0
  | cons t ts =>
    have e : iAt (t :: ts) 0 = t := by simp [iAt]
    rw [e] at h1 h ⊢
    have h2 : ts.all (fun u => decide (u = t)) = true := by
      rw [List.all_eq_true]
      intro u hu
      obtain ⟨i, hi, rfl⟩ := List.getElem_of_mem hu
      have := h (i + 1) (by simpa using hi)
      simpa [iAt, hi] using this
    rw [oneT, if_pos ⟨h1, h2⟩]
theorem oneT_neg {ts : List Int} {i : Nat} (hi : i < ts.length) (h : iAt ts i ≠ iAt ts 0 ∨ iAt ts i < 0) : oneT ts = -1 := by
  cases ts with
  | nil => simp at hi
  | cons t ts =>
    have e : iAt (t :: ts) 0 = t := by simp [iAt]
    rw [e] at h
    rw [oneT, if_neg ?_]
    rintro ⟨h1, h2⟩
    rw [List.all_eq_true] at h2
    cases i with
    | zero => rw [e] at h; omega
    | succ i =>
      have hi' : i < ts.length := by simpa using hi
      have := h2 ts[i] (List.getElem_mem hi')
      have e2 : iAt (t :: ts) (i + 1) = ts[i] := by simp [iAt, hi']
      rw [e2] at h
      simp at this
      omega
end Go.Proofs.YtkapldpmjkdmcaaGreat
/- The types of expressions, plain: what has a type has one that there is. -/
namespace Go.Proofs.YtkapldpmjkdmcaaGreat
open Go.RowKit

theorem isT_iff {n : Nat} {t : Int} : isT n t = true ↔ 0 ≤ t ∧ t ≤ (n : Int) := by simp [isT]
theorem allT_iff {n : Nat} {xs : List Int} : allT n xs = true ↔ ∀ i, i < xs.length → isT n (iAt xs i) = true := iAll
theorem allT_append {n : Nat} {xs ys : List Int} (h : allT n xs = true) (h2 : allT n ys = true) : allT n (xs ++ ys) = true := by simp only [allT, List.all_append, Bool.and_eq_true] at *; exact ⟨h, h2⟩
theorem allT_one {n : Nat} {t : Int} (h : isT n t = true) : allT n [t] = true := by simp [allT, h]
theorem allT_at {n : Nat} {xs : List Int} (h : allT n xs = true) {i : Nat} (hi : i < xs.length) : 0 ≤ iAt xs i ∧ iAt xs i ≤ (n : Int) := isT_iff.1 (allT_iff.1 h i hi)
theorem typesOk_decl {ds : List DeclL} (h : typesOk ds = true) {k : Nat} (hk : k < ds.length) : declOk ds k = true := by
  simp only [typesOk, Bool.and_eq_true] at h
  exact nAll.1 h.2 k hk
theorem typesOk_len {ds : List DeclL} (h : typesOk ds = true) : ds.length ≤ 4 := by
  simp only [typesOk, Bool.and_eq_true, decide_eq_true_eq] at h
  exact h.1
theorem declOk_arrow {ds : List DeclL} {k : Nat} (h : declOk ds k = true) (h0 : (dAt ds k).cons.length = 0) : isT ds.length (dAt ds k).from_ = true ∧ isT ds.length (dAt ds k).to_ = true := by
  unfold declOk at h
  rw [if_neg (by omega)] at h
  simp only [Bool.and_eq_true] at h
  exact ⟨h.1.1, h.1.2⟩
theorem conFieldsL_ok {ds : List DeclL} (h : typesOk ds = true) (c : Int) : (conFieldsL ds c).length ≤ 3 ∧ allT ds.length (conFieldsL ds c) = true := by
  unfold conFieldsL
  split
  · next i hi =>
    obtain ⟨h1, h2, _⟩ := firstIx_spec hi
    have hd := typesOk_decl h h1
    have h2 : (firstN ds i : Int) ≤ c ∧ c < (firstN ds (i + 1) : Int) := of_decide_eq_true h2
    have h3 : firstN ds (i + 1) = firstN ds i + (dAt ds i).cons.length := rfl
    have hc : c.toNat - firstN ds i < (dAt ds i).cons.length := by omega
    unfold declOk at hd
    rw [if_pos (by omega)] at hd
    simp only [Bool.and_eq_true] at hd
    have := cAll.1 hd.2 _ hc
    simp only [conOk, Bool.and_eq_true, decide_eq_true_eq] at this
    exact this
  · exact ⟨by simp, rfl⟩
theorem typeOr_range {n : Nat} {p : Nat → Bool} : typeOr (firstIx n p) = -1 ∨ isT n (typeOr (firstIx n p)) = true := by
  cases h : firstIx n p with
  | none => exact .inl rfl
  | some i =>
    obtain ⟨h1, _⟩ := firstIx_spec h
    refine .inr (isT_iff.2 ?_)
    show 0 ≤ (i : Int) + 1 ∧ (i : Int) + 1 ≤ n
    omega
theorem sigsOk_parts {ds : List DeclL} {sg : List SigL} (h : sigsOk ds sg = true) : typesOk ds = true ∧ 1 ≤ sg.length ∧ sg.length ≤ 4 ∧ ∀ i, i < sg.length → sigOk ds.length (sgAt sg i) = true := by
  simp only [sigsOk, Bool.and_eq_true, decide_eq_true_eq] at h
  exact ⟨h.1.1.1.1.1, h.1.1.1.1.2, h.1.1.1.2, fun i hi => nAll.1 h.2 i hi⟩
theorem sigOk_parts {n : Nat} {s : SigL} (h : sigOk n s = true) : s.params.length ≤ 3 ∧ allT n s.params = true ∧ isT n s.result = true ∧ lentOk s = true := by
  simp only [sigOk, Bool.and_eq_true, decide_eq_true_eq] at h
  exact ⟨h.1.1.1, h.1.1.2, h.1.2, h.2⟩
theorem isArr_parts {ds : List DeclL} {t : Int} (h : isArr ds t = true) : 1 ≤ t ∧ t ≤ (ds.length : Int) ∧ (dAt ds (t.toNat - 1)).cons.length = 0 := by
  simp only [isArr, Bool.and_eq_true, decide_eq_true_eq] at h
  exact ⟨h.1.1, h.1.2, h.2⟩

section
variable {ds : List DeclL} {sg : List SigL} (hok : sigsOk ds sg = true)
include hok
theorem simple_range (op num : Int) (tys : List Int) : simpleL ds sg op num tys = -1 ∨ isT ds.length (simpleL ds sg op num tys) = true := by
  obtain ⟨ht, _, _, hs⟩ := sigsOk_parts hok
  have z : isT ds.length 0 = true := isT_iff.2 ⟨by omega, by omega⟩
  unfold simpleL
  split
  · split
    · exact .inr z
    · exact .inl rfl
  split
  · split
    · exact .inr z
    · exact .inl rfl
  split
  · split
    · exact .inr z
    · exact .inl rfl
  split
  · split
    · next h =>
      obtain ⟨h1, h2, h3⟩ := isArr_parts h.2.2.1
      exact .inr (declOk_arrow (typesOk_decl ht (by omega)) h3).2
    · exact .inl rfl
  split
  · split
    · exact typeOr_range
    · exact .inl rfl
  split
  · split
    · next h => exact .inr (sigOk_parts (hs _ (by omega))).2.2.1
    · exact .inl rfl
  split
  · split
    · exact typeOr_range
    · exact .inl rfl
  · exact .inl rfl
omit hok in
theorem oneT_range {ts : List Int} (h : ∀ i, i < ts.length → iAt ts i = -1 ∨ isT ds.length (iAt ts i) = true) : oneT ts = -1 ∨ isT ds.length (oneT ts) = true := by
  cases ts with
  | nil => exact .inl rfl
  | cons t ts =>
    rw [oneT]
    split
    · have := h 0 (by simp)
      simpa [iAt] using this
    · exact .inl rfl
theorem tyE_range (N : Nat) : ∀ (e : ExprL), nE e < N → ∀ vars, allT ds.length vars = true → tyE ds sg vars e = -1 ∨ isT ds.length (tyE ds sg vars e) = true := by
  induction N with
  | zero => intro e h; omega
  | succ N ih =>
  intro e hN vars hv
  obtain ⟨op, num, ks⟩ := e
  have ht := (sigsOk_parts hok).1
  have hk : ∀ j, j < ks.length → nE (eAt ks j) < N := fun j hj => by have := nE_le ks hj; rw [nE] at hN; omega
  have arms : ∀ i, i < (armsL ds num).length → (cAt (armsL ds num) i).length ≤ 3 ∧ allT ds.length (cAt (armsL ds num) i) = true := fun i hi => by
    have hi' : i < (consL ds num).length := by simpa [armsL] using hi
    rw [cAt_get hi]
    simp only [armsL, List.getElem_map]
    exact conFieldsL_ok ht _
  rw [tyE]
  split
  · split
    · next h => exact .inr (allT_iff.1 hv _ (by omega))
    · exact .inl rfl
  split
  · split
    · next h =>
      rw [tyLet_at ds sg vars h.2]
      split
      · next h0 =>
        have h1 := ih _ (hk 0 (by omega)) vars hv
        have h2 : isT ds.length (tyE ds sg vars (eAt ks 0)) = true := by
          rcases h1 with h1 | h1
          · omega
          · exact h1
        exact ih _ (hk 1 (by omega)) _ (allT_append hv (allT_one h2))
      · exact .inl rfl
    · exact .inl rfl
  split
  · split
    · next h =>
      refine oneT_range (fun i hi => ?_)
      rw [tyTl_len] at hi
      rw [tyTl_at ds sg vars (by omega)]
      refine ih _ (hk _ (by omega)) _ (allT_append hv ?_)
      rcases (show i = 0 ∨ i = 1 by omega) with rfl | rfl <;> rfl
    · exact .inl rfl
  split
  · split
    · next h =>
      refine oneT_range (fun i hi => ?_)
      rw [tyTl_len] at hi
      rw [tyTl_at ds sg vars (by omega)]
      exact ih _ (hk _ (by omega)) _ (allT_append hv (arms i (by omega)).2)
    · exact .inl rfl
  · exact simple_range hok _ _ _
theorem ty_range (e : ExprL) {vars : List Int} (hv : allT ds.length vars = true) : tyE ds sg vars e = -1 ∨ isT ds.length (tyE ds sg vars e) = true := tyE_range hok _ e (Nat.lt_succ_self _) vars hv
theorem ty_ge (e : ExprL) {vars : List Int} (hv : allT ds.length vars = true) : -1 ≤ tyE ds sg vars e ∧ tyE ds sg vars e ≤ (ds.length : Int) := by
  rcases ty_range hok e hv with h | h
  · omega
  · have := isT_iff.1 h; omega
omit hok in
/-- All have one type, t, or none. -/
theorem oneT_same {ts : List Int} {t : Int} (h0 : 0 < ts.length) (h1 : -1 ≤ t) (h : ∀ i, i < ts.length → iAt ts i = t) : oneT ts = t := by
  by_cases ht : 0 ≤ t
  · rw [oneT_at h0 (by rw [h 0 h0]; exact ht) (fun i hi => by rw [h i hi, h 0 h0]), h 0 h0]
  · rw [oneT_neg h0 (.inr (by rw [h 0 h0]; omega))]; omega
end
end Go.Proofs.YtkapldpmjkdmcaaGreat
/- shift of the reference: a fresh copy with other variables. -/
namespace Go.Proofs.YtkapldpmjkdmcaaGreat
open Go.RowKit

/-- The number of a variable, or of another node. -/
def shN (k d op num : Int) : Int := if op = 12 ∧ k ≤ num then wrap64 (num + d) else num
mutual
/-- Variables from k on are greater by d. -/
def shE (k d : Int) : ExprL → ExprL
  | .mk op num ks => .mk op (shN k d op num) (shEs k d ks)
def shEs (k d : Int) : List ExprL → List ExprL
  | [] => []
  | e :: es => shE k d e :: shEs k d es
end
theorem shEs_map (k d : Int) (es : List ExprL) : shEs k d es = es.map (shE k d) := by induction es <;> simp_all [shEs]
theorem shEs_take (k d : Int) (es : List ExprL) {j : Nat} (h : j < es.length) : shEs k d (es.take (j + 1)) = shEs k d (es.take j) ++ [shE k d (eAt es j)] := by
  rw [take_succ_eAt es h, shEs_map, shEs_map, List.map_append]; rfl
theorem shEs_len (k d : Int) (es : List ExprL) : (shEs k d es).length = es.length := by rw [shEs_map, List.length_map]

/-- One expression, laid into a new block. -/
theorem lit_expr (w : World) (D : Nat → Prop) (T : TypeId) (op num : Int) (ks : List ExprL) (a : Option Addr) (n c : Nat) (hB : D w.heap.size) (h : Rd w D (encExprs ks) (.slice a n c)) :
    Rd (w.alloc (.cells #[.int .i64 op, .int .i64 num, .slice a n c] T)) D (.arr 3 ([ExprL.mk op num ks].map rowE)) (.slice (some ⟨w.heap.size, 0, none⟩) 1 1) := by
  refine Rd.litD w D T 3 _ ([ExprL.mk op num ks].map rowE) 1 hB (by simp) (by omega) (by omega) (by simp) (fun i hi => by
    have e : i = 0 := by simp at hi; exact hi
    subst e
    simp [rGet, rowE]) (fun i j hi hj => ?_)
  obtain rfl : i = 0 := by simpa using hi
  rcases (show j = 0 ∨ j = 1 ∨ j = 2 by omega) with rfl | rfl | rfl
  · exact ⟨_, rfl, .num op⟩
  · exact ⟨_, rfl, .num num⟩
  · exact ⟨_, rfl, h⟩

end Go.Proofs.YtkapldpmjkdmcaaGreat
