/- Inhabited of the program: the passes. -/
import Derived.Test.YthdjijhpdgajbaaInhI
namespace Go.Proofs.Ythdjijhpdgajbaa
open Go.RowKit

set_option maxRecDepth 100000 in
set_option maxHeartbeats 4000000 in
theorem implInhabited (a : Option Addr) (n c : Nat) (ds : List DeclL) (D : Nat → Prop) (w : World) (h : DeclsR w D a n ds) (hnc : n ≤ c) :
    Calls Try.prog 11 #[.slice a n c] w fun e w' => ∃ a' n' c', e = .returned (.slice a' n' c') ∧ n' ≤ c' ∧ OwnInts w' (fun q => w.heap.size ≤ q) a' n' (if typesOk ds = true then inhL ds else []) ∧ Keep w w' := by
  refine calls_k fun Q hQ => ?_
  have HLN := Lib.hid h.1
  cases v1 : typesOk ds
  · have V1 := Lib.hid v1
    clear v1
    go_enter Try.func11, Try.ntmps11
    go_wp2_with fail
    refine (implValidTypes _ _ _ _ _ _ h hnc).mono ?_
    rw [V1.out]
    rintro e w1 ⟨rfl, p1⟩
    go_wp2_with fail
    exact fin_ hQ ⟨none, 0, 0, rfl, Nat.le_refl _, ⟨by rw [if_neg (by rw [V1.out]; simp)]; rfl, fun h => absurd h (by omega)⟩, p1⟩
  have V1 := Lib.hid v1
  have hn4 : n ≤ 4 := by
    have h1 := h.1
    simp only [typesOk, Bool.and_eq_true, decide_eq_true_eq] at v1
    omega
  have H := Lib.hid h
  have HFI := Lib.hid (fieldsIn v1)
  have HCL : Hid (∀ i, i < n → ∀ l, l < (dAt ds i).cons.length → (cAt (dAt ds i).cons l).length ≤ 1000) := fun i hi l hl => by have := con_len v1 (i := i) (by have := HLN.out; omega) hl; omega
  have HFW := Lib.hid (Few.of_ok v1)
  clear v1 h
  go_enter Try.func11, Try.ntmps11
  go_wp2_with fail
  refine (implValidTypes _ _ _ _ _ _ H.out hnc).mono ?_
  rw [V1.out]
  rintro e w1 ⟨rfl, p1⟩
  have P1 := Lib.hid p1
  go_wp2_with (at_make; refine wpList_makeN _ rfl _ _ 51 rfl 4 (.bool false) #[.bool false] 1 1 Try.underlying51 (by kernel_rfl) rfl rfl (n + 1) rfl rfl (by omega) (by omega) ?_; intro w2 hr hk hsz; have R1 := Lib.hid ((show w2.rowIs w1.heap.size 4 (n + 1) (fun _ => .bool false) by (rw [Nat.mul_one] at hr; refine hr.congr (fun i hi => ?_); rw [Nat.mod_one]; rfl))); have y0 := (R1.out.alloc (.cells #[.slice (some ⟨w1.heap.size, 0, none⟩) (n + 1) (n + 1)] 51)).cell (i := 0) (by omega); have f0 := (R1.out.alloc (.cells #[.slice (some ⟨w1.heap.size, 0, none⟩) (n + 1) (n + 1)] 51)).frozen 0; have lg := R1.out.lt; clear hr)
  have S2 : Hid ((w2.setCell ⟨w1.heap.size, 0, none⟩ (.bool true)).heap.size = w1.heap.size + 1) := by show _ = _; simp [World.setCell]; exact hsz
  have R2 : Hid ((w2.setCell ⟨w1.heap.size, 0, none⟩ (.bool true)).rowIs w1.heap.size 4 (n + 1) (fun i => .bool (bAtL (startB ds 0) i))) := by
    refine (R1.out.set 0 (.bool true)).congr (fun i hi => ?_)
    rcases i with _ | i
    · rw [if_pos rfl, startB_zero]
    · rw [if_neg (by omega), startB_succ (by have := HLN.out; omega), decide_eq_false (by omega)]; rfl
  have E2 : Hid (Keep w (w2.setCell ⟨w1.heap.size, 0, none⟩ (.bool true))) := (P1.out.trans hk).setCell (p := ⟨w1.heap.size, 0, none⟩) (.inl P1.out.size) _
  generalize hW2 : w2.setCell ⟨w1.heap.size, 0, none⟩ (.bool true) = W2 at *
  have M0 : Hid (MkI (w1.heap.size + 1) w1.heap.size (n + 1) (startB ds 0) (W2.alloc (.cells #[.slice (some ⟨w1.heap.size, 0, none⟩) (n + 1) (n + 1)] 51))) := by
    have RP := (rowOf W2 #[.slice (some ⟨w1.heap.size, 0, none⟩) (n + 1) (n + 1)] 51).congr (g := fun _ => .slice (some ⟨w1.heap.size, 0, none⟩) (n + 1) (n + 1)) (fun i hi => by
      obtain rfl : i = 0 := by simpa using hi
      rfl)
    rw [S2.out] at RP
    exact ⟨RP, R2.out.alloc _, by rw [startB_len, HLN.out], by omega⟩
  have E3 := Lib.hid (E2.out.alloc (.cells #[.slice (some ⟨w1.heap.size, 0, none⟩) (n + 1) (n + 1)] 51))
  have PS := Lib.hid P1.out.size
  clear hW2 R1 y0 f0 hsz hk lg R2 E2 p1 w2
  go_loopw [21] (fun i wr => ∃ j : Nat, j ≤ n ∧ i = .int .i64 j ∧ Hid (MkI (w1.heap.size + 1) w1.heap.size (n + 1) (startB ds j) wr) ∧ Keep w wr) (fun i _ => n - (intOf i).toNat)
  case atStart => exact ⟨0, Nat.zero_le _, rfl, M0, E3.out⟩
  case round =>
    obtain ⟨wo, rfl⟩ : ∃ wo : World, wo = wr := ⟨_, rfl⟩
    obtain ⟨j, hj, rfl, hM, hK⟩ := hrel
    by_cases hlt : j < n
    case pos =>
      obtain ⟨b, o, rfl, hd, hc⟩ := H.out.2 (by omega)
      obtain ⟨d0, d1, a3, m3, c3, d2, hmc, hC⟩ := hc j hlt
      have g0 := (hK.cell (World.block_lt_of_cell? w _ d0) (fun h => h)).trans d0
      have g1 := (hK.cell (World.block_lt_of_cell? w _ d1) (fun h => h)).trans d1
      have g2 := (hK.cell (World.block_lt_of_cell? w _ d2) (fun h => h)).trans d2
      have hlen : m3 = (dAt ds j).cons.length := hC.1.symm
      obtain ⟨bb, hbb⟩ : ∃ bb, decide ((dAt ds j).cons.length = 0) = bb := ⟨_, rfl⟩
      have hm1 : ((m3 : Int) == 0) = bb := by
        rw [← hbb, hlen]
        by_cases h : (dAt ds j).cons.length = 0
        · rw [h]; rfl
        · rw [decide_eq_false h]; simpa using h
      have HBB := Lib.hid hbb
      have ka := Keep.al wo (.cells #[.int .i64 (dAt ds j).from_, .int .i64 (dAt ds j).to_, .slice a3 m3 c3] 28)
      have M2 := Lib.hid (hM.out.ext ka (fun h => h) (fun h => h))
      have y0 := M2.out.1.cell (i := 0) (by omega)
      have y1 := M2.out.2.1.cell (i := j + 1) (by omega)
      have f1 := M2.out.2.1.frozen (j + 1)
      have hp := hM.out.1.lt
      have hg := hM.out.2.1.lt
      have z0 := boxk (Ext.refl (fun _ => False) (wo.alloc (.cells #[.int .i64 (dAt ds j).from_, .int .i64 (dAt ds j).to_, .slice a3 m3 c3] 28))) 2
      simp at z0
      have KA := Lib.hid (hK.trans ka)
      clear hc d0 d1 d2 hC hlen hbb ka
      have M3 : Hid (MkI (w1.heap.size + 1) w1.heap.size (n + 1) (startB ds (j + 1)) ((wo.setCell ⟨w1.heap.size, j + 1, none⟩ (.bool bb)).alloc (.cells #[.int .i64 (dAt ds j).from_, .int .i64 (dAt ds j).to_, .slice a3 m3 c3] 28))) := by
        refine MkI.ext (w := wo.setCell ⟨w1.heap.size, j + 1, none⟩ (.bool bb)) ⟨hM.out.1.setOther (a := ⟨w1.heap.size, j + 1, none⟩) (by show w1.heap.size + 1 ≠ w1.heap.size; omega) _, (hM.out.2.1.set (j + 1) (.bool bb)).congr (fun i hi => ?_), by rw [startB_len, HLN.out], by omega⟩ (Keep.al _ _) (fun h => h) (fun h => h)
        rw [startB_set (by have := HLN.out; omega) i (by have := HLN.out; omega), HBB.out]
        by_cases e : i = j + 1
        · rw [if_pos e, if_pos e]
        · rw [if_neg e, if_neg e]
      have K3 : Hid (Keep w ((wo.setCell ⟨w1.heap.size, j + 1, none⟩ (.bool bb)).alloc (.cells #[.int .i64 (dAt ds j).from_, .int .i64 (dAt ds j).to_, .slice a3 m3 c3] 28))) := (hK.setCell (p := ⟨w1.heap.size, j + 1, none⟩) (.inl PS.out) _).alloc _
      go_wp2_with fail
      go_roundw
      case rel => exact ⟨j + 1, by omega, by go_num, M3, K3.out⟩
      case measure => simp [intOf]; omega
    have MB : Hid (MkI (w1.heap.size + 1) w1.heap.size (n + 1) (startB ds ds.length) wo) := by
      have h := hM.out
      rw [show j = ds.length by have := HLN.out; omega] at h
      exact h
    have IB := Lib.hid (InhI.start (ds := ds))
    generalize hB : startB ds ds.length = B0 at MB IB
    clear hB hM M0 E3
    go_wp2_with fail
    go_loopg [6] (2 * unm B0 + 1) (fun gk v wr => ∃ (bs : List Bool) (more : Bool), v = .bool more ∧ Hid (gk = 2 * unm bs + if more = true then 1 else 0) ∧ Hid (MkI (w1.heap.size + 1) w1.heap.size (n + 1) bs wr) ∧ Hid (InhI ds bs) ∧ Hid (more = false → idxL bs = inhL ds) ∧ Keep w wr)
    case atStart => exact ⟨B0, true, rfl, (by show _ = _; simp), MB, IB, fun h => (by cases h), hK⟩
    case round =>
      obtain ⟨wo2, rfl⟩ : ∃ wo2 : World, wo2 = wr := ⟨_, rfl⟩
      obtain ⟨bs, more, rfl, hG, hM2, hI2, hF2, hK2⟩ := hrel
      cases more
      case false =>
        have V := Lib.hid (hF2.out rfl)
        have y0 := hM2.out.1.cell (i := 0) (by omega)
        go_wp2_with fail
        refine (implIndicesOf _ _ _ bs _ hM2.out.2.1 hM2.out.2.2.1 (by omega)).mono ?_
        rintro e w3 ⟨a', n', c', rfl, hn', o3, p3⟩
        have O3 := Lib.hid o3
        clear o3
        go_wp2_with fail
        refine fin_ hQ ⟨a', n', c', rfl, hn', ?_, hK2.trans p3⟩
        rw [if_pos V1.out, ← V.out]
        exact O3.out.mono (fun q hq => by have h1 := hK2.size; have h2 : wo2.heap.size ≤ q := hq; omega)
      have PI := Lib.hid (PassI.start hI2.out)
      have HG : Hid (gk = 2 * unm bs + 1) := hG.out
      clear hF2 hG hI2
      go_wp2_with fail
      go_loopw [6, 38] (fun v i wr => ∃ (k : Nat) (bs2 : List Bool) (more : Bool), k ≤ n ∧ i = .int .i64 k ∧ v = .bool more ∧ Hid (PassI ds (unm bs) k bs2 more) ∧ Hid (MkI (w1.heap.size + 1) w1.heap.size (n + 1) bs2 wr) ∧ Keep w wr) (fun _ i _ => n - (intOf i).toNat)
      case atStart => exact ⟨0, bs, false, Nat.zero_le _, rfl, rfl, PI, hM2, hK2⟩
      case round =>
        obtain ⟨wo3, rfl⟩ : ∃ wo3 : World, wo3 = wr := ⟨_, rfl⟩
        obtain ⟨k, bs2, more, hk, rfl, rfl, hP3, hM3, hK3⟩ := hrel
        by_cases hlt : k < n
        case neg =>
          have hkn : k = ds.length := by have := HLN.out; omega
          have HP : Hid (PassI ds (unm bs) ds.length bs2 more) := by
            have h := hP3.out
            rw [hkn] at h
            exact h
          have HB := Lib.hid HP.out.base
          have HE : Hid (more = false → idxL bs2 = inhL ds) := fun e => by
            have h := HP.out
            rw [e] at h
            exact h.done
          clear hkn
          go_wp2_with fail
          go_roundg (2 * unm bs2 + if more = true then 1 else 0)
          case measure =>
            have h1 := HG.out
            have h2 := HP.out.le
            have h3 := HP.out.lt
            cases more
            · simp; omega
            · have := h3 rfl
              simp; omega
          case rel => exact ⟨bs2, more, rfl, (by show _ = _; rfl), hM3, HB, HE, hK3⟩
        obtain ⟨b, o, rfl, hd, hc⟩ := H.out.2 (by omega)
        obtain ⟨d0, d1, a3, m3, c3, d2, hmc, hC⟩ := hc k hlt
        have g0 := (hK3.cell (World.block_lt_of_cell? w _ d0) (fun h => h)).trans d0
        have g1 := (hK3.cell (World.block_lt_of_cell? w _ d1) (fun h => h)).trans d1
        have g2 := (hK3.cell (World.block_lt_of_cell? w _ d2) (fun h => h)).trans d2
        have ka := Keep.al wo3 (.cells #[.int .i64 (dAt ds k).from_, .int .i64 (dAt ds k).to_, .slice a3 m3 c3] 28)
        have C4 := Lib.hid (hC.ext (hK3.trans ka) (fun _ _ h => h))
        have M4 := Lib.hid (hM3.out.ext ka (fun h => h) (fun h => h))
        have HKL : Hid (k < ds.length) := by have := HLN.out; show _ < _; omega
        have hm3 : m3 ≤ 1000 := by have h1 := hC.1; have h2 := HFW.out.2 k HKL.out; omega
        have KA := Lib.hid (hK3.trans ka)
        obtain ⟨has, hhas⟩ : ∃ has, anyC (dAt ds k).cons (fun t => bAtL bs2 t.toNat) = has := ⟨_, rfl⟩
        have HAS := Lib.hid hhas
        have HFK : Hid (∀ c, c ∈ (dAt ds k).cons → ∀ x, x ∈ c → 0 ≤ x ∧ x < ((n + 1 : Nat) : Int)) := fun c hc x hx => by have h := HFI.out k HKL.out c hc x hx; rw [HLN.out] at h; exact h
        have z2 := boxk (Ext.refl (fun _ => False) (wo3.alloc (.cells #[.int .i64 (dAt ds k).from_, .int .i64 (dAt ds k).to_, .slice a3 m3 c3] 28))) 2
        simp at z2
        clear hc d0 d1 d2 hC hhas ka
        go_wp2_with fail
        refine (hasCons (w1.heap.size + 1) w1.heap.size (n + 1) bs2 a3 m3 c3 (dAt ds k).cons _ _ C4.out hm3 (HCL.out k hlt) HFK.out M4.out).mono ?_
        rw [HAS.out]
        rintro e w5 ⟨rfl, p5⟩
        have M5 := Lib.hid (M4.out.ext p5 (fun h => h) (fun h => h))
        have K5 := KA.out.trans p5
        have y0 := M5.out.1.cell (i := 0) (by omega)
        have y1 := M5.out.2.1.cell (i := k + 1) (by omega)
        have f1 := M5.out.2.1.frozen (k + 1)
        have hp := M5.out.1.lt
        have hg := M5.out.2.1.lt
        clear g0 g1 g2 z2
        cases has
        · have P5 := Lib.hid (hP3.out.no (.inr HAS.out) HKL.out)
          go_wp2_with fail
          go_roundw
          case rel => exact ⟨k + 1, bs2, more, by omega, by go_num, rfl, P5, M5, K5⟩
          case measure => simp [intOf]; omega
        cases hbk : bAtL bs2 (k + 1)
        case true =>
          have P5 := Lib.hid (hP3.out.no (.inl hbk) HKL.out)
          rw [hbk] at y1
          clear hbk
          go_wp2_with fail
          go_roundw
          case rel => exact ⟨k + 1, bs2, more, by omega, by go_num, rfl, P5, M5, K5⟩
          case measure => simp [intOf]; omega
        have P5 := Lib.hid (hP3.out.yes hbk HAS.out HKL.out HFI.out)
        rw [hbk] at y1
        have hlb : k + 1 < bs2.length := by have := M5.out.2.2.1; omega
        have M6 : Hid (MkI (w1.heap.size + 1) w1.heap.size (n + 1) (bs2.set (k + 1) true) (w5.setCell ⟨w1.heap.size, k + 1, none⟩ (.bool true))) := by
          refine ⟨M5.out.1.setOther (a := ⟨w1.heap.size, k + 1, none⟩) (by show w1.heap.size + 1 ≠ w1.heap.size; omega) _, (M5.out.2.1.set (k + 1) (.bool true)).congr (fun i hi => ?_), by rw [List.length_set]; exact M5.out.2.2.1, by omega⟩
          rw [bAtL_set hlb]
          by_cases e : i = k + 1
          · rw [if_pos e, e]; simp
          · rw [if_neg e]; simp [show ¬ k + 1 = i from fun h => e h.symm]
        have K6 : Hid (Keep w (w5.setCell ⟨w1.heap.size, k + 1, none⟩ (.bool true))) := K5.setCell (p := ⟨w1.heap.size, k + 1, none⟩) (.inl PS.out) _
        clear hbk hlb
        go_wp2_with fail
        go_roundw
        case rel => exact ⟨k + 1, bs2.set (k + 1) true, true, by omega, by go_num, rfl, P5, M6, K6.out⟩
        case measure => simp [intOf]; omega
end Go.Proofs.Ythdjijhpdgajbaa
