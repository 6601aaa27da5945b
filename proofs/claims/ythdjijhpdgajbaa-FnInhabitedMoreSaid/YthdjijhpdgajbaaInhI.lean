/- Inhabited of the program. -/
import Derived.Test.YthdjijhpdgajbaaInhS
import Derived.Test.YthdjijhpdgajbaaIndices
import Derived.Test.YthdjijhpdgajbaaTypes4
import Derived.Deep.LoopGhost
namespace Go.Proofs.Ythdjijhpdgajbaa
open Go.RowKit

/-- Block p holds the slice of marks, which lies in block g. -/
def MkI (p g n : Nat) (bs : List Bool) (w : World) : Prop := w.rowIs p 51 1 (fun _ => .slice (some ⟨g, 0, none⟩) n n) ∧ w.rowIs g 4 n (fun i => .bool (bAtL bs i)) ∧ bs.length = n ∧ p ≠ g
theorem MkI.ext {p g n : Nat} {bs : List Bool} {S : Nat → Prop} {w w' : World} (h : MkI p g n bs w) (hk : Ext S w w') (hp : ¬ S p) (hg : ¬ S g) : MkI p g n bs w' := ⟨row_ext h.1 hk hp, row_ext h.2.1 hk hg, h.2.2⟩

/-- A type is not marked. -/
theorem inhClos1 (p g n : Nat) (bs : List Bool) (x : Nat) (w : World) (hx : x < n) (h : MkI p g n bs w) :
    Calls Try.prog 35 #[.int .i64 (x : Int), .pointer (some ⟨p, 0, none⟩)] w fun e w' => e = .returned (.bool (!bAtL bs x)) ∧ Keep w w' := by
  refine calls_k fun Q hQ => ?_
  have y0 := h.1.cell (i := 0) (by omega)
  have y1 := h.2.1.cell hx
  obtain ⟨bb, hbb⟩ : ∃ bb, bAtL bs x = bb := ⟨_, rfl⟩
  rw [hbb] at y1
  have HB := Lib.hid hbb
  clear h hbb
  go_enter Try.func35, Try.ntmps35
  go_wp2
  exact fin_ hQ ⟨ret_b (by rw [HB.out]), Ext.refl _ _⟩

set_option maxHeartbeats 1000000 in
/-- Whether a field is of a type that is not marked. -/
theorem idxInts (p g n : Nat) (bs : List Bool) (a : Option Addr) (m c : Nat) (xs : List Int) (D : Nat → Prop) (w : World) (h : IntsL w D a m xs) (hm : m ≤ 1000) (hx : ∀ x, x ∈ xs → 0 ≤ x ∧ x < (n : Int)) (hM : MkI p g n bs w) :
    Calls Try.prog 46 #[.slice a m c, .func (.func 35) #[] #[.pointer (some ⟨p, 0, none⟩)]] w fun e w' => ∃ r : Int, e = .returned (.int .i64 r) ∧ decide (0 ≤ r) = (!xs.all (fun t => bAtL bs t.toNat)) ∧ Keep w w' := by
  refine calls_k fun Q hQ => ?_
  have HN := Lib.hid h.1
  have HX := Lib.hid hx
  have H := Lib.hid h
  have HMM := Lib.hid hM
  clear h hx hM
  go_enter Try.func46, Try.ntmps46
  go_wp2_with fail
  go_loopw [8] (fun i wr => ∃ j : Nat, j ≤ m ∧ i = .int .i64 j ∧ Hid (∀ l, l < j → bAtL bs (iAt xs l).toNat = true) ∧ Keep w wr) (fun i _ => m - (intOf i).toNat)
  case atStart => exact ⟨0, Nat.zero_le _, rfl, fun l hl => absurd hl (by omega), Ext.refl _ _⟩
  case round =>
    obtain ⟨wo, rfl⟩ : ∃ wo : World, wo = wr := ⟨_, rfl⟩
    obtain ⟨j, hj, rfl, HA, hK⟩ := hrel
    by_cases hlt : j < m
    case neg =>
      have V : Hid (decide ((0 : Int) ≤ -1) = (!xs.all (fun t => bAtL bs t.toNat))) := by
        show _ = _
        rw [show xs.all (fun t => bAtL bs t.toNat) = true from iAll.2 (fun i hi => HA.out i (by have := HN.out; omega))]
        rfl
      go_wp2_with fail
      exact fin_ hQ ⟨-1, rfl, V.out, hK⟩
    obtain ⟨b, o, rfl, hd, hc⟩ := H.out.2 (by omega)
    have y0 := (hK.cell (World.block_lt_of_cell? w _ (hc j hlt)) (fun h => h)).trans (hc j hlt)
    obtain ⟨x, hx⟩ : ∃ x, iAt xs j = x := ⟨_, rfl⟩
    rw [hx] at y0
    have hxr := HX.out x (by rw [← hx]; exact iAt_mem (by have := HN.out; omega))
    obtain ⟨X, rfl⟩ : ∃ X : Nat, x = (X : Int) := ⟨x.toNat, by omega⟩
    have HXX := Lib.hid hx
    have hXn : X < n := by omega
    have M2 := Lib.hid (HMM.out.ext hK (fun h => h) (fun h => h))
    clear hc hx hxr
    cases hb : bAtL bs X
    · have HB := Lib.hid hb
      have V : Hid (decide ((0 : Int) ≤ (j : Int)) = (!xs.all (fun t => bAtL bs t.toNat))) := by
        show _ = _
        rw [iAll_false (p := fun t => bAtL bs t.toNat) (i := j) (by have := HN.out; omega) (by rw [HXX.out, Int.toNat_natCast]; exact hb), decide_eq_true (by omega)]
        rfl
      clear hb
      go_wp2_with fail
      refine (inhClos1 p g n bs X _ hXn M2.out).mono ?_
      rw [HB.out]
      rintro e w2 ⟨rfl, p2⟩
      go_wp2_with fail
      exact fin_ hQ ⟨(j : Int), rfl, V.out, hK.trans p2⟩
    · have HB := Lib.hid hb
      have HS : Hid (∀ l, l < j + 1 → bAtL bs (iAt xs l).toNat = true) := fun l hl => by
        rcases Nat.lt_succ_iff_lt_or_eq.1 hl with h | rfl
        · exact HA.out l h
        · rw [HXX.out, Int.toNat_natCast]; exact hb
      clear hb
      go_wp2_with fail
      refine (inhClos1 p g n bs X _ hXn M2.out).mono ?_
      rw [HB.out]
      rintro e w2 ⟨rfl, p2⟩
      go_wp2_with fail
      go_roundw
      case rel => exact ⟨j + 1, by omega, by go_num, HS, hK.trans p2⟩
      case measure => simp [intOf]; omega

theorem hasInts (p g n : Nat) (bs : List Bool) (a : Option Addr) (m c : Nat) (xs : List Int) (D : Nat → Prop) (w : World) (h : IntsL w D a m xs) (hm : m ≤ 1000) (hx : ∀ x, x ∈ xs → 0 ≤ x ∧ x < (n : Int)) (hM : MkI p g n bs w) :
    Calls Try.prog 34 #[.slice a m c, .func (.func 35) #[] #[.pointer (some ⟨p, 0, none⟩)]] w fun e w' => e = .returned (.bool (!xs.all (fun t => bAtL bs t.toNat))) ∧ Keep w w' := by
  refine calls_k fun Q hQ => ?_
  have HX := Lib.hid hx
  have H := Lib.hid h
  have HMM := Lib.hid hM
  clear h hx hM
  go_enter Try.func34, Try.ntmps34
  go_wp2_with fail
  refine (idxInts p g n bs a m c xs D w H.out hm HX.out HMM.out).mono ?_
  rintro e w2 ⟨r, rfl, hr, p2⟩
  have HR := Lib.hid hr
  clear hr
  go_wp2_with fail
  exact fin_ hQ ⟨ret_b HR.out, p2⟩

/-- All fields of a constructor are of marked types. -/
theorem inhClos0 (p g n : Nat) (bs : List Bool) (a : Option Addr) (m c : Nat) (xs : List Int) (D : Nat → Prop) (w : World) (h : IntsL w D a m xs) (hm : m ≤ 1000) (hx : ∀ x, x ∈ xs → 0 ≤ x ∧ x < (n : Int)) (hM : MkI p g n bs w) :
    Calls Try.prog 33 #[.agg #[.slice a m c], .pointer (some ⟨p, 0, none⟩)] w fun e w' => e = .returned (.bool (xs.all (fun t => bAtL bs t.toNat))) ∧ Keep w w' := by
  refine calls_k fun Q hQ => ?_
  have K0 := Keep.al w (.cells #[.slice a m c] 34)
  have H := Lib.hid (h.ext K0 (fun _ _ h => h))
  have HX := Lib.hid hx
  have HMM := Lib.hid (hM.ext K0 (fun h => h) (fun h => h))
  clear h hx hM
  go_enter Try.func33, Try.ntmps33
  go_wp2_with fail
  refine (hasInts p g n bs a m c xs D _ H.out hm HX.out HMM.out).mono ?_
  rintro e w2 ⟨rfl, p2⟩
  go_wp2_with fail
  exact fin_ hQ ⟨ret_b (by simp), K0.trans p2⟩

set_option maxHeartbeats 1000000 in
/-- Whether a constructor has all its fields of marked types. -/
theorem idxCons (p g n : Nat) (bs : List Bool) (a : Option Addr) (m c : Nat) (cs : List (List Int)) (D : Nat → Prop) (w : World) (h : ConsR w D a m cs) (hm : m ≤ 1000) (hf : ∀ l, l < cs.length → (cAt cs l).length ≤ 1000) (hx : ∀ c, c ∈ cs → ∀ x, x ∈ c → 0 ≤ x ∧ x < (n : Int)) (hM : MkI p g n bs w) :
    Calls Try.prog 45 #[.slice a m c, .func (.func 33) #[] #[.pointer (some ⟨p, 0, none⟩)]] w fun e w' => ∃ r : Int, e = .returned (.int .i64 r) ∧ decide (0 ≤ r) = anyC cs (fun t => bAtL bs t.toNat) ∧ Keep w w' := by
  refine calls_k fun Q hQ => ?_
  have HN := Lib.hid h.1
  have HX := Lib.hid hx
  have H := Lib.hid h
  have HF := Lib.hid hf
  have HMM := Lib.hid hM
  clear h hx hM hf
  go_enter Try.func45, Try.ntmps45
  go_wp2_with fail
  go_loopw [8] (fun i wr => ∃ j : Nat, j ≤ m ∧ i = .int .i64 j ∧ Hid (∀ l, l < j → (cAt cs l).all (fun t => bAtL bs t.toNat) = false) ∧ Keep w wr) (fun i _ => m - (intOf i).toNat)
  case atStart => exact ⟨0, Nat.zero_le _, rfl, fun l hl => absurd hl (by omega), Ext.refl _ _⟩
  case round =>
    obtain ⟨wo, rfl⟩ : ∃ wo : World, wo = wr := ⟨_, rfl⟩
    obtain ⟨j, hj, rfl, HA, hK⟩ := hrel
    by_cases hlt : j < m
    case neg =>
      have V : Hid (decide ((0 : Int) ≤ -1) = anyC cs (fun t => bAtL bs t.toNat)) := by
        show _ = _
        rw [anyC_none (fun i hi => HA.out i (by have := HN.out; omega))]
        rfl
      go_wp2_with fail
      exact fin_ hQ ⟨-1, rfl, V.out, hK⟩
    obtain ⟨b, o, rfl, hd, hc⟩ := H.out.2 (by omega)
    obtain ⟨a', m', c', d0, _, hI⟩ := hc j hlt
    have y0 := (hK.cell (World.block_lt_of_cell? w _ d0) (fun h => h)).trans d0
    have HJ : Hid (j < cs.length) := by have := HN.out; show _ < _; omega
    have I2 := Lib.hid (hI.ext hK (fun _ _ h => h))
    have hm' : m' ≤ 1000 := by have h1 := HF.out j HJ.out; have h2 := hI.1; omega
    have X2 := Lib.hid (HX.out (cAt cs j) (by rw [cAt_eq HJ.out]; exact List.getElem_mem _))
    have M2 := Lib.hid (HMM.out.ext hK (fun h => h) (fun h => h))
    obtain ⟨bb, hbb⟩ : ∃ bb, (cAt cs j).all (fun t => bAtL bs t.toNat) = bb := ⟨_, rfl⟩
    have HB := Lib.hid hbb
    clear hc d0 hI hbb
    cases bb
    · have HS : Hid (∀ l, l < j + 1 → (cAt cs l).all (fun t => bAtL bs t.toNat) = false) := fun l hl => by
        rcases Nat.lt_succ_iff_lt_or_eq.1 hl with h | rfl
        · exact HA.out l h
        · exact HB.out
      go_wp2_with fail
      refine (inhClos0 p g n bs a' m' c' _ _ _ I2.out hm' X2.out M2.out).mono ?_
      rw [HB.out]
      rintro e w2 ⟨rfl, p2⟩
      go_wp2_with fail
      go_roundw
      case rel => exact ⟨j + 1, by omega, by go_num, HS, hK.trans p2⟩
      case measure => simp [intOf]; omega
    · have V : Hid (decide ((0 : Int) ≤ (j : Int)) = anyC cs (fun t => bAtL bs t.toNat)) := by
        show _ = _
        rw [anyC_hit HJ.out HB.out, decide_eq_true (by omega)]
      go_wp2_with fail
      refine (inhClos0 p g n bs a' m' c' _ _ _ I2.out hm' X2.out M2.out).mono ?_
      rw [HB.out]
      rintro e w2 ⟨rfl, p2⟩
      go_wp2_with fail
      exact fin_ hQ ⟨(j : Int), rfl, V.out, hK.trans p2⟩

theorem hasCons (p g n : Nat) (bs : List Bool) (a : Option Addr) (m c : Nat) (cs : List (List Int)) (D : Nat → Prop) (w : World) (h : ConsR w D a m cs) (hm : m ≤ 1000) (hf : ∀ l, l < cs.length → (cAt cs l).length ≤ 1000) (hx : ∀ c, c ∈ cs → ∀ x, x ∈ c → 0 ≤ x ∧ x < (n : Int)) (hM : MkI p g n bs w) :
    Calls Try.prog 32 #[.slice a m c, .func (.func 33) #[] #[.pointer (some ⟨p, 0, none⟩)]] w fun e w' => e = .returned (.bool (anyC cs (fun t => bAtL bs t.toNat))) ∧ Keep w w' := by
  refine calls_k fun Q hQ => ?_
  have HX := Lib.hid hx
  have H := Lib.hid h
  have HF := Lib.hid hf
  have HMM := Lib.hid hM
  clear h hx hM hf
  go_enter Try.func32, Try.ntmps32
  go_wp2_with fail
  refine (idxCons p g n bs a m c cs D w H.out hm HF.out HX.out HMM.out).mono ?_
  rintro e w2 ⟨r, rfl, hr, p2⟩
  have HR := Lib.hid hr
  clear hr
  go_wp2_with fail
  exact fin_ hQ ⟨ret_b HR.out, p2⟩
end Go.Proofs.Ythdjijhpdgajbaa
