/- Inhabited of the reference. -/
import Derived.Test.YthdjijhpdgajbaaInhPlain
import Derived.Test.YthdjijhpdgajbaaInsert
import Derived.Test.YthdjijhpdgajbaaIsIn
import Derived.Test.YthdjijhpdgajbaaTypes3
import Derived.Test.YthdjijhpdgajbaaOwn2
namespace Go.Proofs.Ythdjijhpdgajbaa
open Go.RowKit

theorem all_take {c : List Int} {p : Int → Bool} {j : Nat} (h : j < c.length) : (c.take (j + 1)).all p = ((c.take j).all p && p (iAt c j)) := by
  rw [take_iAt h, List.all_append]; simp
theorem anyC_hit {cs : List (List Int)} {p : Int → Bool} {i : Nat} (h : i < cs.length) (hp : (cAt cs i).all p = true) : anyC cs p = true := by
  simp only [anyC, List.any_eq_true]
  exact ⟨cAt cs i, by rw [cAt_eq h]; exact List.getElem_mem h, hp⟩
theorem anyC_none {cs : List (List Int)} {p : Int → Bool} (h : ∀ i, i < cs.length → (cAt cs i).all p = false) : anyC cs p = false := by
  cases hx : anyC cs p
  · rfl
  · simp only [anyC, List.any_eq_true] at hx
    obtain ⟨c, hc, hp⟩ := hx
    obtain ⟨i, hi, rfl⟩ := List.getElem_of_mem hc
    rw [← cAt_eq hi, h i hi] at hp
    cases hp

/-- Constructors of valid declarations have few fields, which are types. -/
theorem con_ok {ds : List DeclL} (h : typesOk ds = true) {i : Nat} (hi : i < ds.length) {l : Nat} (hl : l < (dAt ds i).cons.length) : conOk ds.length (cAt (dAt ds i).cons l) = true := by
  simp only [typesOk, Bool.and_eq_true] at h
  have hd := nAll.1 h.2 i hi
  unfold declOk at hd
  rw [if_pos (by omega)] at hd
  simp only [Bool.and_eq_true] at hd
  exact cAll.1 hd.2 l hl
theorem con_len {ds : List DeclL} (h : typesOk ds = true) {i : Nat} (hi : i < ds.length) {l : Nat} (hl : l < (dAt ds i).cons.length) : (cAt (dAt ds i).cons l).length ≤ 3 := by
  have := con_ok h hi hl
  simp only [conOk, Bool.and_eq_true, decide_eq_true_eq] at this
  exact this.1
theorem fieldsIn {ds : List DeclL} (h : typesOk ds = true) : FieldsIn ds := by
  intro i hi c hc t ht
  obtain ⟨l, hl, rfl⟩ := List.getElem_of_mem hc
  have := con_ok h hi hl
  simp only [conOk, Bool.and_eq_true, allT, List.all_eq_true, isT, decide_eq_true_eq] at this
  rw [cAt_eq hl] at this
  have := this.2 t ht
  omega

set_option maxRecDepth 100000 in
set_option maxHeartbeats 2000000 in
theorem specAnyFull (f t : Int) (cs : List (List Int)) (a : Option Addr) (n c : Nat) (out : List Int) (al : Option Addr) (nl cl : Nat) (D E : Nat → Prop) (w : World) (h : ConsR w D a n cs) (hm : n ≤ 1000000) (hl : IntsL w E al nl out) (hn : nl ≤ 1000) (hf : ∀ l, l < cs.length → (cAt cs l).length ≤ 1000) :
    Calls Try.prog 37 #[.agg #[.int .i64 f, .int .i64 t, .slice a n c], .slice al nl cl] w fun e w' => e = .returned (.bool (fullB ⟨f, t, cs⟩ (fun x => decide (x ∈ out)))) ∧ Keep w w' := by
  refine calls_k fun Q hQ => ?_
  have K0 := Keep.al w (.cells #[.int .i64 f, .int .i64 t, .slice a n c] 28)
  have R0 := rowOf w #[.int .i64 f, .int .i64 t, .slice a n c] 28
  have H := Lib.hid (h.ext K0 (fun _ _ h => h))
  have HL := Lib.hid (hl.ext K0 (fun _ _ h => h))
  have HN := Lib.hid h.1
  have x2 := R0.cell (i := 2) (by simp)
  simp at x2
  have HF := Lib.hid hf
  clear h hl R0 hf
  go_enter Try.func37, Try.ntmps37
  go_wp2
  go_loopw [5] (fun i wr => ∃ k : Nat, k ≤ n ∧ i = .int .i64 k ∧ Hid (∀ l, l < k → (cAt cs l).all (fun x => decide (x ∈ out)) = false) ∧ wr = w.alloc (.cells #[.int .i64 f, .int .i64 t, .slice a n c] 28)) (fun i _ => n - (intOf i).toNat)
  case atStart => exact ⟨0, Nat.zero_le _, rfl, fun j hj => absurd hj (by omega), rfl⟩
  case round =>
    obtain ⟨k, hk, rfl, H1, rfl⟩ := hrel
    by_cases hlt : k < n
    case neg =>
      have V : Hid (fullB ⟨f, t, cs⟩ (fun x => decide (x ∈ out)) = decide (n = 0)) := by
        show _ = _
        rw [fullB, anyC_none (fun i hi => H1.out i (by have := HN.out; omega)), Bool.false_or]
        exact congrArg (fun m => decide (m = 0)) HN.out
      by_cases h0 : n = 0
      · subst h0
        go_wp2
        exact fin_ hQ ⟨ret_b (by rw [V.out]; rfl), K0⟩
      · have h1 : ((n : Int) == 0) = false := by simpa using h0
        have h2 : decide (n = 0) = false := decide_eq_false h0
        have V2 := Lib.hid (V.out.trans h2)
        clear h2
        go_wp2
        exact fin_ hQ ⟨ret_b V2.out.symm, K0⟩
    obtain ⟨b, o, rfl, hd, hc⟩ := H.out.2 (by omega)
    obtain ⟨a', m, c', g0, hmc, hI⟩ := hc k hlt
    have HI := Lib.hid hI
    have HM := Lib.hid hI.1
    have HK : Hid (k < cs.length) := by have := HN.out; show _ < _; omega
    have hm3 : m ≤ 1000 := by have h1 := HF.out k HK.out; have h2 := HM.out; omega
    clear hc hI
    go_wp2
    go_loopw [6, 7] (fun fv i wr => ∃ (j : Nat), j ≤ m ∧ i = .int .i64 j ∧ fv = .bool (((cAt cs k).take j).all (fun x => decide (x ∈ out))) ∧ wr = w.alloc (.cells #[.int .i64 f, .int .i64 t, .slice (some ⟨b, o, none⟩) n c] 28)) (fun _ i _ => m - (intOf i).toNat)
    case atStart => exact ⟨0, Nat.zero_le _, rfl, by simp, rfl⟩
    case round =>
      obtain ⟨j, hj, rfl, rfl, rfl⟩ := hrel
      obtain ⟨fv, hfv⟩ : ∃ fv, ((cAt cs k).take j).all (fun x => decide (x ∈ out)) = fv := ⟨_, rfl⟩
      have HFV := Lib.hid hfv
      rw [hfv]
      clear hfv
      by_cases hlt2 : j < m
      case neg =>
        have HA : Hid ((cAt cs k).all (fun x => decide (x ∈ out)) = fv) := by
          show _ = _
          have h := HFV.out
          rw [List.take_of_length_le (by have := HM.out; omega)] at h
          exact h
        cases fv
        · go_wp2
          go_roundw
          case rel => exact ⟨k + 1, by omega, by go_num, fun l hl => by
            rcases Nat.lt_succ_iff_lt_or_eq.1 hl with h | rfl
            · exact H1.out l h
            · exact HA.out, trivial⟩
          case measure => simp [intOf]; omega
        · have V : Hid (fullB ⟨f, t, cs⟩ (fun x => decide (x ∈ out)) = true) := by
            show _ = _
            rw [fullB, anyC_hit HK.out HA.out]; rfl
          go_wp2
          exact fin_ hQ ⟨ret_b V.out.symm, K0⟩
      have HJ : Hid (j < (cAt cs k).length) := by have := HM.out; show _ < _; omega
      obtain ⟨b2, o2, rfl, hd2, hc2⟩ := HI.out.2 (by omega)
      have y0 := hc2 j hlt2
      obtain ⟨z, hz⟩ : ∃ z, iAt (cAt cs k) j = z := ⟨_, rfl⟩
      rw [hz] at y0
      obtain ⟨mm, hmm⟩ : ∃ mm, decide (z ∈ out) = mm := ⟨_, rfl⟩
      have HMM := Lib.hid hmm
      have HS : Hid (((cAt cs k).take (j + 1)).all (fun x => decide (x ∈ out)) = (fv && mm)) := by
        show _ = _
        rw [all_take HJ.out, HFV.out, hz, hmm]
      clear hc2 hz hmm
      cases fv
      · go_wp2_with fail
        go_roundw
        case rel => exact ⟨j + 1, by omega, by go_num, by rw [HS.out]; rfl, trivial⟩
        case measure => simp [intOf]; omega
      · go_wp2_with fail
        refine (specIsIn _ _ _ _ _ _ _ HL.out (by omega)).mono ?_
        rw [HMM.out]
        rintro e w3 ⟨rfl, rfl⟩
        go_wp2_with fail
        go_roundw
        case rel => exact ⟨j + 1, by omega, by go_num, by rw [HS.out]; rfl, trivial⟩
        case measure => simp [intOf]; omega

set_option maxRecDepth 100000 in
set_option maxHeartbeats 4000000 in
theorem specInhabited (a : Option Addr) (n c : Nat) (ds : List DeclL) (D : Nat → Prop) (w : World) (h : DeclsR w D a n ds) (hn0 : n ≤ 1099511627776) :
    Calls Try.prog 13 #[.slice a n c] w fun e w' => ∃ a' n' c', e = .returned (.slice a' n' c') ∧ n' ≤ c' ∧ OwnInts w' (fun q => w.heap.size ≤ q) a' n' (if typesOk ds = true then inhL ds else []) ∧ Keep w w' := by
  refine calls_k fun Q hQ => ?_
  have HLN := Lib.hid h.1
  cases v1 : typesOk ds
  · have V1 := Lib.hid v1
    clear v1
    go_enter Try.func13, Try.ntmps13
    go_wp2_with fail
    refine (specValidTypes0 _ _ _ _ _ _ h (by omega)).mono ?_
    rw [V1.out]
    rintro e w1 ⟨rfl, p1⟩
    go_wp2_with fail
    exact fin_ hQ ⟨none, 0, 0, rfl, Nat.le_refl _, ⟨by rw [if_neg (by rw [V1.out]; simp)]; rfl, fun h => absurd h (by omega)⟩, p1⟩
  have V1 := Lib.hid v1
  have hn4 : n ≤ 4 := by
    have h1 := h.1
    simp only [typesOk, Bool.and_eq_true, decide_eq_true_eq] at v1
    omega
  have H := Lib.hid h
  clear v1 h
  go_enter Try.func13, Try.ntmps13
  go_wp2_with fail
  refine (specValidTypes0 _ _ _ _ _ _ H.out (by omega)).mono ?_
  rw [V1.out]
  rintro e w1 ⟨rfl, p1⟩
  have I0 : Hid (OwnInts (w1.alloc (.cells #[.int .i64 0] 3)) (fun q => w.heap.size ≤ q) (some ⟨w1.heap.size, 0, none⟩) 1 (irnds ds 0)) := by
    refine ⟨rfl, fun _ => ⟨_, 1, _, rfl, p1.size, Nat.le_refl _, rowOf w1 #[.int .i64 0] 3, fun j hj => ?_⟩⟩
    obtain rfl : j = 0 := by omega
    rfl
  go_wp2_with fail
  go_loopw [3, 4] (fun v iv wr => ∃ (k : Nat) (a' : Option Addr) (n' c' : Nat), k ≤ n ∧ iv = .int .i64 k ∧ v = .slice a' n' c' ∧ n' ≤ c' ∧ Hid (OwnInts wr (fun q => w.heap.size ≤ q) a' n' (irnds ds k)) ∧ Keep w wr) (fun _ iv _ => n - (intOf iv).toNat)
  case atStart => exact ⟨0, _, _, _, Nat.zero_le _, rfl, rfl, Nat.le_refl _, I0, p1.trans (Keep.al _ _)⟩
  case round =>
    obtain ⟨wo, rfl⟩ : ∃ wo : World, wo = wr := ⟨_, rfl⟩
    obtain ⟨k, a', n', c', hk, rfl, rfl, hnc', hI, hK⟩ := hrel
    by_cases hlt : k < n
    case neg =>
      have HK1 : Hid (k = ds.length) := by have := HLN.out; show _ = _; omega
      go_wp2_with fail
      refine fin_ hQ ⟨a', n', c', rfl, hnc', ?_, hK⟩
      rw [if_pos V1.out, inhL, ← HK1.out]
      exact hI.out
    go_wp2_with fail
    have I1 : Hid (OwnInts wo (fun q => w.heap.size ≤ q) a' n' (irnTo ds (irnds ds k) 0)) := hI
    go_loopw [3, 5] (fun v iv wr => ∃ (i : Nat) (a' : Option Addr) (n' c' : Nat), i ≤ n ∧ iv = .int .i64 i ∧ v = .slice a' n' c' ∧ n' ≤ c' ∧ Hid (OwnInts wr (fun q => w.heap.size ≤ q) a' n' (irnTo ds (irnds ds k) i)) ∧ Keep w wr) (fun _ iv _ => n - (intOf iv).toNat)
    case atStart => exact ⟨0, _, _, _, Nat.zero_le _, rfl, rfl, hnc', I1, hK⟩
    case round =>
      obtain ⟨wo2, rfl⟩ : ∃ wo2 : World, wo2 = wr := ⟨_, rfl⟩
      obtain ⟨i, a2, n2, c2, hi, rfl, rfl, hnc2, hI2, hK2⟩ := hrel
      by_cases hlt2 : i < n
      case neg =>
        have I3 : Hid (OwnInts wo2 (fun q => w.heap.size ≤ q) a2 n2 (irnds ds (k + 1))) := by
          show OwnInts _ _ _ _ _
          have h := hI2.out
          rw [show i = ds.length by have := HLN.out; omega] at h
          exact h
        go_wp2_with fail
        go_roundw
        case rel => exact ⟨k + 1, a2, n2, c2, by omega, by go_num, rfl, hnc2, I3, hK2⟩
        case measure => simp [intOf]; omega
      have hn2 : n2 ≤ 5 := by have h1 := hI2.out.1; have h2 := irnTo_len (ds := ds) k i (by have := HLN.out; omega); have h3 := HLN.out; omega
      obtain ⟨b, o, rfl, hd, hc⟩ := H.out.2 (by omega)
      obtain ⟨d0, d1, a3, m3, c3, d2, hmc, hC⟩ := hc i hlt2
      have g0 := (hK2.cell (World.block_lt_of_cell? w _ d0) (fun h => h)).trans d0
      have g1 := (hK2.cell (World.block_lt_of_cell? w _ d1) (fun h => h)).trans d1
      have g2 := (hK2.cell (World.block_lt_of_cell? w _ d2) (fun h => h)).trans d2
      have hm3 : m3 ≤ 1000000 := by
        have h1 := hC.1
        have h2 := (Few.of_ok V1.out).2 i (by have := HLN.out; omega)
        omega
      have C2 := Lib.hid (hC.ext hK2 (fun _ _ h => h))
      have HFL : Hid (∀ l, l < (dAt ds i).cons.length → (cAt (dAt ds i).cons l).length ≤ 1000) := fun l hl => by have := con_len V1.out (i := i) (by have := HLN.out; omega) hl; omega
      obtain ⟨fb, hfb⟩ : ∃ fb, fullB (dAt ds i) (fun x => decide (x ∈ irnTo ds (irnds ds k) i)) = fb := ⟨_, rfl⟩
      have HFB : Hid (fullB ⟨(dAt ds i).from_, (dAt ds i).to_, (dAt ds i).cons⟩ (fun x => decide (x ∈ irnTo ds (irnds ds k) i)) = fb) := hfb
      have HI : Hid (i < ds.length) := by have := HLN.out; show _ < _; omega
      have HST : Hid (irnTo ds (irnds ds k) (i + 1) = if fb = true then insL (irnTo ds (irnds ds k) i) ((i : Int) + 1) else irnTo ds (irnds ds k) i) := by
        show irnAt ds _ i = _
        rw [irnAt, hfb]
      clear hc d0 d1 d2 hC hfb
      go_wp2_with fail
      refine (specAnyFull _ _ _ _ _ _ _ _ _ _ _ _ _ C2.out hm3 hI2.out.read (by omega) HFL.out).mono ?_
      rw [HFB.out]
      rintro e w3 ⟨rfl, p3⟩
      have I3 := Lib.hid (hI2.out.ext p3 (fun _ _ h => h))
      have K3 := hK2.trans p3
      clear g0 g1 g2
      cases fb
      · have I4 : Hid (OwnInts w3 (fun q => w.heap.size ≤ q) a2 n2 (irnTo ds (irnds ds k) (i + 1))) := by
          show OwnInts _ _ _ _ _
          rw [HST.out]
          exact I3.out
        go_wp2_with fail
        go_roundw
        case rel => exact ⟨i + 1, a2, n2, c2, by omega, by go_num, rfl, hnc2, I4, K3⟩
        case measure => simp [intOf]; omega
      · go_wp2_with fail
        refine (specInsert _ _ _ _ _ _ _ I3.out.read (by omega)).mono ?_
        rintro e w4 ⟨a4, n4, c4, rfl, hn4', o4, p4⟩
        have I4 : Hid (OwnInts w4 (fun q => w.heap.size ≤ q) a4 n4 (irnTo ds (irnds ds k) (i + 1))) := by
          show OwnInts _ _ _ _ _
          have h := HST.out
          simp only [if_true] at h
          rw [h]
          exact o4.mono (fun q hq => by have h1 := K3.size; have h2 : w3.heap.size ≤ q := hq; omega)
        clear o4
        go_wp2_with fail
        go_roundw
        case rel => exact ⟨i + 1, a4, n4, c4, by omega, by go_num, rfl, hn4', I4, K3.trans p4⟩
        case measure => simp [intOf]; omega
end Go.Proofs.Ythdjijhpdgajbaa
