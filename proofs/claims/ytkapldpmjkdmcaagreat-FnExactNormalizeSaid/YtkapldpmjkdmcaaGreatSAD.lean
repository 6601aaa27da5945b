/- arrowOf of the program and of the reference; ConCount, ConType and ArrowOf of both. -/
import Derived.Test.YtkapldpmjkdmcaaGreatSAB
import Derived.Test.YtkapldpmjkdmcaaGreatSAC
import Derived.Deep.RegionHeld3
import Derived.IntWalk
namespace Go.Proofs.YtkapldpmjkdmcaaGreat
open Go.RowKit

theorem isArrow_off {ds : List DeclL} {f t : Int} {k : Nat} (h : (dAt ds k).cons.length ≠ 0 ∨ ((dAt ds k).from_ == f) = false ∨ ((dAt ds k).to_ == t) = false) : isArrow ds f t k = false := by
  unfold isArrow
  rcases h with h | h | h <;> simp_all
theorem isArrow_on {ds : List DeclL} {f t : Int} {k : Nat} (h : (dAt ds k).cons.length = 0) (h1 : ((dAt ds k).from_ == f) = true) (h2 : ((dAt ds k).to_ == t) = true) : isArrow ds f t k = true := by
  unfold isArrow
  simp_all

set_option maxHeartbeats 1000000 in
theorem implArrowOf0 (a : Option Addr) (n c : Nat) (ds : List DeclL) (D : Nat → Prop) (f t : Int) (w : World) (h : DeclsR w D a n ds) (hn4 : n ≤ 1048576) :
    Calls Tryz.prog 204 #[.slice a n c, .int .i64 f, .int .i64 t] w fun e w' => e = .returned (.int .i64 (arrowL ds f t)) ∧ Keep w w' := by
  refine calls_k fun Q hQ => ?_
  have hlen := h.1
  have HL := Lib.hid hlen
  clear hlen
  go_enter Tryz.func204, Tryz.ntmps204
  go_wp2
  go_loopw [11] (fun i wr => ∃ k : Nat, k ≤ n ∧ i = .int .i64 k ∧ Keep w wr ∧ Hid (∀ j, j < k → isArrow ds f t j = false)) (fun i _ => n - (intOf i).toNat)
  case atStart => exact ⟨0, Nat.zero_le _, rfl, Ext.refl _ _, fun j hj => absurd hj (by omega)⟩
  case round =>
    obtain ⟨k, hk, rfl, hK, H⟩ := hrel
    by_cases hlt : k < n
    · have h1 := h.ext hK (fun _ _ h => h)
      obtain ⟨b, o, rfl, hd, hc⟩ := h1.2 (by omega)
      obtain ⟨c0, c1, a', m, c', c2, hmc, hcons⟩ := hc k (by omega)
      have HM := Lib.hid hcons.1
      clear hc hcons h1 h
      by_cases g0 : m = 0
      · subst g0
        cases g1 : ((dAt ds k).from_ == f)
        · have V := Lib.hid (isArrow_off (ds := ds) (f := f) (t := t) (k := k) (.inr (.inl g1)))
          go_wp2
          go_roundw
          case rel => exact ⟨k + 1, by omega, by go_num, hK.trans ((Ext.refl _ _).alloc _), fun j hj => by
            rcases Nat.lt_succ_iff_lt_or_eq.1 hj with h | rfl
            · exact H.out j h
            · exact V.out⟩
          case measure => simp [intOf]; omega
        · cases g2 : ((dAt ds k).to_ == t)
          · have V := Lib.hid (isArrow_off (ds := ds) (f := f) (t := t) (k := k) (.inr (.inr g2)))
            go_wp2
            go_roundw
            case rel => exact ⟨k + 1, by omega, by go_num, hK.trans ((Ext.refl _ _).alloc _), fun j hj => by
              rcases Nat.lt_succ_iff_lt_or_eq.1 hj with h | rfl
              · exact H.out j h
              · exact V.out⟩
            case measure => simp [intOf]; omega
          · have V := Lib.hid (isArrow_on HM.out g1 g2)
            go_wp2
            exact fin_ hQ ⟨ret_i (by rw [arrowL, firstIx_some (by have := HL.out; omega) V.out H.out]; rfl), hK.trans ((Ext.refl _ _).alloc _)⟩
      · have g0' : ((m : Int) == 0) = false := by simp; omega
        have V := Lib.hid (isArrow_off (ds := ds) (f := f) (t := t) (k := k) (.inl (by rw [HM.out]; exact g0)))
        go_wp2
        go_roundw
        case rel => exact ⟨k + 1, by omega, by go_num, hK.trans ((Ext.refl _ _).alloc _), fun j hj => by
          rcases Nat.lt_succ_iff_lt_or_eq.1 hj with h | rfl
          · exact H.out j h
          · exact V.out⟩
        case measure => simp [intOf]; omega
    · go_wp2
      exact fin_ hQ ⟨ret_i (by rw [arrowL, firstIx_none (fun j hj => H.out j (by have := HL.out; omega))]; rfl), hK⟩

set_option maxHeartbeats 1000000 in
theorem specArrowOf0 (a : Option Addr) (n c : Nat) (ds : List DeclL) (D : Nat → Prop) (f t : Int) (w : World) (h : DeclsR w D a n ds) (hn4 : n ≤ 1048576) :
    Calls Tryz.prog 198 #[.slice a n c, .int .i64 f, .int .i64 t] w fun e w' => e = .returned (.int .i64 (arrowL ds f t)) ∧ w = w' := by
  refine calls_k fun Q hQ => ?_
  have hlen := h.1
  have HL := Lib.hid hlen
  clear hlen
  go_enter Tryz.func198, Tryz.ntmps198
  go_wp2
  go_loop [7] (fun i => ∃ k : Nat, k ≤ n ∧ i = .int .i64 k ∧ Hid (∀ j, j < k → isArrow ds f t j = false)) (fun i => n - (intOf i).toNat)
  case atStart => exact ⟨0, Nat.zero_le _, rfl, fun j hj => absurd hj (by omega)⟩
  case round =>
    obtain ⟨k, hk, rfl, H⟩ := hrel
    by_cases hlt : k < n
    · obtain ⟨b, o, rfl, hd, hc⟩ := h.2 (by omega)
      obtain ⟨c0, c1, a', m, c', c2, hmc, hcons⟩ := hc k (by omega)
      have HM := Lib.hid hcons.1
      clear hc hcons h
      by_cases g0 : m = 0
      · subst g0
        cases g1 : ((dAt ds k).from_ == f)
        · have V := Lib.hid (isArrow_off (ds := ds) (f := f) (t := t) (k := k) (.inr (.inl g1)))
          go_wp2
          go_round
          case rel => exact ⟨k + 1, by omega, by go_num, fun j hj => by
            rcases Nat.lt_succ_iff_lt_or_eq.1 hj with h | rfl
            · exact H.out j h
            · exact V.out⟩
          case measure => simp [intOf]; omega
        · cases g2 : ((dAt ds k).to_ == t)
          · have V := Lib.hid (isArrow_off (ds := ds) (f := f) (t := t) (k := k) (.inr (.inr g2)))
            go_wp2
            go_round
            case rel => exact ⟨k + 1, by omega, by go_num, fun j hj => by
              rcases Nat.lt_succ_iff_lt_or_eq.1 hj with h | rfl
              · exact H.out j h
              · exact V.out⟩
            case measure => simp [intOf]; omega
          · have V := Lib.hid (isArrow_on HM.out g1 g2)
            go_wp2
            exact fin_ hQ ⟨ret_i (by rw [arrowL, firstIx_some (by have := HL.out; omega) V.out H.out]; rfl), rfl⟩
      · have g0' : ((m : Int) == 0) = false := by simp; omega
        have V := Lib.hid (isArrow_off (ds := ds) (f := f) (t := t) (k := k) (.inl (by rw [HM.out]; exact g0)))
        go_wp2
        go_round
        case rel => exact ⟨k + 1, by omega, by go_num, fun j hj => by
          rcases Nat.lt_succ_iff_lt_or_eq.1 hj with h | rfl
          · exact H.out j h
          · exact V.out⟩
        case measure => simp [intOf]; omega
    · go_wp2
      exact fin_ hQ ⟨ret_i (by rw [arrowL, firstIx_none (fun j hj => H.out j (by have := HL.out; omega))]; rfl), rfl⟩

/-- What the six exported functions give. -/
def ifOk (ds : List DeclL) (v : Int) : Int := if typesOk ds = true then v else -1
end Go.Proofs.YtkapldpmjkdmcaaGreat
/- consOf of the program and of the reference: the numbers of the constructors of a type. -/
namespace Go.Proofs.YtkapldpmjkdmcaaGreat
open Go.RowKit

def upFrom (f k : Nat) : List Int := (List.range k).map fun i => ((f + i : Nat) : Int)
theorem upFrom_succ (f k : Nat) : upFrom f (k + 1) = upFrom f k ++ [((f + k : Nat) : Int)] := by simp [upFrom, List.range_succ]
theorem consL_in {ds : List DeclL} {k : Nat} (h : k < ds.length) : consL ds ((k : Int) + 1) = upFrom (firstN ds k) (dAt ds k).cons.length := by
  have e : ((k : Int) + 1).toNat - 1 = k := by omega
  simp only [consL]
  rw [if_pos (by omega), e]
  rfl
theorem consL_out {ds : List DeclL} {t : Int} (h : ¬ (1 ≤ t ∧ t ≤ (ds.length : Int))) : consL ds t = [] := if_neg h

set_option maxHeartbeats 1000000 in
theorem specConsOf0 (a : Option Addr) (n c : Nat) (ds : List DeclL) (D : Nat → Prop) (t : Int) (w : World) (h : DeclsR w D a n ds) (hf : Few ds) :
    Calls Tryz.prog 197 #[.slice a n c, .int .i64 t] w fun e w' => ∃ a' m c', e = .returned (.slice a' m c') ∧ m ≤ c' ∧ OwnInts w' (fun k => w.heap.size ≤ k) a' m (consL ds t) ∧ Keep w w' := by
  refine calls_k fun Q hQ => ?_
  have HL := Lib.hid h.1
  have hn4 : n ≤ 4 := by have := hf.1; have := h.1; omega
  have hK0 : Keep w (w.alloc (.cells #[] 3)) := (Ext.refl _ w).alloc _
  have hown0 : (w.alloc (.cells #[] 3)).ownsRow w.heap.size 3 1 (.slice (some ⟨w.heap.size, 0, none⟩) 0 0) 0 (([] : List Int).map (Value.int .i64)) := World.ownsRow_made w #[] 0 (Nat.le_refl _) (by simp [maxLen]) rfl
  by_cases ht : 1 ≤ t ∧ t ≤ (n : Int)
  · obtain ⟨k, rfl⟩ : ∃ k : Nat, t = (k : Int) + 1 := ⟨(t - 1).toNat, by omega⟩
    have hkn : k < n := by omega
    have hv : decide (1 ≤ (k : Int) + 1 ∧ (k : Int) + 1 ≤ (n : Int)) = true := decide_eq_true ht
    have h1 := h.ext hK0 (fun _ _ h => h)
    obtain ⟨b, o, rfl, hd, hc⟩ := h.2 (by omega)
    obtain ⟨_, _, a', m, c', c2, hmc, hcons⟩ := hc k hkn
    have HM := Lib.hid hcons.1
    have HC : Hid (consL ds ((k : Int) + 1) = upFrom (firstN ds k) m) := by show _ = _; rw [consL_in (by have := HL.out; omega), HM.out]
    have b2 : m ≤ 3 := by have := hf.2 k (by have := HL.out; omega); have := HM.out; omega
    have b1 := firstN_le hf (k := k) (by have := HL.out; omega)
    have HO := Lib.hid hown0
    have C2 := Lib.hid c2
    clear hc hcons ht hown0 c2
    go_enter Tryz.func197, Tryz.ntmps197
    go_wp2_with (go_at_call 60; refine (specInRange _ _ _ _).mono ?_; rintro e w1 ⟨rfl, rfl⟩)
    go_loopw [5, 6] (fun v i wr => ∃ j : Nat, j ≤ m ∧ i = .int .i64 j ∧ Hid (wr.ownsRow w.heap.size 3 1 v j ((upFrom (firstN ds k) j).map (Value.int .i64))) ∧ Keep w wr) (fun _ i _ => m - (intOf i).toNat)
    case atStart => exact ⟨0, Nat.zero_le _, rfl, HO, hK0⟩
    case round =>
      obtain ⟨j, hj, rfl, hown, hK⟩ := hrel
      have hx2 := (hK.cell (World.block_lt_of_cell? _ _ C2.out) (fun h => h)).trans C2.out
      by_cases hlt : j < m
      · have h2 := h.ext hK (fun _ _ h => h)
        have hbs : w.heap.size ≤ wr.heap.size := hK.size
        go_wp2_with (first
          | (go_at_call 196; refine (specFirstCon _ _ _ _ _ _ _ h2 hf (by omega)).mono ?_; rintro e w1 ⟨rfl, rfl⟩)
          | (at_builtin; refine wpList_appInt _ rfl (.tmp 25) (.tmp 32) rfl w.heap.size u5 j (upFrom (firstN ds k) j) rfl (hown.out.alloc _) wr.heap.size 1 ((firstN ds k : Int) + (j : Int)) rfl (by simp [go_sem]) (by omega) (by simp; omega) ?_; intro v' w' ho hg))
        go_roundw
        case rel => exact ⟨j + 1, by omega, by go_num, by
          show World.ownsRow _ _ _ _ _ _ _
          rw [upFrom_succ, Int.natCast_add]; exact ho, (hK.alloc _).grown hg (fun g hg' => .inl (hown.out.lt g hg').1)⟩
        case measure => simp [intOf]; omega
      · have HJ : Hid (j = m) := by show _ = _; omega
        go_wp2
        obtain ⟨a2, cc, rfl, hle, hoi⟩ := own_of_row hown.out
        have := HJ.out
        subst this
        exact fin_ hQ ⟨a2, j, cc, rfl, hle, by rw [HC.out]; exact hoi, hK⟩
  · have hv : decide (1 ≤ t ∧ t ≤ (n : Int)) = false := decide_eq_false ht
    have HC : Hid (consL ds t = []) := by show _ = _; exact consL_out (by rw [HL.out]; exact ht)
    clear ht
    go_enter Tryz.func197, Tryz.ntmps197
    go_wp2_with (go_at_call 60; refine (specInRange _ _ _ _).mono ?_; rintro e w1 ⟨rfl, rfl⟩)
    exact fin_ hQ ⟨_, 0, 0, rfl, Nat.le_refl _, by rw [HC.out]; exact ⟨rfl, fun h => absurd h (by omega)⟩, hK0⟩

set_option maxHeartbeats 1000000 in
theorem implConsOf0 (a : Option Addr) (n c : Nat) (ds : List DeclL) (D : Nat → Prop) (t : Int) (w : World) (h : DeclsR w D a n ds) (hnc : n ≤ c) (hf : Few ds) :
    Calls Tryz.prog 106 #[.slice a n c, .int .i64 t] w fun e w' => ∃ a' m c', e = .returned (.slice a' m c') ∧ m ≤ c' ∧ OwnInts w' (fun k => w.heap.size ≤ k) a' m (consL ds t) ∧ Keep w w' := by
  refine calls_k fun Q hQ => ?_
  have HL := Lib.hid h.1
  have hn4 : n ≤ 4 := by have := hf.1; have := h.1; omega
  by_cases ht1 : t < 1
  · have HC : Hid (consL ds t = []) := by show _ = _; exact consL_out (by omega)
    go_enter Tryz.func106, Tryz.ntmps106
    go_wp2_with fail
    exact fin_ hQ ⟨none, 0, 0, rfl, Nat.le_refl _, by rw [HC.out]; exact ⟨rfl, fun h => absurd h (by omega)⟩, Ext.refl _ _⟩
  by_cases ht2 : (n : Int) < t
  · have HC : Hid (consL ds t = []) := by show _ = _; exact consL_out (by have := HL.out; omega)
    go_enter Tryz.func106, Tryz.ntmps106
    go_wp2_with fail
    exact fin_ hQ ⟨none, 0, 0, rfl, Nat.le_refl _, by rw [HC.out]; exact ⟨rfl, fun h => absurd h (by omega)⟩, Ext.refl _ _⟩
  obtain ⟨k, rfl⟩ : ∃ k : Nat, t = (k : Int) + 1 := ⟨(t - 1).toNat, by omega⟩
  have hkn : k < n := by omega
  obtain ⟨b, o, rfl, hd, hc⟩ := h.2 (by omega)
  obtain ⟨_, _, a', m, c', c2, hmc, hcons⟩ := hc k hkn
  have HM := Lib.hid hcons.1
  have HC : Hid (consL ds ((k : Int) + 1) = upFrom (firstN ds k) m) := by show _ = _; rw [consL_in (by have := HL.out; omega), HM.out]
  have b2 : m ≤ 3 := by have := hf.2 k (by have := HL.out; omega); have := HM.out; omega
  have b1 := firstN_le hf (k := k) (by have := HL.out; omega)
  have htk : DeclsR w D (some ⟨b, o, none⟩) k (ds.take k) := ⟨by have := HL.out; simp; omega, fun _ => ⟨b, o, rfl, hd, fun i hi => by
    have := hc i (by omega)
    rwa [show dAt (ds.take k) i = dAt ds i from by simp [dAt, hi]]⟩⟩
  have hft : Few (ds.take k) := ⟨by have := hf.1; simp; omega, fun i hi => by
    have hi' : i < k := by simp at hi; omega
    rw [show dAt (ds.take k) i = dAt ds i from by simp [dAt, hi']]
    exact hf.2 i (by simp at hi; omega)⟩
  have hcn : Hid (conN (ds.take k) = firstN ds k) := by
    show _ = _
    have hlk : (ds.take k).length = k := by have := HL.out; simp; omega
    rw [conN, hlk]
    have : ∀ j, j ≤ k → firstN (ds.take k) j = firstN ds j := by
      intro j hj
      induction j with
      | zero => rfl
      | succ j ih => simp only [firstN]; rw [ih (by omega), show dAt (ds.take k) j = dAt ds j from by simp [dAt, show j < k by omega]]
    exact this k (Nat.le_refl _)
  have C2 := Lib.hid c2
  clear hc hcons c2
  go_enter Tryz.func106, Tryz.ntmps106
  go_wp2_with fail
  refine (implConCount0 _ _ _ _ _ _ htk hft).mono ?_
  rw [hcn.out]
  rintro e w1 ⟨rfl, hk1⟩
  have c3 := (hk1.cell (World.block_lt_of_cell? _ _ C2.out) (fun h => h)).trans C2.out
  go_wp2_with fail
  go_loopw [6, 28] (fun v i wr => ∃ j : Nat, j ≤ m ∧ i = .int .i64 j ∧ Hid (wr.ownsRow w.heap.size 3 1 v j ((upFrom (firstN ds k) j).map (Value.int .i64))) ∧ Keep w wr) (fun _ i _ => m - (intOf i).toNat)
  case atStart => exact ⟨0, Nat.zero_le _, rfl, World.ownsRow_nil _ _ _ _, hk1⟩
  case round =>
    obtain ⟨j, hj, rfl, hown, hK⟩ := hrel
    by_cases hlt : j < m
    · have hbs : w.heap.size ≤ wr.heap.size := hK.size
      go_wp2_with (at_builtin; refine wpList_appInt _ rfl (.tmp 31) (.tmp 35) rfl w.heap.size u6 j (upFrom (firstN ds k) j) rfl (hown.out.alloc _) wr.heap.size 1 ((firstN ds k : Int) + (j : Int)) rfl (by simp [go_sem]) (by omega) (by simp; omega) ?_; intro v' w' ho hg)
      go_roundw
      case rel => exact ⟨j + 1, by omega, by go_num, by
        show World.ownsRow _ _ _ _ _ _ _
        rw [upFrom_succ, Int.natCast_add]; exact ho, (hK.alloc _).grown hg (fun g hg' => .inl (hown.out.lt g hg').1)⟩
      case measure => simp [intOf]; omega
    · have HJ : Hid (j = m) := by show _ = _; omega
      go_wp2
      obtain ⟨a2, cc, rfl, hle, hoi⟩ := own_of_row hown.out
      have := HJ.out
      subst this
      exact fin_ hQ ⟨a2, j, cc, rfl, hle, by rw [HC.out]; exact hoi, hK⟩
end Go.Proofs.YtkapldpmjkdmcaaGreat
/- copyInts, slices.Clone of integers, conFields, ConFields and ConsOf. -/
namespace Go.Proofs.YtkapldpmjkdmcaaGreat
open Go.RowKit

theorem copyInts_any (A : Option Addr) (m c : Nat) (ys : List Int) (D : Nat → Prop) (w : World) (h : IntsL w D A m ys) (hm : m ≤ 1099511627776) :
    Calls Tryz.prog 102 #[.slice A m c] w fun e w' => ∃ a' c', e = .returned (.slice a' m c') ∧ m ≤ c' ∧ OwnInts w' (fun k => w.heap.size ≤ k) a' m ys ∧ Keep w w' := by
  refine calls_k fun Q hQ => ?_
  have HO := Lib.hid (ownEmpty w)
  have hK : Keep w (w.alloc (.cells #[] 3)) := (Ext.refl _ w).alloc _
  have h1 := h.ext hK (fun _ _ h => h)
  go_enter Tryz.func102, Tryz.ntmps102
  go_wp2_with (at_builtin; refine wpList_appInts _ rfl (.tmp 3) (.tmp 4) rfl w.heap.size (.slice (some ⟨w.heap.size, 0, none⟩) 0 0) 0 [] rfl HO.out A m c ys D rfl h1 (by omega) (by simp) ?_; intro v' w' ho hg)
  obtain ⟨a2, cc, rfl, hle, hoi⟩ := own_of_row ho
  simp only [Nat.zero_add, List.nil_append] at hoi hle
  have hk : Keep w w' := hK.grown hg (fun g hg' => .inl (HO.out.lt g hg').1)
  rw [Nat.zero_add]
  exact fin_ hQ ⟨a2, cc, rfl, hle, hoi, hk⟩

theorem conTypeL_some {ds : List DeclL} {x : Int} {i : Nat} (h : conIx ds x = some i) : conTypeL ds x = (i : Int) + 1 := by rw [conTypeL, h]; rfl
theorem conTypeL_none {ds : List DeclL} {x : Int} (h : conIx ds x = none) : conTypeL ds x = -1 := by rw [conTypeL, h]; rfl

set_option maxHeartbeats 1000000 in
theorem specConFields0 (a : Option Addr) (n c : Nat) (ds : List DeclL) (D : Nat → Prop) (x : Int) (w : World) (h : DeclsR w D a n ds) (hf : Few ds) :
    Calls Tryz.prog 148 #[.slice a n c, .int .i64 x] w fun e w' => ∃ a' m c', e = .returned (.slice a' m c') ∧ m ≤ c' ∧ IntsL w' (fun k => D k ∨ w.heap.size ≤ k) a' m (conFieldsL ds x) ∧ Keep w w' := by
  refine calls_k fun Q hQ => ?_
  have HL := Lib.hid h.1
  have hn4 : n ≤ 4 := by have := hf.1; have := h.1; omega
  cases hv : conIx ds x with
  | none =>
    have V := Lib.hid (conTypeL_none hv)
    have F : Hid (conFieldsL ds x = []) := by show _ = _; rw [conFieldsL, hv]
    clear hv
    go_enter Tryz.func148, Tryz.ntmps148
    go_wp2_with (go_at_call 146; refine (specConType0 _ _ _ _ _ _ _ h hf).mono ?_; rw [V.out]; rintro e w1 ⟨rfl, rfl⟩)
    exact fin_ hQ ⟨_, 0, 0, rfl, Nat.le_refl _, by rw [F.out]; exact ⟨rfl, fun h => absurd h (by omega)⟩, (Ext.refl _ _).alloc _⟩
  | some k =>
    obtain ⟨q1, q2, _⟩ := firstIx_spec hv
    have V := Lib.hid (conTypeL_some hv)
    have F : Hid (conFieldsL ds x = cAt (dAt ds k).cons (x.toNat - firstN ds k)) := by show _ = _; rw [conFieldsL, hv]
    obtain ⟨g1, g2⟩ := inDecl_iff.1 q2
    obtain ⟨j, hj⟩ := Int.eq_ofNat_of_zero_le g1
    obtain rfl : x = (firstN ds k : Int) + (j : Int) := by omega
    have hkn : k < n := by have := HL.out; omega
    obtain ⟨b, o, rfl, hd, hc⟩ := h.2 (by omega)
    obtain ⟨_, _, a', m, c', c2, hmc, hcons⟩ := hc k hkn
    have HM := hcons.1
    obtain ⟨b1', o1, rfl, hd1, hc1⟩ := hcons.2 (by omega)
    obtain ⟨a2, m2, c2', x0, hmc2, hints⟩ := hc1 j (by omega)
    have hjm : j < m := by omega
    have b1 := firstN_le hf (k := k) (by have := HL.out; omega)
    have hcl := hf.2 k (by have := HL.out; omega)
    have b3 : m ≤ 3 := by omega
    have HI := Lib.hid hints
    clear hc hcons hc1 hints hv q2 g1 g2 hj HM hcl
    go_enter Tryz.func148, Tryz.ntmps148
    go_wp2_with (go_at_call 146; refine (specConType0 _ _ _ _ _ _ _ h hf).mono ?_; rw [V.out]; rintro e w1 ⟨rfl, rfl⟩)
    have e1 : IntKind.i64.wrap ((k : Int) + 1 - 1) = (k : Int) := by rw [show (k : Int) + 1 - 1 = (k : Int) by omega]; exact IntWalk.i64_in _ (by omega)
    have e3 : IntKind.i64.wrap (k : Int) = (k : Int) := IntWalk.i64_in _ (by omega)
    have e4 : IntKind.i64.wrap (j : Int) = (j : Int) := IntWalk.i64_in _ (by omega)
    have e2 : IntKind.i64.wrap ((firstN ds k : Int) + (j : Int) - (firstN ds k : Int)) = (j : Int) := by rw [show (firstN ds k : Int) + (j : Int) - (firstN ds k : Int) = (j : Int) by omega]; exact IntWalk.i64_in _ (by omega)
    go_quiet ((go_at_call 196; exact Calls.quiet_of_same ((specFirstCon _ _ _ _ _ _ _ (h.drewN _) hf (by omega)).mono fun _ _ q => ⟨q.1, q.2.symm⟩)))
    clear e1 e2 e3 e4
    go_wp2
    refine fin_ hQ ⟨a2, m2, c2', rfl, hmc2, ?_, (Ext.refl _ _).drewN nq⟩
    rw [F.out, show ((firstN ds k : Int) + (j : Int)).toNat - firstN ds k = j by omega]
    exact (HI.out.drewN nq).mono (fun _ h => .inl h)
end Go.Proofs.YtkapldpmjkdmcaaGreat
/- The reference's types of expressions: its helpers over all kids. -/
namespace Go.Proofs.YtkapldpmjkdmcaaGreat
open Go.RowKit

theorem ints_ext {xs ys : List Int} (h : xs.length = ys.length) (h2 : ∀ i, i < xs.length → iAt xs i = iAt ys i) : xs = ys := by
  apply List.ext_getElem h
  intro i h3 h4
  have := h2 i h3
  rwa [iAt_eq h3, iAt_eq h4] at this
theorem ints_ne {xs ys : List Int} (i : Nat) (h : iAt xs i ≠ iAt ys i) : xs ≠ ys := fun e => h (by rw [e])
theorem iAt_rep {m i : Nat} (h : i < m) : iAt (List.replicate m 0) i = 0 := by simp [iAt, List.getD, h]

/-- A program that can be read. -/
def PR (w : World) (ds : List DeclL) (fs : List FuncL) (a0 : Option Addr) (n0 c0 : Nat) (a1 : Option Addr) (n1 c1 : Nat) : Prop :=
  Rd w (fun _ => True) (encDecls ds) (.slice a0 n0 c0) ∧ Rd w (fun _ => True) (encFuncs fs) (.slice a1 n1 c1)
theorem PR.k {w w' : World} {ds : List DeclL} {fs : List FuncL} {a0 : Option Addr} {n0 c0 : Nat} {a1 : Option Addr} {n1 c1 : Nat} (h : PR w ds fs a0 n0 c0 a1 n1 c1) (k : Keep w w') : PR w' ds fs a0 n0 c0 a1 n1 c1 := ⟨h.1.k k, h.2.k k⟩
theorem Rd.t {w : World} {D : Nat → Prop} {d : Dat} {v : Value} (h : Rd w D d v) : Rd w (fun _ => True) d v := h.mono (fun _ _ => trivial)

/-- What typeOf of the reference does for one expression. -/
def TyS (ds : List DeclL) (fs : List FuncL) (e : ExprL) : Prop := ∀ (a0 : Option Addr) (n0 c0 : Nat) (a1 : Option Addr) (n1 c1 : Nat) (av : Option Addr) (nv cv : Nat) (vars : List Int) (a : Option Addr) (n c : Nat) (w : World),
  PR w ds fs a0 n0 c0 a1 n1 c1 → Rd w (fun _ => True) (encInts vars) (.slice av nv cv) → Rd w (fun _ => True) (encExprs e.kids) (.slice a n c) → vars.length + 4 * nE e ≤ 1049576 → allT ds.length vars = true →
  Calls Tryz.prog 99 #[.agg #[.slice a0 n0 c0, .slice a1 n1 c1], .slice av nv cv, .agg #[.int .i64 e.op, .int .i64 e.num, .slice a n c]] w fun r w' => r = .returned (.int .i64 (tyE ds (fs.map sigF) vars e)) ∧ Keep w w'

section
variable (ds : List DeclL) (fs : List FuncL)

set_option maxRecDepth 100000 in
set_option maxHeartbeats 4000000 in
theorem specAllOf (es : List ExprL) (IH0 : ∀ j, j < es.length → TyS ds fs (eAt es j)) (a0 : Option Addr) (n0 c0 : Nat) (a1 : Option Addr) (n1 c1 : Nat) (av : Option Addr) (nv cv : Nat) (vars : List Int) (a : Option Addr) (n c : Nat) (at_ : Option Addr) (nt ct : Nat) (ts : List Int) (w : World)
    (hp : PR w ds fs a0 n0 c0 a1 n1 c1) (hv : Rd w (fun _ => True) (encInts vars) (.slice av nv cv)) (h : Rd w (fun _ => True) (encExprs es) (.slice a n c)) (ht : Rd w (fun _ => True) (encInts ts) (.slice at_ nt ct)) (hlen : vars.length + 4 * nEs es ≤ 1049576) (hall : allT ds.length vars = true) :
    Calls Tryz.prog 147 #[.agg #[.slice a0 n0 c0, .slice a1 n1 c1], .slice av nv cv, .slice a n c, .slice at_ nt ct] w fun r w' => r = .returned (.bool (decide (tyEs ds (fs.map sigF) vars es = ts))) ∧ Keep w w' := by
  refine calls_k fun Q hQ => ?_
  have K0 := Keep.al w (.cells #[.slice a0 n0 c0, .slice a1 n1 c1] 44)
  have R0 := rowOf w #[.slice a0 n0 c0, .slice a1 n1 c1] 44
  have hp1 := hp.k K0
  have hv1 := hv.k K0
  obtain ⟨e1, hnc, hm, hat⟩ := exprs_at h
  obtain ⟨e2, htc, htm, htat⟩ := ints_at ht
  have HL := Lib.hid e1
  have HT := Lib.hid e2
  have HA := Lib.hid hat
  have HTA := Lib.hid htat
  have IH := Lib.hid IH0
  have HLen := Lib.hid hlen
  have HAll := Lib.hid hall
  have TL := Lib.hid (tyEs_len ds (fs.map sigF) vars es)
  have hnl : n ≤ 1049576 := by have := nEs_len es; omega
  clear e1 e2 hat htat h ht hp hv IH0 hlen hall
  by_cases hlt0 : n = nt
  case neg =>
    have V : Hid (decide (tyEs ds (fs.map sigF) vars es = ts) = false) := decide_eq_false (fun e => hlt0 (by have := congrArg List.length e; rw [TL.out] at this; have := HL.out; have := HT.out; omega))
    go_enter Tryz.func147, Tryz.ntmps147
    go_wp2_with fail
    exact fin_ hQ ⟨ret_b V.out.symm, K0⟩
  subst hlt0
  go_enter Tryz.func147, Tryz.ntmps147
  go_wp2_with fail
  go_loopw [9] (fun iv wr => ∃ j : Nat, j ≤ n ∧ iv = .int .i64 j ∧ Hid (∀ l, l < j → iAt (tyEs ds (fs.map sigF) vars es) l = iAt ts l) ∧ Hid (wr.rowIs w.heap.size 44 2 (fun i => (#[.slice a0 n0 c0, .slice a1 n1 c1] : Array Value).getD i undef)) ∧ Keep (w.alloc (.cells #[.slice a0 n0 c0, .slice a1 n1 c1] 44)) wr) (fun iv _ => n - (intOf iv).toNat)
  case atStart => exact ⟨0, Nat.zero_le _, rfl, fun l hl => absurd hl (by omega), R0, Ext.refl _ _⟩
  case round =>
    obtain ⟨j, hj, rfl, hI, hR, hK⟩ := hrel
    by_cases hlt : j < n
    · have HJ : Hid (j < es.length) := by have := HL.out; show _ < _; omega
      obtain ⟨b, o, rfl, hd, a2, n2, c2, d0, d1, d2, r2⟩ := HA.out j hlt
      obtain ⟨b', o', rfl, hd', d3⟩ := HTA.out j hlt
      have KW : Keep w wr := K0.trans hK
      have g0 := (KW.cell (World.block_lt_of_cell? w _ d0) (fun h => h)).trans d0
      have g1 := (KW.cell (World.block_lt_of_cell? w _ d1) (fun h => h)).trans d1
      have g2 := (KW.cell (World.block_lt_of_cell? w _ d2) (fun h => h)).trans d2
      have g3 := (KW.cell (World.block_lt_of_cell? w _ d3) (fun h => h)).trans d3
      have x0 := hR.out.cell (i := 0) (by simp)
      have x1 := hR.out.cell (i := 1) (by simp)
      simp at x0 x1
      have q2 := (r2.k KW).k (w' := wr.drew) (Ext.refl (fun _ => False) wr).drew
      have qp := (hp1.k hK).k (w' := wr.drew) (Ext.refl (fun _ => False) wr).drew
      have qv := (hv1.k hK).k (w' := wr.drew) (Ext.refl (fun _ => False) wr).drew
      have hb : vars.length + 4 * nE (eAt es j) ≤ 1049576 := by have := nE_le es HJ.out; have := HLen.out; omega
      have pc : Keep wr.drew wr.drew := Ext.refl _ _
      have HZ := Lib.hid (tyEs_at ds (fs.map sigF) vars HJ.out)
      generalize hz : tyE ds (fs.map sigF) vars (eAt es j) = z at HZ
      have HZ2 := Lib.hid hz
      generalize hu : iAt ts j = u at g3 d3
      have HU := Lib.hid hu
      clear d0 d1 d2 d3 r2 hz hu
      by_cases hzu : z = u
      · have hzu' : (z != u) = false := by simpa using hzu
        have HZU := Lib.hid hzu
        clear hzu
        go_wp2_with fail
        go_region_held3 (fun w' => w'.cell? ⟨w.heap.size, 0, none⟩ = some (.slice a0 n0 c0) ∧ w'.cell? ⟨w.heap.size, 1, none⟩ = some (.slice a1 n1 c1) ∧ w'.cell? ⟨b, o + j * 3, none⟩ = some (.int .i64 (eAt es j).op) ∧ w'.cell? ⟨b, o + j * 3 + 1, none⟩ = some (.int .i64 (eAt es j).num) ∧ w'.cell? ⟨b, o + j * 3 + 2, none⟩ = some (.slice a2 n2 c2) ∧ w'.cell? ⟨b', o' + j, none⟩ = some (.int .i64 u))
          (first | exact ⟨Keep.at pc x0, Keep.at pc x1, Keep.at pc g0, Keep.at pc g1, Keep.at pc g2, Keep.at pc g3⟩ | go_keep)
          ((go_at_call 99; refine (IH.out j HJ.out _ _ _ _ _ _ _ _ _ _ _ _ _ _ (qp.k pc) (qv.k pc) (q2.k pc) hb HAll.out).mono ?_; rw [HZ2.out]; rintro e w1 ⟨rfl, p1⟩; replace pc := pc.trans p1))
        have hI2 : Hid (∀ l, l < j + 1 → iAt (tyEs ds (fs.map sigF) vars es) l = iAt ts l) := by
          intro l hl
          rcases Nat.lt_succ_iff_lt_or_eq.1 hl with h | rfl
          · exact hI.out l h
          · rw [HZ.out, HZU.out]; exact HU.out.symm
        have hR2 := Lib.hid (row_ext hR.out ((Ext.refl _ wr).drew.trans pc) (fun h => h))
        have hK2 := hK.trans ((Ext.refl _ wr).drew.trans pc)
        clear pc qp qv q2 hI hR
        go_wp2_with fail
        go_roundw
        case rel => exact ⟨j + 1, by omega, by go_num, hI2, hR2, hK2⟩
        case measure => simp [intOf]; omega
      · have hzu' : (z != u) = true := by simpa using hzu
        have HZU := Lib.hid hzu
        clear hzu
        go_wp2_with fail
        go_region_held3 (fun w' => w'.cell? ⟨w.heap.size, 0, none⟩ = some (.slice a0 n0 c0) ∧ w'.cell? ⟨w.heap.size, 1, none⟩ = some (.slice a1 n1 c1) ∧ w'.cell? ⟨b, o + j * 3, none⟩ = some (.int .i64 (eAt es j).op) ∧ w'.cell? ⟨b, o + j * 3 + 1, none⟩ = some (.int .i64 (eAt es j).num) ∧ w'.cell? ⟨b, o + j * 3 + 2, none⟩ = some (.slice a2 n2 c2) ∧ w'.cell? ⟨b', o' + j, none⟩ = some (.int .i64 u))
          (first | exact ⟨Keep.at pc x0, Keep.at pc x1, Keep.at pc g0, Keep.at pc g1, Keep.at pc g2, Keep.at pc g3⟩ | go_keep)
          ((go_at_call 99; refine (IH.out j HJ.out _ _ _ _ _ _ _ _ _ _ _ _ _ _ (qp.k pc) (qv.k pc) (q2.k pc) hb HAll.out).mono ?_; rw [HZ2.out]; rintro e w1 ⟨rfl, p1⟩; replace pc := pc.trans p1))
        have V : Hid (decide (tyEs ds (fs.map sigF) vars es = ts) = false) := decide_eq_false (ints_ne j (by rw [HZ.out, HU.out]; exact HZU.out))
        have hK2 := KW.trans ((Ext.refl _ wr).drew.trans pc)
        go_wp2_with fail
        exact fin_ hQ ⟨ret_b V.out.symm, hK2⟩
    · have V : Hid (decide (tyEs ds (fs.map sigF) vars es = ts) = true) := decide_eq_true (ints_ext (by rw [TL.out]; have := HL.out; have := HT.out; omega) (fun l hl => hI.out l (by rw [TL.out] at hl; have := HL.out; omega)))
      go_wp2_with fail
      exact fin_ hQ ⟨ret_b V.out.symm, K0.trans hK⟩

set_option maxRecDepth 100000 in
set_option maxHeartbeats 4000000 in
theorem specAllInts (es : List ExprL) (IH0 : ∀ j, j < es.length → TyS ds fs (eAt es j)) (a0 : Option Addr) (n0 c0 : Nat) (a1 : Option Addr) (n1 c1 : Nat) (av : Option Addr) (nv cv : Nat) (vars : List Int) (a : Option Addr) (n c : Nat) (nt : Nat) (w : World)
    (hp : PR w ds fs a0 n0 c0 a1 n1 c1) (hv : Rd w (fun _ => True) (encInts vars) (.slice av nv cv)) (h : Rd w (fun _ => True) (encExprs es) (.slice a n c)) (hlen : vars.length + 4 * nEs es ≤ 1049576) (hall : allT ds.length vars = true) :
    Calls Tryz.prog 145 #[.agg #[.slice a0 n0 c0, .slice a1 n1 c1], .slice av nv cv, .slice a n c, .int .i64 nt] w fun r w' => r = .returned (.bool (decide (tyEs ds (fs.map sigF) vars es = List.replicate nt 0))) ∧ Keep w w' := by
  refine calls_k fun Q hQ => ?_
  have K0 := Keep.al w (.cells #[.slice a0 n0 c0, .slice a1 n1 c1] 44)
  have R0 := rowOf w #[.slice a0 n0 c0, .slice a1 n1 c1] 44
  have hp1 := hp.k K0
  have hv1 := hv.k K0
  obtain ⟨e1, hnc, hm, hat⟩ := exprs_at h
  have HL := Lib.hid e1
  have HA := Lib.hid hat
  have IH := Lib.hid IH0
  have HLen := Lib.hid hlen
  have HAll := Lib.hid hall
  have TL := Lib.hid (tyEs_len ds (fs.map sigF) vars es)
  have hnl : n ≤ 1049576 := by have := nEs_len es; omega
  clear e1 hat h hp hv IH0 hlen hall
  by_cases hlt0 : n = nt
  case neg =>
    have V : Hid (decide (tyEs ds (fs.map sigF) vars es = List.replicate nt 0) = false) := decide_eq_false (fun e => hlt0 (by have := congrArg List.length e; rw [TL.out, List.length_replicate] at this; have := HL.out; omega))
    go_enter Tryz.func145, Tryz.ntmps145
    go_wp2_with fail
    exact fin_ hQ ⟨ret_b V.out.symm, K0⟩
  subst hlt0
  go_enter Tryz.func145, Tryz.ntmps145
  go_wp2_with fail
  go_loopw [9] (fun iv wr => ∃ j : Nat, j ≤ n ∧ iv = .int .i64 j ∧ Hid (∀ l, l < j → iAt (tyEs ds (fs.map sigF) vars es) l = iAt (List.replicate n 0) l) ∧ Hid (wr.rowIs w.heap.size 44 2 (fun i => (#[.slice a0 n0 c0, .slice a1 n1 c1] : Array Value).getD i undef)) ∧ Keep (w.alloc (.cells #[.slice a0 n0 c0, .slice a1 n1 c1] 44)) wr) (fun iv _ => n - (intOf iv).toNat)
  case atStart => exact ⟨0, Nat.zero_le _, rfl, fun l hl => absurd hl (by omega), R0, Ext.refl _ _⟩
  case round =>
    obtain ⟨j, hj, rfl, hI, hR, hK⟩ := hrel
    by_cases hlt : j < n
    · have HJ : Hid (j < es.length) := by have := HL.out; show _ < _; omega
      obtain ⟨b, o, rfl, hd, a2, n2, c2, d0, d1, d2, r2⟩ := HA.out j hlt
      have KW : Keep w wr := K0.trans hK
      have g0 := (KW.cell (World.block_lt_of_cell? w _ d0) (fun h => h)).trans d0
      have g1 := (KW.cell (World.block_lt_of_cell? w _ d1) (fun h => h)).trans d1
      have g2 := (KW.cell (World.block_lt_of_cell? w _ d2) (fun h => h)).trans d2
      have x0 := hR.out.cell (i := 0) (by simp)
      have x1 := hR.out.cell (i := 1) (by simp)
      simp at x0 x1
      have q2 := (r2.k KW).k (w' := wr.drew) (Ext.refl (fun _ => False) wr).drew
      have qp := (hp1.k hK).k (w' := wr.drew) (Ext.refl (fun _ => False) wr).drew
      have qv := (hv1.k hK).k (w' := wr.drew) (Ext.refl (fun _ => False) wr).drew
      have hb : vars.length + 4 * nE (eAt es j) ≤ 1049576 := by have := nE_le es HJ.out; have := HLen.out; omega
      have pc : Keep wr.drew wr.drew := Ext.refl _ _
      have HZ := Lib.hid (tyEs_at ds (fs.map sigF) vars HJ.out)
      generalize hz : tyE ds (fs.map sigF) vars (eAt es j) = z at HZ
      have HZ2 := Lib.hid hz
      clear d0 d1 d2 r2 hz
      by_cases hzu : z = 0
      · have hzu' : (z != 0) = false := by simpa using hzu
        have HZU := Lib.hid hzu
        clear hzu
        go_wp2_with fail
        go_region_held3 (fun w' => w'.cell? ⟨w.heap.size, 0, none⟩ = some (.slice a0 n0 c0) ∧ w'.cell? ⟨w.heap.size, 1, none⟩ = some (.slice a1 n1 c1) ∧ w'.cell? ⟨b, o + j * 3, none⟩ = some (.int .i64 (eAt es j).op) ∧ w'.cell? ⟨b, o + j * 3 + 1, none⟩ = some (.int .i64 (eAt es j).num) ∧ w'.cell? ⟨b, o + j * 3 + 2, none⟩ = some (.slice a2 n2 c2))
          (first | exact ⟨Keep.at pc x0, Keep.at pc x1, Keep.at pc g0, Keep.at pc g1, Keep.at pc g2⟩ | go_keep)
          ((go_at_call 99; refine (IH.out j HJ.out _ _ _ _ _ _ _ _ _ _ _ _ _ _ (qp.k pc) (qv.k pc) (q2.k pc) hb HAll.out).mono ?_; rw [HZ2.out]; rintro e w1 ⟨rfl, p1⟩; replace pc := pc.trans p1))
        have hI2 : Hid (∀ l, l < j + 1 → iAt (tyEs ds (fs.map sigF) vars es) l = iAt (List.replicate n 0) l) := by
          intro l hl
          rcases Nat.lt_succ_iff_lt_or_eq.1 hl with h | rfl
          · exact hI.out l h
          · rw [HZ.out, HZU.out]; exact (iAt_rep (by omega)).symm
        have hR2 := Lib.hid (row_ext hR.out ((Ext.refl _ wr).drew.trans pc) (fun h => h))
        have hK2 := hK.trans ((Ext.refl _ wr).drew.trans pc)
        clear pc qp qv q2 hI hR
        go_wp2_with fail
        go_roundw
        case rel => exact ⟨j + 1, by omega, by go_num, hI2, hR2, hK2⟩
        case measure => simp [intOf]; omega
      · have hzu' : (z != 0) = true := by simpa using hzu
        have HZU := Lib.hid hzu
        clear hzu
        go_wp2_with fail
        go_region_held3 (fun w' => w'.cell? ⟨w.heap.size, 0, none⟩ = some (.slice a0 n0 c0) ∧ w'.cell? ⟨w.heap.size, 1, none⟩ = some (.slice a1 n1 c1) ∧ w'.cell? ⟨b, o + j * 3, none⟩ = some (.int .i64 (eAt es j).op) ∧ w'.cell? ⟨b, o + j * 3 + 1, none⟩ = some (.int .i64 (eAt es j).num) ∧ w'.cell? ⟨b, o + j * 3 + 2, none⟩ = some (.slice a2 n2 c2))
          (first | exact ⟨Keep.at pc x0, Keep.at pc x1, Keep.at pc g0, Keep.at pc g1, Keep.at pc g2⟩ | go_keep)
          ((go_at_call 99; refine (IH.out j HJ.out _ _ _ _ _ _ _ _ _ _ _ _ _ _ (qp.k pc) (qv.k pc) (q2.k pc) hb HAll.out).mono ?_; rw [HZ2.out]; rintro e w1 ⟨rfl, p1⟩; replace pc := pc.trans p1))
        have V : Hid (decide (tyEs ds (fs.map sigF) vars es = (List.replicate n 0)) = false) := decide_eq_false (ints_ne j (by rw [HZ.out, iAt_rep hlt]; exact HZU.out))
        have hK2 := KW.trans ((Ext.refl _ wr).drew.trans pc)
        go_wp2_with fail
        exact fin_ hQ ⟨ret_b V.out.symm, hK2⟩
    · have V : Hid (decide (tyEs ds (fs.map sigF) vars es = (List.replicate n 0)) = true) := decide_eq_true (ints_ext (by rw [TL.out]; have := HL.out; rw [List.length_replicate]; omega) (fun l hl => hI.out l (by rw [TL.out] at hl; have := HL.out; omega)))
      go_wp2_with fail
      exact fin_ hQ ⟨ret_b V.out.symm, K0.trans hK⟩
end
end Go.Proofs.YtkapldpmjkdmcaaGreat
/- The types of expressions, plain: what has a type has one that there is. -/
namespace Go.Proofs.YtkapldpmjkdmcaaGreat
open Go.RowKit

theorem isT_iff {n : Nat} {t : Int} : isT n t = true ↔ 0 ≤ t ∧ t ≤ (n : Int) := by simp [isT]
theorem allT_iff {n : Nat} {xs : List Int} : allT n xs = true ↔ ∀ i, i < xs.length → isT n (iAt xs i) = true := iAll
theorem allT_append {n : Nat} {xs ys : List Int} (h : allT n xs = true) (h2 : allT n ys = true) : allT n (xs ++ ys) = true := by simp only [allT, List.all_append, Bool.and_eq_true] at *; exact ⟨h, h2⟩
theorem allT_one {n : Nat} {t : Int} (h : isT n t = true) : allT n [t] = true := by simp [allT, h]
theorem allT_at {n : Nat} {xs : List Int} (h : allT n xs = true) {i : Nat} (hi : i < xs.length) : 0 ≤ iAt xs i ∧ iAt xs i ≤ (n : Int) := isT_iff.1 (allT_iff.1 h i hi)
theorem typesOk_decl {ds : List DeclL} (h : typesOk ds = true) {k : Nat} (hk : k < ds.length) : declOk ds k = true := by
  simp only [typesOk, Bool.and_eq_true] at h
  exact nAll.1 h.2 k hk
theorem typesOk_len {ds : List DeclL} (h : typesOk ds = true) : ds.length ≤ 4 := by
  simp only [typesOk, Bool.and_eq_true, decide_eq_true_eq] at h
  exact h.1
theorem declOk_arrow {ds : List DeclL} {k : Nat} (h : declOk ds k = true) (h0 : (dAt ds k).cons.length = 0) : isT ds.length (dAt ds k).from_ = true ∧ isT ds.length (dAt ds k).to_ = true := by
  unfold declOk at h
  rw [if_neg (by omega)] at h
  simp only [Bool.and_eq_true] at h
  exact ⟨h.1.1, h.1.2⟩
theorem conFieldsL_ok {ds : List DeclL} (h : typesOk ds = true) (c : Int) : (conFieldsL ds c).length ≤ 3 ∧ allT ds.length (conFieldsL ds c) = true := by
  unfold conFieldsL
  split
  · next i hi =>
    obtain ⟨h1, h2, _⟩ := firstIx_spec hi
    have hd := typesOk_decl h h1
    have h2 : (firstN ds i : Int) ≤ c ∧ c < (firstN ds (i + 1) : Int) := of_decide_eq_true h2
    have h3 : firstN ds (i + 1) = firstN ds i + (dAt ds i).cons.length := rfl
    have hc : c.toNat - firstN ds i < (dAt ds i).cons.length := by omega
    unfold declOk at hd
    rw [if_pos (by omega)] at hd
    simp only [Bool.and_eq_true] at hd
    have := cAll.1 hd.2 _ hc
    simp only [conOk, Bool.and_eq_true, decide_eq_true_eq] at this
    exact this
  · exact ⟨by simp, rfl⟩
theorem typeOr_range {n : Nat} {p : Nat → Bool} : typeOr (firstIx n p) = -1 ∨ isT n (typeOr (firstIx n p)) = true := by
  cases h : firstIx n p with
  | none => exact .inl rfl
  | some i =>
    obtain ⟨h1, _⟩ := firstIx_spec h
    refine .inr (isT_iff.2 ?_)
    show 0 ≤ (i : Int) + 1 ∧ (i : Int) + 1 ≤ n
    omega
theorem sigsOk_parts {ds : List DeclL} {sg : List SigL} (h : sigsOk ds sg = true) : typesOk ds = true ∧ 1 ≤ sg.length ∧ sg.length ≤ 4 ∧ ∀ i, i < sg.length → sigOk ds.length (sgAt sg i) = true := by
  simp only [sigsOk, Bool.and_eq_true, decide_eq_true_eq] at h
  exact ⟨h.1.1.1.1.1, h.1.1.1.1.2, h.1.1.1.2, fun i hi => nAll.1 h.2 i hi⟩
theorem sigOk_parts {n : Nat} {s : SigL} (h : sigOk n s = true) : s.params.length ≤ 3 ∧ allT n s.params = true ∧ isT n s.result = true ∧ lentOk s = true := by
  simp only [sigOk, Bool.and_eq_true, decide_eq_true_eq] at h
  exact ⟨h.1.1.1, h.1.1.2, h.1.2, h.2⟩
theorem isArr_parts {ds : List DeclL} {t : Int} (h : isArr ds t = true) : 1 ≤ t ∧ t ≤ (ds.length : Int) ∧ (dAt ds (t.toNat - 1)).cons.length = 0 := by
  simp only [isArr, Bool.and_eq_true, decide_eq_true_eq] at h
  exact ⟨h.1.1, h.1.2, h.2⟩

section
variable {ds : List DeclL} {sg : List SigL} (hok : sigsOk ds sg = true)
include hok
theorem simple_range (op num : Int) (tys : List Int) : simpleL ds sg op num tys = -1 ∨ isT ds.length (simpleL ds sg op num tys) = true := by
  obtain ⟨ht, _, _, hs⟩ := sigsOk_parts hok
  have z : isT ds.length 0 = true := isT_iff.2 ⟨by omega, by omega⟩
  unfold simpleL
  split
  · split
    · exact .inr z
    · exact .inl rfl
  split
  · split
    · exact .inr z
    · exact .inl rfl
  split
  · split
    · exact .inr z
    · exact .inl rfl
  split
  · split
    · next h =>
      obtain ⟨h1, h2, h3⟩ := isArr_parts h.2.2.1
      exact .inr (declOk_arrow (typesOk_decl ht (by omega)) h3).2
    · exact .inl rfl
  split
  · split
    · exact typeOr_range
    · exact .inl rfl
  split
  · split
    · next h => exact .inr (sigOk_parts (hs _ (by omega))).2.2.1
    · exact .inl rfl
  split
  · split
    · exact typeOr_range
    · exact .inl rfl
  · exact .inl rfl
omit hok in
theorem oneT_range {ts : List Int} (h : ∀ i, i < ts.length → iAt ts i = -1 ∨ isT ds.length (iAt ts i) = true) : oneT ts = -1 ∨ isT ds.length (oneT ts) = true := by
  cases ts with
  | nil => exact .inl rfl
  | cons t ts =>
    rw [oneT]
    split
    · have := h 0 (by simp)
      simpa [iAt] using this
    · exact .inl rfl
theorem tyE_range (N : Nat) : ∀ (e : ExprL), nE e < N → ∀ vars, allT ds.length vars = true → tyE ds sg vars e = -1 ∨ isT ds.length (tyE ds sg vars e) = true := by
  induction N with
  | zero => intro e h; omega
  | succ N ih =>
  intro e hN vars hv
  obtain ⟨op, num, ks⟩ := e
  have ht := (sigsOk_parts hok).1
  have hk : ∀ j, j < ks.length → nE (eAt ks j) < N := fun j hj => by have := nE_le ks hj; rw [nE] at hN; omega
  have arms : ∀ i, i < (armsL ds num).length → (cAt (armsL ds num) i).length ≤ 3 ∧ allT ds.length (cAt (armsL ds num) i) = true := fun i hi => by
    have hi' : i < (consL ds num).length := by simpa [armsL] using hi
    rw [cAt_get hi]
    simp only [armsL, List.getElem_map]
    exact conFieldsL_ok ht _
  rw [tyE]
  split
  · split
    · next h => exact .inr (allT_iff.1 hv _ (by omega))
    · exact .inl rfl
  split
  · split
    · next h =>
      rw [tyLet_at ds sg vars h.2]
      split
      · next h0 =>
        have h1 := ih _ (hk 0 (by omega)) vars hv
        have h2 : isT ds.length (tyE ds sg vars (eAt ks 0)) = true := by
          rcases h1 with h1 | h1
          · omega
          · exact h1
        exact ih _ (hk 1 (by omega)) _ (allT_append hv (allT_one h2))
      · exact .inl rfl
    · exact .inl rfl
  split
  · split
    · next h =>
      refine oneT_range (fun i hi => ?_)
      rw [tyTl_len] at hi
      rw [tyTl_at ds sg vars (by omega)]
      refine ih _ (hk _ (by omega)) _ (allT_append hv ?_)
      rcases (show i = 0 ∨ i = 1 by omega) with rfl | rfl <;> rfl
    · exact .inl rfl
  split
  · split
    · next h =>
      refine oneT_range (fun i hi => ?_)
      rw [tyTl_len] at hi
      rw [tyTl_at ds sg vars (by omega)]
      exact ih _ (hk _ (by omega)) _ (allT_append hv (arms i (by omega)).2)
    · exact .inl rfl
  · exact simple_range hok _ _ _
theorem ty_range (e : ExprL) {vars : List Int} (hv : allT ds.length vars = true) : tyE ds sg vars e = -1 ∨ isT ds.length (tyE ds sg vars e) = true := tyE_range hok _ e (Nat.lt_succ_self _) vars hv
theorem ty_ge (e : ExprL) {vars : List Int} (hv : allT ds.length vars = true) : -1 ≤ tyE ds sg vars e ∧ tyE ds sg vars e ≤ (ds.length : Int) := by
  rcases ty_range hok e hv with h | h
  · omega
  · have := isT_iff.1 h; omega
omit hok in
/-- All have one type, t, or none. -/
theorem oneT_same {ts : List Int} {t : Int} (h0 : 0 < ts.length) (h1 : -1 ≤ t) (h : ∀ i, i < ts.length → iAt ts i = t) : oneT ts = t := by
  by_cases ht : 0 ≤ t
  · rw [oneT_at h0 (by rw [h 0 h0]; exact ht) (fun i hi => by rw [h i hi, h 0 h0]), h 0 h0]
  · rw [oneT_neg h0 (.inr (by rw [h 0 h0]; omega))]; omega
end
end Go.Proofs.YtkapldpmjkdmcaaGreat
/- copyInts and extend of the reference: rows that grow. -/
namespace Go.Proofs.YtkapldpmjkdmcaaGreat
open Go.RowKit

theorem specCopyRow (A : Option Addr) (m c : Nat) (ys : List Int) (D : Nat → Prop) (w : World) (h : IntsL w D A m ys) (hm : m ≤ 2097152) :
    Calls Tryz.prog 102 #[.slice A m c] w fun e w' => ∃ v, e = .returned v ∧ w'.ownsRow w.heap.size 3 1 v m (ys.map (Value.int .i64)) ∧ Keep w w' := by
  refine calls_k fun Q hQ => ?_
  have HO := Lib.hid (ownEmpty w)
  have hK : Keep w (w.alloc (.cells #[] 3)) := (Ext.refl _ w).alloc _
  have h1 := h.ext hK (fun _ _ h => h)
  go_enter Tryz.func102, Tryz.ntmps102
  go_wp2_with (at_builtin; refine wpList_appInts _ rfl (.tmp 3) (.tmp 4) rfl w.heap.size (.slice (some ⟨w.heap.size, 0, none⟩) 0 0) 0 [] rfl HO.out A m c ys D rfl h1 (by omega) (by simp) ?_; intro v' w' ho hg)
  have hk : Keep w w' := hK.grown hg (fun g hg' => .inl (HO.out.lt g hg').1)
  obtain ⟨a2, cc, rfl, hle, hoi⟩ := own_of_row ho
  exact fin_ hQ ⟨_, rfl, by simpa using ho, hk⟩

theorem specExtend (A : Option Addr) (m c : Nat) (ys : List Int) (D : Nat → Prop) (B : Option Addr) (k d : Nat) (zs : List Int) (E : Nat → Prop) (w : World) (h : IntsL w D A m ys) (hm : m ≤ 2097152) (h2 : IntsL w E B k zs) (hk : k ≤ 2097152) :
    Calls Tryz.prog 149 #[.slice A m c, .slice B k d] w fun e w' => ∃ a' n' c', e = .returned (.slice a' n' c') ∧ n' ≤ c' ∧ OwnInts w' (fun q => w.heap.size ≤ q) a' n' (ys ++ zs) ∧ Keep w w' := by
  refine calls_k fun Q hQ => ?_
  have H2 := Lib.hid h2
  clear h2
  go_enter Tryz.func149, Tryz.ntmps149
  go_wp2_with fail
  refine (specCopyRow _ _ _ _ _ _ h hm).mono ?_
  rintro e w1 ⟨v, rfl, o1, p1⟩
  obtain ⟨a1, c1, rfl, hc1, _⟩ := own_of_row o1
  have O1 := Lib.hid o1
  have h3 := Lib.hid (H2.out.ext p1 (fun _ _ h => h))
  clear o1
  have hz := p1.size
  go_wp2_with (at_builtin; refine wpList_appInts _ rfl (.tmp 6) (.tmp 7) rfl w.heap.size (.slice a1 m c1) m ys rfl O1.out B k d zs E rfl h3.out (by omega) hz ?_; intro v' w' ho hg)
  obtain ⟨a2, cc, rfl, hle, hoi⟩ := own_of_row ho
  exact fin_ hQ ⟨a2, _, cc, rfl, hle, hoi, p1.grown hg (fun g hg' => .inl (O1.out.lt g hg').1)⟩
end Go.Proofs.YtkapldpmjkdmcaaGreat
/- The reference's types of expressions: matches. -/
namespace Go.Proofs.YtkapldpmjkdmcaaGreat
open Go.RowKit

theorem Ext.refl0 (w : World) : Keep w.drew w.drew := Ext.refl _ _
theorem Rd.kd {w : World} {D : Nat → Prop} {d : Dat} {v : Value} (h : Rd w D d v) : Rd w.drew D d v := h.k (Ext.refl (fun _ => False) w).drew
theorem PR.kd {w : World} {ds : List DeclL} {fs : List FuncL} {a0 : Option Addr} {n0 c0 : Nat} {a1 : Option Addr} {n1 c1 : Nat} (h : PR w ds fs a0 n0 c0 a1 n1 c1) : PR w.drew ds fs a0 n0 c0 a1 n1 c1 := h.k (Ext.refl (fun _ => False) w).drew
theorem Keep.dt {w w' : World} (h : Keep w.drew w') : Keep w w' := (Ext.refl _ w).drew.trans h
def matchL (ds : List DeclL) (sg : List SigL) (vars : List Int) (num : Int) (es : List ExprL) : Int :=
  if 0 < (armsL ds num).length ∧ es.length = 1 + (armsL ds num).length ∧ tyHd ds sg vars es = num then oneT (tyTl ds sg vars es (armsL ds num)) else -1
theorem armsL_len (ds : List DeclL) (t : Int) : (armsL ds t).length = (consL ds t).length := by simp [armsL]
theorem armsL_at {ds : List DeclL} {t : Int} {i : Nat} (h : i < (consL ds t).length) : cAt (armsL ds t) i = conFieldsL ds (iAt (consL ds t) i) := by
  rw [cAt_get (by rw [armsL_len]; exact h), iAt_eq h]; simp [armsL]
theorem consL_len {ds : List DeclL} (hf : Few ds) (t : Int) : (consL ds t).length ≤ 3 := by
  unfold consL
  split
  · next h => rw [List.length_map, List.length_range]; exact hf.2 _ (by omega)
  · simp

section
variable (ds : List DeclL) (fs : List FuncL)

set_option maxRecDepth 100000 in
set_option maxHeartbeats 8000000 in
theorem specMatchType (num : Int) (es : List ExprL) (IH0 : ∀ j, j < es.length → TyS ds fs (eAt es j)) (a0 : Option Addr) (n0 c0 : Nat) (a1 : Option Addr) (n1 c1 : Nat) (av : Option Addr) (nv cv : Nat) (vars : List Int) (a : Option Addr) (n c : Nat) (w : World)
    (hp : PR w ds fs a0 n0 c0 a1 n1 c1) (hv : Rd w (fun _ => True) (encInts vars) (.slice av nv cv)) (h : Rd w (fun _ => True) (encExprs es) (.slice a n c)) (hlen : vars.length + 4 * (nEs es + 1) ≤ 1049576) (hall : allT ds.length vars = true) (hok : sigsOk ds (fs.map sigF) = true) :
    Calls Tryz.prog 150 #[.agg #[.slice a0 n0 c0, .slice a1 n1 c1], .slice av nv cv, .agg #[.int .i64 8, .int .i64 num, .slice a n c]] w fun r w' => r = .returned (.int .i64 (matchL ds (fs.map sigF) vars num es)) ∧ Keep w w' := by
  refine calls_k fun Q hQ => ?_
  have ht := (sigsOk_parts hok).1
  have hf := Few.of_ok ht
  have K0 := (Keep.al w (.cells #[.slice a0 n0 c0, .slice a1 n1 c1] 44)).trans (Keep.al _ (.cells #[.int .i64 8, .int .i64 num, .slice a n c] 58))
  have R0 := (rowOf w #[.slice a0 n0 c0, .slice a1 n1 c1] 44).alloc (.cells #[.int .i64 8, .int .i64 num, .slice a n c] 58)
  have R1 := rowOf (w.alloc (.cells #[.slice a0 n0 c0, .slice a1 n1 c1] 44)) #[.int .i64 8, .int .i64 num, .slice a n c] 58
  simp only [World.size_alloc] at R1
  obtain ⟨e1, hnc, hnm, hat⟩ := exprs_at h
  have HL := Lib.hid e1
  have HA := Lib.hid hat
  have hn30 : n ≤ 262394 := by have := nEs_len es; omega
  have hnv : nv ≤ 1049576 := by have := (ints_at hv).1; omega
  have HOK := Lib.hid hok
  have HAll := Lib.hid hall
  have HLen := Lib.hid hlen
  have HF := Lib.hid hf
  have HT := Lib.hid ht
  have IH := Lib.hid IH0
  have hcl := consL_len hf num
  have HAL := Lib.hid (armsL_len ds num)
  clear e1 hat hok hall ht IH0
  rcases Nat.eq_zero_or_pos (consL ds num).length with hm0 | hm0
  · have V : Hid (matchL ds (fs.map sigF) vars num es = -1) := by show _ = _; rw [matchL, if_neg (by rw [HAL.out]; omega)]
    go_enter Tryz.func150, Tryz.ntmps150
    go_wp2_with fail
    refine (specConsOf0 _ _ _ ds _ _ _ (Rd.toDecls (hp.k K0).1) hf).mono ?_
    rintro e w1 ⟨ac, m, cc, rfl, hmc, oc, p1⟩
    have OC := Lib.hid oc
    have hml : m = (consL ds num).length := oc.1.symm
    have HM := Lib.hid hml
    have hm3 : m ≤ 3 := by omega
    have K1 := Lib.hid (K0.trans p1)
    have R0' := Lib.hid (row_ext R0 p1 (fun h => h))
    have R1' := Lib.hid (row_ext R1 p1 (fun h => h))
    have x0 := R0'.out.cell (i := 0) (by simp)
    have x1 := R0'.out.cell (i := 1) (by simp)
    have y0 := R1'.out.cell (i := 0) (by simp)
    have y1 := R1'.out.cell (i := 1) (by simp)
    have y2 := R1'.out.cell (i := 2) (by simp)
    simp at x0 x1 y0 y1 y2
    have qp := hp.k K1.out
    have qv := hv.k K1.out
    have qe := h.k K1.out
    clear oc hml p1 R0 R1 K0 hp hv h hcl hlen
    have hmz : m = 0 := by have := HM.out; omega
    subst hmz
    go_wp2_with fail
    go_quiet (fail)
    go_wp2_with fail
    exact fin_ hQ ⟨ret_i V.out.symm, by first | exact K1.out.drew | exact K1.out.drewN _⟩
  by_cases hn : n = 1 + (consL ds num).length
  case neg =>
    have V : Hid (matchL ds (fs.map sigF) vars num es = -1) := by show _ = _; rw [matchL, if_neg (by rw [HAL.out]; have := HL.out; omega)]
    go_enter Tryz.func150, Tryz.ntmps150
    go_wp2_with fail
    refine (specConsOf0 _ _ _ ds _ _ _ (Rd.toDecls (hp.k K0).1) hf).mono ?_
    rintro e w1 ⟨ac, m, cc, rfl, hmc, oc, p1⟩
    have OC := Lib.hid oc
    have hml : m = (consL ds num).length := oc.1.symm
    have HM := Lib.hid hml
    have hm3 : m ≤ 3 := by omega
    have K1 := Lib.hid (K0.trans p1)
    have R0' := Lib.hid (row_ext R0 p1 (fun h => h))
    have R1' := Lib.hid (row_ext R1 p1 (fun h => h))
    have x0 := R0'.out.cell (i := 0) (by simp)
    have x1 := R0'.out.cell (i := 1) (by simp)
    have y0 := R1'.out.cell (i := 0) (by simp)
    have y1 := R1'.out.cell (i := 1) (by simp)
    have y2 := R1'.out.cell (i := 2) (by simp)
    simp at x0 x1 y0 y1 y2
    have qp := hp.k K1.out
    have qv := hv.k K1.out
    have qe := h.k K1.out
    clear oc hml p1 R0 R1 K0 hp hv h hcl hlen
    have hmz : ((m : Int) == 0) = false := by have := HM.out; simp; omega
    have hmz2 : ((n : Int) != 1 + (m : Int)) = true := by have := HM.out; simp; omega
    have hmw : IntKind.i64.wrap (1 + (m : Int)) = 1 + (m : Int) := by rw [IntWalk.i64_in _ (by omega)]
    go_wp2_with fail
    go_quiet (fail)
    go_wp2_with fail
    exact fin_ hQ ⟨ret_i V.out.symm, by first | exact K1.out.drew | exact K1.out.drewN _⟩
  have hnA : n ≤ 1 + (consL ds num).length := by omega
  have hnB : 1 + (consL ds num).length ≤ n := by omega
  clear hn
  obtain ⟨b, o, rfl, _, ak, nk, ck, dk0, dk1, dk2, rk⟩ := HA.out 0 (by omega)
  rw [Nat.zero_mul, Nat.add_zero] at dk0 dk1 dk2
  have HE0 : Hid (0 < es.length) := by have := HL.out; show _ < _; omega
  have hb0 : vars.length + 4 * nE (eAt es 0) ≤ 1049576 := by have := nE_le es HE0.out; omega
  have HZ := Lib.hid (tyHd_at ds (fs.map sigF) vars HE0.out)
  generalize hz : tyE ds (fs.map sigF) vars (eAt es 0) = z at HZ
  have HZ2 := Lib.hid hz
  clear hz
  by_cases hzn : z = num
  case neg =>
    have V : Hid (matchL ds (fs.map sigF) vars num es = -1) := by show _ = _; rw [matchL, if_neg (by rw [HZ.out]; exact fun h => hzn h.2.2)]
    have hzn' : (z != num) = true := by simpa using hzn
    clear hzn
    go_enter Tryz.func150, Tryz.ntmps150
    go_wp2_with fail
    refine (specConsOf0 _ _ _ ds _ _ _ (Rd.toDecls (hp.k K0).1) hf).mono ?_
    rintro e w1 ⟨ac, m, cc, rfl, hmc, oc, p1⟩
    have OC := Lib.hid oc
    have hml : m = (consL ds num).length := oc.1.symm
    have HM := Lib.hid hml
    have hm3 : m ≤ 3 := by omega
    have K1 := Lib.hid (K0.trans p1)
    have R0' := Lib.hid (row_ext R0 p1 (fun h => h))
    have R1' := Lib.hid (row_ext R1 p1 (fun h => h))
    have x0 := R0'.out.cell (i := 0) (by simp)
    have x1 := R0'.out.cell (i := 1) (by simp)
    have y0 := R1'.out.cell (i := 0) (by simp)
    have y1 := R1'.out.cell (i := 1) (by simp)
    have y2 := R1'.out.cell (i := 2) (by simp)
    simp at x0 x1 y0 y1 y2
    have qp := hp.k K1.out
    have qv := hv.k K1.out
    have qe := h.k K1.out
    clear oc hml p1 R0 R1 K0 hp hv h hcl hlen
    have k0 := (K1.out.cell (World.block_lt_of_cell? w _ dk0) (fun h => h)).trans dk0
    have k1 := (K1.out.cell (World.block_lt_of_cell? w _ dk1) (fun h => h)).trans dk1
    have k2 := (K1.out.cell (World.block_lt_of_cell? w _ dk2) (fun h => h)).trans dk2
    have qk := (rk.k K1.out).kd
    have qpd := qp.kd
    have qvd := qv.kd
    have hmz : ((m : Int) == 0) = false := by have := HM.out; simp; omega
    have hmz2 : ((n : Int) != 1 + (m : Int)) = false := by have := HM.out; simp; omega
    have hmw : IntKind.i64.wrap (1 + (m : Int)) = 1 + (m : Int) := by rw [IntWalk.i64_in _ (by omega)]
    have hn0 : (0 : Int) < (n : Int) := by omega
    have hn0' : 0 < n := by omega
    have pc := Ext.refl0 w1
    go_wp2_with fail
    go_region_held3 (fun w' => w'.cell? ⟨w.heap.size, 0, none⟩ = some (.slice a0 n0 c0) ∧ w'.cell? ⟨w.heap.size, 1, none⟩ = some (.slice a1 n1 c1) ∧ w'.cell? ⟨w.heap.size + 1, 1, none⟩ = some (.int .i64 num) ∧ w'.cell? ⟨w.heap.size + 1, 2, none⟩ = some (.slice (some ⟨b, o, none⟩) n c) ∧ w'.cell? ⟨b, o, none⟩ = some (.int .i64 (eAt es 0).op) ∧ w'.cell? ⟨b, o + 1, none⟩ = some (.int .i64 (eAt es 0).num) ∧ w'.cell? ⟨b, o + 2, none⟩ = some (.slice ak nk ck))
      (first | exact ⟨Keep.at pc x0, Keep.at pc x1, Keep.at pc y1, Keep.at pc y2, Keep.at pc k0, Keep.at pc k1, Keep.at pc k2⟩ | go_keep)
      (first
        | (go_at_call 99; refine (IH.out 0 HE0.out _ _ _ _ _ _ _ _ _ _ _ _ _ _ (qpd.k pc) (qvd.k pc) (qk.k pc) hb0 HAll.out).mono ?_; rw [HZ2.out]; rintro e w2 ⟨rfl, p2⟩; replace pc := pc.trans p2))
    have KE := Lib.hid (K1.out.trans (Keep.dt pc))
    go_wp2_with fail
    exact fin_ hQ ⟨ret_i V.out.symm, KE.out⟩
  subst hzn
  have HTL : ∀ i, i < (consL ds z).length → iAt (tyTl ds (fs.map sigF) vars es (armsL ds z)) i = tyE ds (fs.map sigF) (vars ++ conFieldsL ds (iAt (consL ds z) i)) (eAt es (i + 1)) := fun i hi => by
    rw [tyTl_at ds (fs.map sigF) vars (by have := HL.out; omega), armsL_at hi]
  have HTL := Lib.hid HTL
  have HTLL : Hid ((tyTl ds (fs.map sigF) vars es (armsL ds z)).length = (consL ds z).length) := by show _ = _; rw [tyTl_len]; have := HL.out; omega
  have V0 : Hid (matchL ds (fs.map sigF) vars z es = oneT (tyTl ds (fs.map sigF) vars es (armsL ds z))) := by show _ = _; rw [matchL, if_pos ⟨by rw [HAL.out]; exact hm0, by rw [HAL.out]; have := HL.out; omega, HZ.out⟩]
  have hzz : (z != z) = false := by simp
  have GE : ∀ i, i < (consL ds z).length → -1 ≤ iAt (tyTl ds (fs.map sigF) vars es (armsL ds z)) i := fun i hi => by
    rw [HTL.out i hi]; exact (ty_ge HOK.out _ (allT_append HAll.out (conFieldsL_ok HT.out _).2)).1
  have GE := Lib.hid GE
  go_enter Tryz.func150, Tryz.ntmps150
  go_wp2_with fail
  refine (specConsOf0 _ _ _ ds _ _ _ (Rd.toDecls (hp.k K0).1) hf).mono ?_
  rintro e w1 ⟨ac, m, cc, rfl, hmc, oc, p1⟩
  have OC := Lib.hid oc
  have hml : m = (consL ds z).length := oc.1.symm
  have HM := Lib.hid hml
  have hm3 : m ≤ 3 := by omega
  have K1 := Lib.hid (K0.trans p1)
  have R0' := Lib.hid (row_ext R0 p1 (fun h => h))
  have R1' := Lib.hid (row_ext R1 p1 (fun h => h))
  have x0 := R0'.out.cell (i := 0) (by simp)
  have x1 := R0'.out.cell (i := 1) (by simp)
  have y0 := R1'.out.cell (i := 0) (by simp)
  have y1 := R1'.out.cell (i := 1) (by simp)
  have y2 := R1'.out.cell (i := 2) (by simp)
  simp at x0 x1 y0 y1 y2
  have qp := hp.k K1.out
  have qv := hv.k K1.out
  have qe := h.k K1.out
  clear oc hml p1 R0 R1 K0 hp hv h hcl hlen
  have k0 := (K1.out.cell (World.block_lt_of_cell? w _ dk0) (fun h => h)).trans dk0
  have k1 := (K1.out.cell (World.block_lt_of_cell? w _ dk1) (fun h => h)).trans dk1
  have k2 := (K1.out.cell (World.block_lt_of_cell? w _ dk2) (fun h => h)).trans dk2
  have qk := (rk.k K1.out).kd
  have qpd := qp.kd
  have qvd := qv.kd
  have hmz : ((m : Int) == 0) = false := by have := HM.out; simp; omega
  have hmz2 : ((n : Int) != 1 + (m : Int)) = false := by have := HM.out; simp; omega
  have hmw : IntKind.i64.wrap (1 + (m : Int)) = 1 + (m : Int) := by rw [IntWalk.i64_in _ (by omega)]
  have hn0 : (0 : Int) < (n : Int) := by omega
  have hn0' : 0 < n := by omega
  have pc := Ext.refl0 w1
  go_wp2_with fail
  go_region_held3 (fun w' => w'.cell? ⟨w.heap.size, 0, none⟩ = some (.slice a0 n0 c0) ∧ w'.cell? ⟨w.heap.size, 1, none⟩ = some (.slice a1 n1 c1) ∧ w'.cell? ⟨w.heap.size + 1, 1, none⟩ = some (.int .i64 z) ∧ w'.cell? ⟨w.heap.size + 1, 2, none⟩ = some (.slice (some ⟨b, o, none⟩) n c) ∧ w'.cell? ⟨b, o, none⟩ = some (.int .i64 (eAt es 0).op) ∧ w'.cell? ⟨b, o + 1, none⟩ = some (.int .i64 (eAt es 0).num) ∧ w'.cell? ⟨b, o + 2, none⟩ = some (.slice ak nk ck))
    (first | exact ⟨Keep.at pc x0, Keep.at pc x1, Keep.at pc y1, Keep.at pc y2, Keep.at pc k0, Keep.at pc k1, Keep.at pc k2⟩ | go_keep)
    (first
      | (go_at_call 99; refine (IH.out 0 HE0.out _ _ _ _ _ _ _ _ _ _ _ _ _ _ (qpd.k pc) (qvd.k pc) (qk.k pc) hb0 HAll.out).mono ?_; rw [HZ2.out]; rintro e w2 ⟨rfl, p2⟩; replace pc := pc.trans p2))
  have KE := Lib.hid (K1.out.trans (Keep.dt pc))
  have PC := Lib.hid (Keep.dt pc)
  clear qk qpd qvd k0 k1 k2 x0 x1 y0 y1 y2 hmw hn0 hn0' hmz hmz2 pc
  have x0 := (row_ext R0'.out PC.out (fun h => h)).cell (i := 0) (by simp)
  have x1 := (row_ext R0'.out PC.out (fun h => h)).cell (i := 1) (by simp)
  have y2 := (row_ext R1'.out PC.out (fun h => h)).cell (i := 2) (by simp)
  simp at x0 x1 y2
  obtain ⟨bc, oc, rfl, dc⟩ : ∃ bc oc, ac = some ⟨bc, oc, none⟩ ∧ ∀ i, i < m → w2.cell? ⟨bc, oc + i, none⟩ = some (.int .i64 (iAt (consL ds z) i)) := by
    obtain ⟨bc, oc, e, _, hc⟩ := (OC.out.read).2 (by have := HM.out; omega)
    exact ⟨bc, oc, e, fun i hi => (PC.out.cell (World.block_lt_of_cell? _ _ (hc i hi)) (fun h => h)).trans (hc i hi)⟩
  have DC := Lib.hid dc
  clear dc
  obtain ⟨b', o', e', _, ak, nk, ck, dk0, dk1, dk2, rk⟩ := HA.out 1 (by omega)
  injection e' with e'
  injection e' with e' e''
  subst e' e''
  rw [Nat.one_mul] at dk0 dk1 dk2
  have k0 := (KE.out.cell (World.block_lt_of_cell? w _ dk0) (fun h => h)).trans dk0
  have k1 := (KE.out.cell (World.block_lt_of_cell? w _ dk1) (fun h => h)).trans dk1
  have k2 := (KE.out.cell (World.block_lt_of_cell? w _ dk2) (fun h => h)).trans dk2
  have qk := (rk.k KE.out).kd
  have qpd := (qp.k PC.out).kd
  have qvd := (qv.k PC.out).kd
  have cq0 := DC.out 0 (by have := HM.out; omega)
  rw [Nat.add_zero] at cq0
  have hm0'' : 0 < m := by have := HM.out; omega
  have hm0' : (0 : Int) < (m : Int) := by omega
  have hn1 : (1 : Int) < (n : Int) := by omega
  have hn1' : 1 < n := by omega
  have HE1 : Hid (1 < es.length) := by have := HL.out; show _ < _; omega
  have hb1 : vars.length + 4 * nE (eAt es 1) + 4 ≤ 1049576 := by have := nE_le es HE1.out; have := HLen.out; omega
  have HFO := Lib.hid (conFieldsL_ok HT.out (iAt (consL ds z) 0))
  have hfo : (conFieldsL ds (iAt (consL ds z) 0)).length ≤ 3 := HFO.out.1
  have HY0 := Lib.hid (HTL.out 0 (by omega))
  generalize hy : tyE ds (fs.map sigF) (vars ++ conFieldsL ds (iAt (consL ds z) 0)) (eAt es (0 + 1)) = y at HY0
  have HY : Hid (tyE ds (fs.map sigF) (vars ++ conFieldsL ds (iAt (consL ds z) 0)) (eAt es 1) = y) := hy
  clear hy dk0 dk1 dk2 rk
  have pc := Ext.refl0 w2
  go_wp2_with fail
  go_region_held3 (fun w' => w'.cell? ⟨w.heap.size, 0, none⟩ = some (.slice a0 n0 c0) ∧ w'.cell? ⟨w.heap.size, 1, none⟩ = some (.slice a1 n1 c1) ∧ w'.cell? ⟨w.heap.size + 1, 2, none⟩ = some (.slice (some ⟨b, o, none⟩) n c) ∧ w'.cell? ⟨bc, oc, none⟩ = some (.int .i64 (iAt (consL ds z) 0)) ∧ w'.cell? ⟨b, o + 3, none⟩ = some (.int .i64 (eAt es 1).op) ∧ w'.cell? ⟨b, o + 3 + 1, none⟩ = some (.int .i64 (eAt es 1).num) ∧ w'.cell? ⟨b, o + 3 + 2, none⟩ = some (.slice ak nk ck))
    (first | exact ⟨Keep.at pc x0, Keep.at pc x1, Keep.at pc y2, Keep.at pc cq0, Keep.at pc k0, Keep.at pc k1, Keep.at pc k2⟩ | go_keep)
    (first
      | (go_at_call 148; refine (specConFields0 _ _ _ ds _ _ _ (Rd.toDecls (qpd.k pc).1) HF.out).mono ?_; rintro e wa ⟨fa, fm, fc, rfl, hfc, fi, pa⟩; replace pc := pc.trans pa)
      | (go_at_call 149; refine (specExtend _ _ _ vars _ _ _ _ _ _ _ (Rd.toInts (qvd.k pc)) (by omega) fi (by have := fi.1; omega)).mono ?_; rintro e wb ⟨xa, xn, xc, rfl, hxc, ox, pb⟩; replace pc := pc.trans pb)
      | (go_at_call 99; refine (IH.out 1 HE1.out _ _ _ _ _ _ _ _ _ _ _ _ _ _ (qpd.k pc) ((ox.read.toRd hxc (by have := ox.1; simp at this; omega)).t) (qk.k pc) (by rw [List.length_append]; omega) (allT_append HAll.out HFO.out.2)).mono ?_; rw [HY.out]; rintro e w3 ⟨rfl, p3⟩; replace pc := pc.trans p3))
  have KE3 := Lib.hid (KE.out.trans (Keep.dt pc))
  have PC3 := Lib.hid (PC.out.trans (Keep.dt pc))
  clear qk qpd qvd k0 k1 k2 x0 x1 y2 hn1 hn1' cq0 pc
  go_wp2_with fail
  go_loopw [9] (fun iv wr => ∃ j : Nat, 1 ≤ j ∧ j ≤ m ∧ iv = .int .i64 j ∧ Hid (∀ l, l < j → iAt (tyTl ds (fs.map sigF) vars es (armsL ds z)) l = y) ∧ Hid (Keep w1 wr)) (fun iv _ => m - (intOf iv).toNat)
  case atStart =>
    refine ⟨1, Nat.le_refl _, by omega, rfl, fun l hl => ?_, PC3.out⟩
    have hl0 : l = 0 := by omega
    rw [hl0]; exact HY0.out
  case round =>
    obtain ⟨j, hj1, hjm, rfl, hI, hK⟩ := hrel
    by_cases hlt : j < m
    · have KW := Lib.hid (K1.out.trans hK.out)
      have x0 := (row_ext R0'.out hK.out (fun h => h)).cell (i := 0) (by simp)
      have x1 := (row_ext R0'.out hK.out (fun h => h)).cell (i := 1) (by simp)
      have y2 := (row_ext R1'.out hK.out (fun h => h)).cell (i := 2) (by simp)
      simp at x0 x1 y2
      obtain ⟨bq, oq, e', hd', hcq⟩ := (OC.out.read).2 (by have := HM.out; omega)
      injection e' with e'
      injection e' with e' e''
      subst e' e''
      have dj := hcq j hlt
      have cq0 := (hK.out.cell (World.block_lt_of_cell? _ _ dj) (fun h => h)).trans dj
      obtain ⟨b', o', e', _, ak, nk, ck, dk0, dk1, dk2, rk⟩ := HA.out (1 + j) (by have := HM.out; omega)
      injection e' with e'
      injection e' with e' e''
      subst e' e''
      have k0 := (KW.out.cell (World.block_lt_of_cell? w _ dk0) (fun h => h)).trans dk0
      have k1 := (KW.out.cell (World.block_lt_of_cell? w _ dk1) (fun h => h)).trans dk1
      have k2 := (KW.out.cell (World.block_lt_of_cell? w _ dk2) (fun h => h)).trans dk2
      have qk := (rk.k KW.out).kd
      have qpd := (qp.k hK.out).kd
      have qvd := (qv.k hK.out).kd
      have HEJ : Hid (1 + j < es.length) := by have := HL.out; have := HM.out; show _ < _; omega
      have hb1 : vars.length + 4 * nE (eAt es (1 + j)) + 4 ≤ 1049576 := by have := nE_le es HEJ.out; have := HLen.out; omega
      have HFO := Lib.hid (conFieldsL_ok HT.out (iAt (consL ds z) j))
      have hfo : (conFieldsL ds (iAt (consL ds z) j)).length ≤ 3 := HFO.out.1
      have HYJ := HTL.out j (by have := HM.out; omega)
      rw [show j + 1 = 1 + j by omega] at HYJ
      generalize hyj : tyE ds (fs.map sigF) (vars ++ conFieldsL ds (iAt (consL ds z) j)) (eAt es (1 + j)) = yj at HYJ
      have HY2 := Lib.hid hyj
      have HYJ2 := Lib.hid HYJ
      have hw1 : IntKind.i64.wrap (1 + (j : Int)) = 1 + (j : Int) := by rw [IntWalk.i64_in _ (by omega)]
      have hw2 : (0 : Int) ≤ 1 + (j : Int) := by omega
      have hw3 : 1 + (j : Int) < (n : Int) := by have := HM.out; omega
      have hw4 : (1 + (j : Int)).toNat = 1 + j := by omega
      have hj0 : (0 : Int) ≤ (j : Int) := by omega
      have hjm' : (j : Int) < (m : Int) := by omega
      clear hyj HYJ dk0 dk1 dk2 rk dj hcq
      by_cases hyy : yj = y
      · have hyy' : (yj != y) = false := by simpa using hyy
        have HYY := Lib.hid hyy
        clear hyy
        have pc := Ext.refl0 wr
        go_wp2_with fail
        go_region_held3 (fun w' => w'.cell? ⟨w.heap.size, 0, none⟩ = some (.slice a0 n0 c0) ∧ w'.cell? ⟨w.heap.size, 1, none⟩ = some (.slice a1 n1 c1) ∧ w'.cell? ⟨w.heap.size + 1, 2, none⟩ = some (.slice (some ⟨b, o, none⟩) n c) ∧ w'.cell? ⟨bc, oc + j, none⟩ = some (.int .i64 (iAt (consL ds z) j)) ∧ w'.cell? ⟨b, o + (1 + j) * 3, none⟩ = some (.int .i64 (eAt es (1 + j)).op) ∧ w'.cell? ⟨b, o + (1 + j) * 3 + 1, none⟩ = some (.int .i64 (eAt es (1 + j)).num) ∧ w'.cell? ⟨b, o + (1 + j) * 3 + 2, none⟩ = some (.slice ak nk ck))
          (first | exact ⟨Keep.at pc x0, Keep.at pc x1, Keep.at pc y2, Keep.at pc cq0, Keep.at pc k0, Keep.at pc k1, Keep.at pc k2⟩ | go_keep)
          (first
            | (go_at_call 148; refine (specConFields0 _ _ _ ds _ _ _ (Rd.toDecls (qpd.k pc).1) HF.out).mono ?_; rintro e wa ⟨fa, fm, fc, rfl, hfc, fi, pa⟩; replace pc := pc.trans pa)
            | (go_at_call 149; refine (specExtend _ _ _ vars _ _ _ _ _ _ _ (Rd.toInts (qvd.k pc)) (by omega) fi (by have := fi.1; omega)).mono ?_; rintro e wb ⟨xa, xn, xc, rfl, hxc, ox, pb⟩; replace pc := pc.trans pb)
            | (go_at_call 99; refine (IH.out (1 + j) HEJ.out _ _ _ _ _ _ _ _ _ _ _ _ _ _ (qpd.k pc) ((ox.read.toRd hxc (by have := ox.1; simp at this; omega)).t) (qk.k pc) (by rw [List.length_append]; omega) (allT_append HAll.out HFO.out.2)).mono ?_; rw [HY2.out]; rintro e w4 ⟨rfl, p4⟩; replace pc := pc.trans p4))
        have hI2 : Hid (∀ l, l < j + 1 → iAt (tyTl ds (fs.map sigF) vars es (armsL ds z)) l = y) := by
          intro l hl
          rcases Nat.lt_succ_iff_lt_or_eq.1 hl with h | rfl
          · exact hI.out l h
          · rw [HYJ2.out, HYY.out]
        have hK2 := Lib.hid (hK.out.trans (Keep.dt pc))
        clear qk qpd qvd k0 k1 k2 x0 x1 y2 cq0 pc hw1 hw2 hw3 hw4 hI hK KW
        go_wp2_with fail
        go_roundw
        case rel => exact ⟨j + 1, by omega, by omega, by go_num, hI2, hK2⟩
        case measure => simp [intOf]; omega
      · have hyy' : (yj != y) = true := by simpa using hyy
        have V : Hid (matchL ds (fs.map sigF) vars z es = -1) := by
          show _ = _
          rw [V0.out, oneT_neg (i := j) (by rw [HTLL.out]; have := HM.out; omega) (.inl (by rw [HYJ2.out, hI.out 0 (by omega)]; exact hyy))]
        clear hyy
        have pc := Ext.refl0 wr
        go_wp2_with fail
        go_region_held3 (fun w' => w'.cell? ⟨w.heap.size, 0, none⟩ = some (.slice a0 n0 c0) ∧ w'.cell? ⟨w.heap.size, 1, none⟩ = some (.slice a1 n1 c1) ∧ w'.cell? ⟨w.heap.size + 1, 2, none⟩ = some (.slice (some ⟨b, o, none⟩) n c) ∧ w'.cell? ⟨bc, oc + j, none⟩ = some (.int .i64 (iAt (consL ds z) j)) ∧ w'.cell? ⟨b, o + (1 + j) * 3, none⟩ = some (.int .i64 (eAt es (1 + j)).op) ∧ w'.cell? ⟨b, o + (1 + j) * 3 + 1, none⟩ = some (.int .i64 (eAt es (1 + j)).num) ∧ w'.cell? ⟨b, o + (1 + j) * 3 + 2, none⟩ = some (.slice ak nk ck))
          (first | exact ⟨Keep.at pc x0, Keep.at pc x1, Keep.at pc y2, Keep.at pc cq0, Keep.at pc k0, Keep.at pc k1, Keep.at pc k2⟩ | go_keep)
          (first
            | (go_at_call 148; refine (specConFields0 _ _ _ ds _ _ _ (Rd.toDecls (qpd.k pc).1) HF.out).mono ?_; rintro e wa ⟨fa, fm, fc, rfl, hfc, fi, pa⟩; replace pc := pc.trans pa)
            | (go_at_call 149; refine (specExtend _ _ _ vars _ _ _ _ _ _ _ (Rd.toInts (qvd.k pc)) (by omega) fi (by have := fi.1; omega)).mono ?_; rintro e wb ⟨xa, xn, xc, rfl, hxc, ox, pb⟩; replace pc := pc.trans pb)
            | (go_at_call 99; refine (IH.out (1 + j) HEJ.out _ _ _ _ _ _ _ _ _ _ _ _ _ _ (qpd.k pc) ((ox.read.toRd hxc (by have := ox.1; simp at this; omega)).t) (qk.k pc) (by rw [List.length_append]; omega) (allT_append HAll.out HFO.out.2)).mono ?_; rw [HY2.out]; rintro e w4 ⟨rfl, p4⟩; replace pc := pc.trans p4))
        have hK2 := Lib.hid (KW.out.trans (Keep.dt pc))
        clear qk qpd qvd k0 k1 k2 x0 x1 y2 cq0 pc hw1 hw2 hw3 hw4 hI hK
        go_wp2_with fail
        exact fin_ hQ ⟨ret_i V.out.symm, hK2.out⟩
    · have V : Hid (matchL ds (fs.map sigF) vars z es = y) := by
        show _ = _
        rw [V0.out]
        refine oneT_same (by rw [HTLL.out]; exact hm0) ?_ (fun i hi => hI.out i (by rw [HTLL.out] at hi; have := HM.out; omega))
        have := GE.out 0 hm0
        rw [hI.out 0 (by omega)] at this
        exact this
      go_wp2_with fail
      exact fin_ hQ ⟨ret_i V.out.symm, K1.out.trans hK.out⟩
end
end Go.Proofs.YtkapldpmjkdmcaaGreat
/- The nodes of an expression, counted by the reference and by the program. -/
namespace Go.Proofs.YtkapldpmjkdmcaaGreat
open Go.RowKit

/-- What is left of left, behind s; -1 if it is not enough. -/
def lft (s : Nat) (left : Int) : Int := if (s : Int) ≤ left then left - (s : Int) else -1
theorem lft_yes {s : Nat} {left : Int} (h : (s : Int) ≤ left) : lft s left = left - (s : Int) := if_pos h
theorem lft_no {s : Nat} {left : Int} (h : left < (s : Int)) : lft s left = -1 := if_neg (by omega)

set_option maxHeartbeats 1000000 in
theorem specNodesLeft_n (N : Nat) : ∀ (op num : Int) (es : List ExprL), nEs es < N → ∀ (a : Option Addr) (n c : Nat) (D : Nat → Prop) (left : Int) (w : World), Rd w D (encExprs es) (.slice a n c) → 0 ≤ left → left ≤ 1048576 →
    Calls Tryz.prog 144 #[.agg #[.int .i64 op, .int .i64 num, .slice a n c], .int .i64 left] w fun e w' => e = .returned (.int .i64 (lft (nEs es + 1) left)) ∧ Keep w w' := by
  induction N with
  | zero => intro _ _ es h; omega
  | succ N ihN =>
  intro op num es hN a n c D left w h h0 h1
  refine calls_k fun Q hQ => ?_
  obtain ⟨e1, hnc, hm, hat⟩ := exprs_at h
  have HL := Lib.hid e1
  have HA := Lib.hid hat
  have IH := Lib.hid (fun (j : Nat) (hj : j < es.length) => ihN (eAt es j).op (eAt es j).num (eAt es j).kids (by have := nE_le es hj; have := nE_eq (eAt es j); omega))
  clear e1 hat ihN hN
  have K0 := Keep.al w (.cells #[.int .i64 op, .int .i64 num, .slice a n c] 58)
  by_cases hl : left < 1
  · have V := Lib.hid (lft_no (s := nEs es + 1) (left := left) (by omega))
    go_enter Tryz.func144, Tryz.ntmps144
    go_wp2
    exact fin_ hQ ⟨ret_i V.out.symm, K0⟩
  go_enter Tryz.func144, Tryz.ntmps144
  go_wp2
  go_loopw [1, 5] (fun lv iv wr => ∃ j : Nat, j ≤ n ∧ iv = .int .i64 j ∧ lv = .int .i64 (left - 1 - (nEs (es.take j) : Int)) ∧ (nEs (es.take j) : Int) ≤ left - 1 ∧ Keep (w.alloc (.cells #[.int .i64 op, .int .i64 num, .slice a n c] 58)) wr) (fun _ i _ => n - (intOf i).toNat)
  case atStart => exact ⟨0, Nat.zero_le _, rfl, by simp [nEs], by simp only [List.take_zero, nEs]; omega, Ext.refl _ _⟩
  case round =>
    obtain ⟨j, hj, rfl, rfl, hsz, hK⟩ := hrel
    have x2 := boxk hK 2
    simp at x2
    by_cases hlt : j < n
    · have hst := nEs_take es (j := j) (by have := HL.out; omega)
      have hee := nE_eq (eAt es j)
      obtain ⟨b, o, rfl, hd, a2, n2, c2, d0, d1, d2, r2⟩ := HA.out j hlt
      have hKw := K0.trans hK
      have g0 := (hKw.cell (World.block_lt_of_cell? w _ d0) (fun h => h)).trans d0
      have g1 := (hKw.cell (World.block_lt_of_cell? w _ d1) (fun h => h)).trans d1
      have g2 := (hKw.cell (World.block_lt_of_cell? w _ d2) (fun h => h)).trans d2
      have q2 := r2.k hKw
      have t0 : 0 ≤ left - 1 - (nEs (es.take j) : Int) := by omega
      have HS := Lib.hid hst
      have HE := Lib.hid hee
      clear d0 d1 d2 r2 hst hee
      by_cases hf : (nEs (es.take (j + 1)) : Int) ≤ left - 1
      · have V : Hid (lft (nEs (eAt es j).kids + 1) (left - 1 - (nEs (es.take j) : Int)) = left - 1 - (nEs (es.take (j + 1)) : Int)) := by
          show _ = _
          have := HS.out; have := HE.out
          rw [lft_yes (by omega)]; omega
        have t1 : 0 ≤ left - 1 - (nEs (es.take (j + 1)) : Int) := by omega
        go_wp2_with fail
        refine (IH.out j (by have := HL.out; omega) _ _ _ _ _ _ q2 (by omega) (by omega)).mono ?_
        rw [V.out]
        rintro e w1 ⟨rfl, p1⟩
        go_wp2_with fail
        go_roundw
        case rel => exact ⟨j + 1, by omega, by go_num, rfl, by omega, hK.trans p1⟩
        case measure => simp [intOf]; omega
      · have V : Hid (lft (nEs (eAt es j).kids + 1) (left - 1 - (nEs (es.take j) : Int)) = -1) := by
          have := HS.out; have := HE.out
          exact lft_no (by omega)
        have hle := nEs_take_le es (j + 1)
        have V2 := Lib.hid (lft_no (s := nEs es + 1) (left := left) (by omega))
        go_wp2_with fail
        refine (IH.out j (by have := HL.out; omega) _ _ _ _ _ _ q2 (by omega) (by omega)).mono ?_
        rw [V.out]
        rintro e w1 ⟨rfl, p1⟩
        go_wp2_with fail
        exact fin_ hQ ⟨ret_i V2.out.symm, (K0.trans hK).trans p1⟩
    · have HJ : Hid (j = n) := by show _ = _; omega
      go_wp2
      exact fin_ hQ ⟨ret_i (by
        have e := HJ.out
        subst e
        rw [List.take_of_length_le (Nat.le_of_eq HL.out)] at hsz ⊢
        rw [lft_yes (by omega)]; omega), K0.trans hK⟩

theorem specNodesLeft (op num : Int) (es : List ExprL) (a : Option Addr) (n c : Nat) (D : Nat → Prop) (left : Int) (w : World) (h : Rd w D (encExprs es) (.slice a n c)) (h0 : 0 ≤ left) (h1 : left ≤ 1048576) :
    Calls Tryz.prog 144 #[.agg #[.int .i64 op, .int .i64 num, .slice a n c], .int .i64 left] w fun e w' => e = .returned (.int .i64 (lft (nEs es + 1) left)) ∧ Keep w w' :=
  specNodesLeft_n _ op num es (Nat.lt_succ_self _) a n c D left w h h0 h1

/-- The number of nodes; -1 if there are too many. -/
def nodesL (es : List ExprL) : Int := if nEs es + 1 ≤ 30 then ((nEs es + 1 : Nat) : Int) else -1
theorem nodesL_yes {es : List ExprL} (h : nEs es + 1 ≤ 30) : nodesL es = ((nEs es + 1 : Nat) : Int) := if_pos h
theorem nodesL_no {es : List ExprL} (h : ¬ nEs es + 1 ≤ 30) : nodesL es = -1 := if_neg h

theorem specNodesOf0 (op num : Int) (es : List ExprL) (a : Option Addr) (n c : Nat) (D : Nat → Prop) (w : World) (h : Rd w D (encExprs es) (.slice a n c)) :
    Calls Tryz.prog 98 #[.agg #[.int .i64 op, .int .i64 num, .slice a n c]] w fun e w' => e = .returned (.int .i64 (nodesL es)) ∧ Keep w w' := by
  refine calls_k fun Q hQ => ?_
  have K0 := Keep.al w (.cells #[.int .i64 op, .int .i64 num, .slice a n c] 58)
  by_cases hl : nEs es + 1 ≤ 30
  · have V := Lib.hid (nodesL_yes hl)
    have V2 := Lib.hid (lft_yes (s := nEs es + 1) (left := 30) (by omega))
    have b1 : 0 ≤ 30 - ((nEs es + 1 : Nat) : Int) := by omega
    generalize hm : nEs es + 1 = m at V V2 b1 hl
    have HM := Lib.hid hm
    clear hm
    go_enter Tryz.func98, Tryz.ntmps98
    go_wp2_with fail
    refine (specNodesLeft _ _ _ _ _ _ _ _ _ (h.k K0) (by omega) (by omega)).mono ?_
    rw [HM.out, V2.out]
    rintro e w1 ⟨rfl, p1⟩
    go_wp2_with fail
    exact fin_ hQ ⟨ret_i (by rw [V.out]; omega), K0.trans p1⟩
  · have V := Lib.hid (nodesL_no hl)
    have V2 := Lib.hid (lft_no (s := nEs es + 1) (left := 30) (by omega))
    clear hl
    go_enter Tryz.func98, Tryz.ntmps98
    go_wp2_with fail
    refine (specNodesLeft _ _ _ _ _ _ _ _ _ (h.k K0) (by omega) (by omega)).mono ?_
    rw [V2.out]
    rintro e w1 ⟨rfl, p1⟩
    go_wp2_with fail
    exact fin_ hQ ⟨ret_i V.out.symm, K0.trans p1⟩

set_option maxHeartbeats 1000000 in
theorem implCountNodes_n (N : Nat) : ∀ (op num : Int) (es : List ExprL), nEs es < N → ∀ (a : Option Addr) (n c p : Nat) (D : Nat → Prop) (m : Int) (w : World), Rd w D (encExprs es) (.slice a n c) → ¬ D p → w.rowIs p 3 1 (fun _ => .int .i64 m) → 0 ≤ m → m ≤ 30 →
    Calls Tryz.prog 73 #[.agg #[.int .i64 op, .int .i64 num, .slice a n c], .pointer (some ⟨p, 0, none⟩)] w fun e w' => e = .returned (.bool (decide (m + ((nEs es + 1 : Nat) : Int) ≤ 30))) ∧
      (m + ((nEs es + 1 : Nat) : Int) ≤ 30 → w'.rowIs p 3 1 (fun _ => .int .i64 (m + ((nEs es + 1 : Nat) : Int)))) ∧ Ext (· = p) w w' := by
  induction N with
  | zero => intro _ _ es h; omega
  | succ N ihN =>
  intro op num es hN a n c p D m w h hDp hp h0 h1
  refine calls_k fun Q hQ => ?_
  obtain ⟨e1, hnc, hm, hat⟩ := exprs_at h
  have HL := Lib.hid e1
  have HA := Lib.hid hat
  have IH := Lib.hid (fun (j : Nat) (hj : j < es.length) => ihN (eAt es j).op (eAt es j).num (eAt es j).kids (by have := nE_le es hj; have := nE_eq (eAt es j); omega))
  have hbox : ∀ k, D k → k ≠ p := fun k hk e => hDp (e ▸ hk)
  clear e1 hat ihN hN
  have hpl := hp.lt
  have v0 := hp.cell (i := 0) (by omega)
  have f0 := hp.frozen 0
  have X0 : Ext (· = p) w ((w.setCell ⟨p, 0, none⟩ (.int .i64 (m + 1))).alloc (.cells #[.int .i64 op, .int .i64 num, .slice a n c] 58)) := ((Ext.refl (· = p) w).setCell (p := ⟨p, 0, none⟩) (.inr rfl) _).alloc _
  have R0 : ((w.setCell ⟨p, 0, none⟩ (.int .i64 (m + 1))).alloc (.cells #[.int .i64 op, .int .i64 num, .slice a n c] 58)).rowIs p 3 1 (fun _ => .int .i64 (m + 1)) :=
    ((hp.set 0 (.int .i64 (m + 1))).alloc _).congr (fun i hi => by rw [if_pos (by omega)])
  have HR0 := Lib.hid R0
  have HX0 := Lib.hid X0
  have Hh := Lib.hid h
  clear hp X0 R0 h
  by_cases hm30 : 30 < m + 1
  · go_enter Tryz.func73, Tryz.ntmps73
    go_wp2
    exact fin_ hQ ⟨ret_b (decide_eq_false (by omega)).symm, fun h => by omega, HX0.out⟩
  go_enter Tryz.func73, Tryz.ntmps73
  go_wp2
  go_loopw [19] (fun iv wr => ∃ j : Nat, j ≤ n ∧ iv = .int .i64 j ∧ Hid (wr.rowIs p 3 1 (fun _ => .int .i64 (m + 1 + (nEs (es.take j) : Int)))) ∧ m + 1 + (nEs (es.take j) : Int) ≤ 30 ∧ Ext (· = p) w wr) (fun i _ => n - (intOf i).toNat)
  case atStart => exact ⟨0, Nat.zero_le _, rfl, by show World.rowIs _ _ _ _ _; simpa [nEs] using HR0.out, by simp only [List.take_zero, nEs]; omega, HX0.out⟩
  case round =>
    obtain ⟨j, hj, rfl, hR, hsz, hX⟩ := hrel
    by_cases hlt : j < n
    · have hst := nEs_take es (j := j) (by have := HL.out; omega)
      have hee := nE_eq (eAt es j)
      obtain ⟨b, o, rfl, hd, a2, n2, c2, d0, d1, d2, r2⟩ := HA.out j hlt
      have g0 := (hX.cell (World.block_lt_of_cell? w _ d0) (hbox _ hd)).trans d0
      have g1 := (hX.cell (World.block_lt_of_cell? w _ d1) (hbox _ hd)).trans d1
      have g2 := (hX.cell (World.block_lt_of_cell? w _ d2) (hbox _ hd)).trans d2
      have q2 := (r2.ext hX (fun k hk => hbox k hk)).k (Keep.al wr (.cells #[.int .i64 (eAt es j).op, .int .i64 (eAt es j).num, .slice a2 n2 c2] 58))
      have hR2 := Lib.hid (hR.out.alloc (.cells #[.int .i64 (eAt es j).op, .int .i64 (eAt es j).num, .slice a2 n2 c2] 58))
      have hX2 : Ext (· = p) w (wr.alloc (.cells #[.int .i64 (eAt es j).op, .int .i64 (eAt es j).num, .slice a2 n2 c2] 58)) := hX.trans (Keep.to (Keep.al _ _))
      have HS := Lib.hid hst
      have HE := Lib.hid hee
      clear d0 d1 d2 r2 hst hee hR hX
      by_cases hf : m + 1 + (nEs (es.take (j + 1)) : Int) ≤ 30
      · have V : Hid (decide (m + 1 + (nEs (es.take j) : Int) + ((nEs (eAt es j).kids + 1 : Nat) : Int) ≤ 30) = true) := by
          have := HS.out; have := HE.out
          exact decide_eq_true (by omega)
        go_wp2_with fail
        refine (IH.out j (by have := HL.out; omega) _ _ _ p D _ _ q2 hDp hR2.out (by omega) hsz).mono ?_
        rw [V.out]
        rintro e w1 ⟨rfl, hr1, p1⟩
        have HR1 : Hid (w1.rowIs p 3 1 (fun _ => .int .i64 (m + 1 + (nEs (es.take (j + 1)) : Int)))) := by
          have := HS.out; have := HE.out
          show World.rowIs _ _ _ _ _
          rw [show m + 1 + (nEs (es.take (j + 1)) : Int) = m + 1 + (nEs (es.take j) : Int) + ((nEs (eAt es j).kids + 1 : Nat) : Int) by omega]
          exact hr1 (by omega)
        clear hr1
        go_wp2_with fail
        go_roundw
        case rel => exact ⟨j + 1, by omega, by go_num, HR1, hf, hX2.trans p1⟩
        case measure => simp [intOf]; omega
      · have V : Hid (decide (m + 1 + (nEs (es.take j) : Int) + ((nEs (eAt es j).kids + 1 : Nat) : Int) ≤ 30) = false) := by
          have := HS.out; have := HE.out
          exact decide_eq_false (by omega)
        have hle := nEs_take_le es (j + 1)
        have V2 : ¬ m + ((nEs es + 1 : Nat) : Int) ≤ 30 := by omega
        have V3 := Lib.hid (decide_eq_false V2)
        go_wp2_with fail
        refine (IH.out j (by have := HL.out; omega) _ _ _ p D _ _ q2 hDp hR2.out (by omega) hsz).mono ?_
        rw [V.out]
        rintro e w1 ⟨rfl, _, p1⟩
        go_wp2_with fail
        exact fin_ hQ ⟨ret_b V3.out.symm, fun h => by omega, hX2.trans p1⟩
    · have HJ : Hid (j = n) := by show _ = _; omega
      have hfin : m + ((nEs es + 1 : Nat) : Int) = m + 1 + (nEs (es.take j) : Int) := by
        have e := HJ.out
        subst e
        rw [List.take_of_length_le (Nat.le_of_eq HL.out)]
        omega
      have HF := Lib.hid hfin
      clear hfin
      go_wp2
      exact fin_ hQ ⟨ret_b (decide_eq_true (by rw [HF.out]; exact hsz)).symm, fun _ => by rw [HF.out]; exact hR.out, hX⟩

theorem implNodesOf (op num : Int) (es : List ExprL) (a : Option Addr) (n c : Nat) (D : Nat → Prop) (w : World) (h : Rd w D (encExprs es) (.slice a n c)) :
    Calls Tryz.prog 31 #[.agg #[.int .i64 op, .int .i64 num, .slice a n c]] w fun e w' => e = .returned (.int .i64 (nodesL es)) ∧ Keep w w' := by
  refine calls_k fun Q hQ => ?_
  have K0 := Keep.al w (.cells #[.int .i64 op, .int .i64 num, .slice a n c] 58)
  have K1 := Keep.al (w.alloc (.cells #[.int .i64 op, .int .i64 num, .slice a n c] 58)) (.cells #[.int .i64 0] 3)
  have R := rowOf (w.alloc (.cells #[.int .i64 op, .int .i64 num, .slice a n c] 58)) #[.int .i64 0] 3
  simp only [World.size_alloc] at R
  replace R := R.congr (g := fun _ => .int .i64 0) (fun i hi => by
    obtain rfl : i = 0 := by simpa using hi
    rfl)
  have h' := ((h.lt.k K0).k K1)
  have HR := Lib.hid R
  clear R
  by_cases hl : nEs es + 1 ≤ 30
  · have V := Lib.hid (nodesL_yes hl)
    have V2 : Hid (decide (0 + ((nEs es + 1 : Nat) : Int) ≤ 30) = true) := decide_eq_true (by omega)
    have hl2 : 0 + ((nEs es + 1 : Nat) : Int) ≤ 30 := by omega
    go_enter Tryz.func31, Tryz.ntmps31
    go_wp2_with fail
    refine (implCountNodes_n _ op num es (Nat.lt_succ_self _) _ _ _ (w.heap.size + 1) _ 0 _ h' (by omega) HR.out (by omega) (by omega)).mono ?_
    rw [V2.out]
    rintro e w1 ⟨rfl, hr, p1⟩
    have v0 := (hr hl2).cell (i := 0) (by omega)
    clear hr
    go_wp2_with fail
    exact fin_ hQ ⟨ret_i (by rw [V.out]; omega), (K0.trans K1).then_ p1 (fun q hq e => by omega)⟩
  · have V := Lib.hid (nodesL_no hl)
    have V2 : Hid (decide (0 + ((nEs es + 1 : Nat) : Int) ≤ 30) = false) := decide_eq_false (by omega)
    clear hl
    go_enter Tryz.func31, Tryz.ntmps31
    go_wp2_with fail
    refine (implCountNodes_n _ op num es (Nat.lt_succ_self _) _ _ _ (w.heap.size + 1) _ 0 _ h' (by omega) HR.out (by omega) (by omega)).mono ?_
    rw [V2.out]
    rintro e w1 ⟨rfl, _, p1⟩
    go_wp2_with fail
    exact fin_ hQ ⟨ret_i V.out.symm, (K0.trans K1).then_ p1 (fun q hq e => by omega)⟩
end Go.Proofs.YtkapldpmjkdmcaaGreat
/- The steps of a block, counted by the reference and by the program. -/
namespace Go.Proofs.YtkapldpmjkdmcaaGreat
open Go.RowKit

mutual
/-- The number of steps. -/
def nS : StepL → Nat
  | .mk _ _ _ _ ks => nBs ks + 1
def nSs : List StepL → Nat
  | [] => 0
  | s :: ss => nS s + nSs ss
def nB : BlockL → Nat
  | .mk ss _ => nSs ss
def nBs : List BlockL → Nat
  | [] => 0
  | b :: bs => nB b + nBs bs
end
theorem nS_eq (s : StepL) : nS s = nBs s.kids + 1 := by cases s; rw [nS]; rfl
theorem nSs_append (a b : List StepL) : nSs (a ++ b) = nSs a + nSs b := by induction a <;> simp_all [nSs, Nat.add_assoc]
/-- The number of steps; -1 if there are too many. -/
def stepsL (ss : List StepL) : Int := if nSs ss ≤ 600 then (nSs ss : Int) else -1
end Go.Proofs.YtkapldpmjkdmcaaGreat
/- Ascending lists of integers as sets: insertion, indices of what is true; plain. -/
namespace Go.Proofs.YtkapldpmjkdmcaaGreat
open Go.RowKit

/-- An ascending list with a number at its place, once. -/
def insL : List Int → Int → List Int
  | [], n => [n]
  | x :: xs, n => if n < x then n :: x :: xs else if n = x then x :: xs else x :: insL xs n
def Asc (xs : List Int) : Prop := xs.Pairwise (· < ·)

theorem insL_len (xs : List Int) (n : Int) : (insL xs n).length ≤ xs.length + 1 := by
  induction xs with
  | nil => simp [insL]
  | cons x xs ih =>
    simp only [insL]
    split
    · simp
    · split
      · simp
      · simp only [List.length_cons]; omega
theorem insL_mem (xs : List Int) (n x : Int) : x ∈ insL xs n ↔ x = n ∨ x ∈ xs := by
  induction xs with
  | nil => simp [insL]
  | cons y ys ih =>
    simp only [insL]
    split
    · simp
    · split
      · next h => subst h; simp
      · simp only [List.mem_cons, ih]
        constructor
        · rintro (h | h | h)
          · exact .inr (.inl h)
          · exact .inl h
          · exact .inr (.inr h)
        · rintro (h | h | h)
          · exact .inr (.inl h)
          · exact .inl h
          · exact .inr (.inr h)
theorem insL_asc {xs : List Int} {n : Int} (h : Asc xs) : Asc (insL xs n) := by
  induction xs with
  | nil => simp [insL, Asc]
  | cons y ys ih =>
    obtain ⟨h1, h2⟩ := List.pairwise_cons.1 h
    simp only [insL]
    split
    · next hn =>
      refine List.pairwise_cons.2 ⟨fun z hz => ?_, h⟩
      rcases List.mem_cons.1 hz with rfl | hz
      · exact hn
      · have := h1 z hz; omega
    · split
      · exact h
      · next hn hne =>
        refine List.pairwise_cons.2 ⟨fun z hz => ?_, ih h2⟩
        rcases (insL_mem ys n z).1 hz with rfl | hz
        · omega
        · exact h1 z hz
theorem asc_ext : ∀ {xs ys : List Int}, Asc xs → Asc ys → (∀ x, x ∈ xs ↔ x ∈ ys) → xs = ys
  | [], [], _, _, _ => rfl
  | [], y :: ys, _, _, h => absurd ((h y).2 (by simp)) (by simp)
  | x :: xs, [], _, _, h => absurd ((h x).1 (by simp)) (by simp)
  | x :: xs, y :: ys, hx, hy, h => by
    obtain ⟨hx1, hx2⟩ := List.pairwise_cons.1 hx
    obtain ⟨hy1, hy2⟩ := List.pairwise_cons.1 hy
    have e : x = y := by
      rcases List.mem_cons.1 ((h x).1 (by simp)) with e | hm
      · exact e
      · rcases List.mem_cons.1 ((h y).2 (by simp)) with e | hm'
        · exact e.symm
        · have := hy1 x hm; have := hx1 y hm'; omega
    subst e
    have e2 : xs = ys := asc_ext hx2 hy2 (fun z => by
      constructor
      · intro hz
        rcases List.mem_cons.1 ((h z).1 (by simp [hz])) with e | hm
        · have := hx1 z hz; omega
        · exact hm
      · intro hz
        rcases List.mem_cons.1 ((h z).2 (by simp [hz])) with e | hm
        · have := hy1 z hz; omega
        · exact hm)
    rw [e2]

/-- What holds in the loop of insert behind j elements. -/
def InsR (xs : List Int) (n : Int) (j : Nat) (out : List Int) (done : Bool) : Prop :=
  if done = true then out ++ xs.drop j = insL xs n else out = xs.take j ∧ insL xs n = xs.take j ++ insL (xs.drop j) n
theorem drop_iAt {xs : List Int} {j : Nat} (h : j < xs.length) : xs.drop j = iAt xs j :: xs.drop (j + 1) := by rw [List.drop_eq_getElem_cons h, iAt_eq h]
theorem take_iAt {xs : List Int} {j : Nat} (h : j < xs.length) : xs.take (j + 1) = xs.take j ++ [iAt xs j] := by rw [List.take_succ_eq_append_getElem h, iAt_eq h]
section
variable {xs : List Int} {n : Int} {j : Nat} {out : List Int}
theorem InsR.low (h : InsR xs n j out false) (hj : j < xs.length) (hx : iAt xs j < n) : InsR xs n (j + 1) (out ++ [iAt xs j]) false := by
  simp only [InsR, Bool.false_eq_true, if_false] at h ⊢
  obtain ⟨h1, h2⟩ := h
  rw [take_iAt hj]
  refine ⟨by rw [h1], ?_⟩
  rw [h2, drop_iAt hj, insL, if_neg (by omega), if_neg (by omega), List.append_assoc]
  rfl
theorem InsR.same (h : InsR xs n j out false) (hj : j < xs.length) (hx : iAt xs j = n) : InsR xs n (j + 1) (out ++ [iAt xs j]) true := by
  simp only [InsR, Bool.false_eq_true, if_false, if_true] at h ⊢
  obtain ⟨h1, h2⟩ := h
  rw [h2, h1, drop_iAt hj, insL, if_neg (by omega), if_pos hx.symm, List.append_assoc]
  rfl
theorem InsR.over (h : InsR xs n j out false) (hj : j < xs.length) (hx : n < iAt xs j) : InsR xs n (j + 1) (out ++ [n] ++ [iAt xs j]) true := by
  simp only [InsR, Bool.false_eq_true, if_false, if_true] at h ⊢
  obtain ⟨h1, h2⟩ := h
  rw [h2, h1, drop_iAt hj, insL, if_pos hx]
  simp
theorem InsR.rest (h : InsR xs n j out true) (hj : j < xs.length) : InsR xs n (j + 1) (out ++ [iAt xs j]) true := by
  simp only [InsR, if_true] at h ⊢
  rw [← h, drop_iAt hj]
  simp
theorem InsR.done (h : InsR xs n j out true) (hj : xs.length ≤ j) : out = insL xs n := by
  simp only [InsR, if_true] at h
  rw [List.drop_of_length_le hj, List.append_nil] at h
  exact h
end

def bAtL (bs : List Bool) (i : Nat) : Bool := bs.getD i false
theorem bAtL_eq {bs : List Bool} {i : Nat} (h : i < bs.length) : bAtL bs i = bs[i] := by simp [bAtL, List.getElem?_eq_getElem h]
/-- The indices of what is true, ascending, from k on. -/
def idxFrom : Nat → List Bool → List Int
  | _, [] => []
  | k, b :: bs => if b = true then (k : Int) :: idxFrom (k + 1) bs else idxFrom (k + 1) bs
def idxL (bs : List Bool) : List Int := idxFrom 0 bs
theorem idxFrom_mem (k : Nat) (bs : List Bool) (x : Int) : x ∈ idxFrom k bs ↔ ∃ i : Nat, i < bs.length ∧ x = ((k + i : Nat) : Int) ∧ bAtL bs i = true := by
  induction bs generalizing k with
  | nil => simp [idxFrom]
  | cons b bs ih =>
    have hs : (∃ i : Nat, i < (b :: bs).length ∧ x = ((k + i : Nat) : Int) ∧ bAtL (b :: bs) i = true) ↔ (x = (k : Int) ∧ b = true) ∨ ∃ i : Nat, i < bs.length ∧ x = ((k + 1 + i : Nat) : Int) ∧ bAtL bs i = true := by
      constructor
      · rintro ⟨i, hi, hx, hb⟩
        rcases i with _ | i
        · exact .inl ⟨by simpa using hx, by simpa [bAtL] using hb⟩
        · exact .inr ⟨i, by simpa using hi, by rw [hx]; congr 1; omega, by simpa [bAtL] using hb⟩
      · rintro (⟨hx, hb⟩ | ⟨i, hi, hx, hb⟩)
        · exact ⟨0, by simp, by simpa using hx, by simpa [bAtL] using hb⟩
        · exact ⟨i + 1, by simpa using hi, by rw [hx]; congr 1; omega, by simpa [bAtL] using hb⟩
    rw [hs, ← ih (k + 1)]
    simp only [idxFrom]
    split
    · next hb => simp [hb]
    · next hb => simp [hb]
theorem idxL_mem (bs : List Bool) (x : Int) : x ∈ idxL bs ↔ ∃ i : Nat, i < bs.length ∧ x = (i : Int) ∧ bAtL bs i = true := by
  rw [idxL, idxFrom_mem]; simp
theorem idxFrom_asc (k : Nat) (bs : List Bool) : Asc (idxFrom k bs) := by
  induction bs generalizing k with
  | nil => simp [idxFrom, Asc]
  | cons b bs ih =>
    simp only [idxFrom]
    split
    · refine List.pairwise_cons.2 ⟨fun z hz => ?_, ih _⟩
      obtain ⟨i, _, rfl, _⟩ := (idxFrom_mem _ _ _).1 hz
      omega
    · exact ih _
theorem idxL_asc (bs : List Bool) : Asc (idxL bs) := idxFrom_asc 0 bs
end Go.Proofs.YtkapldpmjkdmcaaGreat
