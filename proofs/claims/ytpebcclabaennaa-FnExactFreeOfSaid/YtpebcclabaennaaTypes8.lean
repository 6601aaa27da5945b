/- consOf of the program and of the reference: the numbers of the constructors of a type. -/
import Derived.Test.YtpebcclabaennaaTypes5
import Derived.Test.YtpebcclabaennaaAppend
namespace Go.Proofs.Ytpebcclabaennaa
open Go.RowKit

def upFrom (f k : Nat) : List Int := (List.range k).map fun i => ((f + i : Nat) : Int)
theorem upFrom_succ (f k : Nat) : upFrom f (k + 1) = upFrom f k ++ [((f + k : Nat) : Int)] := by simp [upFrom, List.range_succ]
theorem consL_in {ds : List DeclL} {k : Nat} (h : k < ds.length) : consL ds ((k : Int) + 1) = upFrom (firstN ds k) (dAt ds k).cons.length := by
  have e : ((k : Int) + 1).toNat - 1 = k := by omega
  simp only [consL]
  rw [if_pos (by omega), e]
  rfl
theorem consL_out {ds : List DeclL} {t : Int} (h : ¬ (1 ≤ t ∧ t ≤ (ds.length : Int))) : consL ds t = [] := if_neg h

set_option maxHeartbeats 1000000 in
theorem specConsOf0 (a : Option Addr) (n c : Nat) (ds : List DeclL) (D : Nat → Prop) (t : Int) (w : World) (h : DeclsR w D a n ds) (hf : Few ds) :
    Calls Try.prog 177 #[.slice a n c, .int .i64 t] w fun e w' => ∃ a' m c', e = .returned (.slice a' m c') ∧ m ≤ c' ∧ OwnInts w' (fun k => w.heap.size ≤ k) a' m (consL ds t) ∧ Keep w w' := by
  refine calls_k fun Q hQ => ?_
  have HL := Lib.hid h.1
  have hn4 : n ≤ 4 := by have := hf.1; have := h.1; omega
  have hK0 : Keep w (w.alloc (.cells #[] 3)) := (Ext.refl _ w).alloc _
  have hown0 : (w.alloc (.cells #[] 3)).ownsRow w.heap.size 3 1 (.slice (some ⟨w.heap.size, 0, none⟩) 0 0) 0 (([] : List Int).map (Value.int .i64)) := World.ownsRow_made w #[] 0 (Nat.le_refl _) (by simp [maxLen]) rfl
  by_cases ht : 1 ≤ t ∧ t ≤ (n : Int)
  · obtain ⟨k, rfl⟩ : ∃ k : Nat, t = (k : Int) + 1 := ⟨(t - 1).toNat, by omega⟩
    have hkn : k < n := by omega
    have hv : decide (1 ≤ (k : Int) + 1 ∧ (k : Int) + 1 ≤ (n : Int)) = true := decide_eq_true ht
    have h1 := h.ext hK0 (fun _ _ h => h)
    obtain ⟨b, o, rfl, hd, hc⟩ := h.2 (by omega)
    obtain ⟨_, _, a', m, c', c2, hmc, hcons⟩ := hc k hkn
    have HM := Lib.hid hcons.1
    have HC : Hid (consL ds ((k : Int) + 1) = upFrom (firstN ds k) m) := by show _ = _; rw [consL_in (by have := HL.out; omega), HM.out]
    have b2 : m ≤ 3 := by have := hf.2 k (by have := HL.out; omega); have := HM.out; omega
    have b1 := firstN_le hf (k := k) (by have := HL.out; omega)
    have HO := Lib.hid hown0
    have C2 := Lib.hid c2
    clear hc hcons ht hown0 c2
    go_enter Try.func177, Try.ntmps177
    go_wp2_with (go_at_call 74; refine (specInRange _ _ _ _).mono ?_; rintro e w1 ⟨rfl, rfl⟩)
    go_loopw [5, 6] (fun v i wr => ∃ j : Nat, j ≤ m ∧ i = .int .i64 j ∧ Hid (wr.ownsRow w.heap.size 3 1 v j ((upFrom (firstN ds k) j).map (Value.int .i64))) ∧ Keep w wr) (fun _ i _ => m - (intOf i).toNat)
    case atStart => exact ⟨0, Nat.zero_le _, rfl, HO, hK0⟩
    case round =>
      obtain ⟨j, hj, rfl, hown, hK⟩ := hrel
      have hx2 := (hK.cell (World.block_lt_of_cell? _ _ C2.out) (fun h => h)).trans C2.out
      by_cases hlt : j < m
      · have h2 := h.ext hK (fun _ _ h => h)
        have hbs : w.heap.size ≤ wr.heap.size := hK.size
        go_wp2_with (first
          | (go_at_call 176; refine (specFirstCon _ _ _ _ _ _ _ h2 hf (by omega)).mono ?_; rintro e w1 ⟨rfl, rfl⟩)
          | (at_builtin; refine wpList_appInt _ rfl (.tmp 25) (.tmp 32) rfl w.heap.size u5 j (upFrom (firstN ds k) j) rfl (hown.out.alloc _) wr.heap.size 1 ((firstN ds k : Int) + (j : Int)) rfl (by simp [go_sem]) (by omega) (by simp; omega) ?_; intro v' w' ho hg))
        go_roundw
        case rel => exact ⟨j + 1, by omega, by go_num, by
          show World.ownsRow _ _ _ _ _ _ _
          rw [upFrom_succ, Int.natCast_add]; exact ho, (hK.alloc _).grown hg (fun g hg' => .inl (hown.out.lt g hg').1)⟩
        case measure => simp [intOf]; omega
      · have HJ : Hid (j = m) := by show _ = _; omega
        go_wp2
        obtain ⟨a2, cc, rfl, hle, hoi⟩ := own_of_row hown.out
        have := HJ.out
        subst this
        exact fin_ hQ ⟨a2, j, cc, rfl, hle, by rw [HC.out]; exact hoi, hK⟩
  · have hv : decide (1 ≤ t ∧ t ≤ (n : Int)) = false := decide_eq_false ht
    have HC : Hid (consL ds t = []) := by show _ = _; exact consL_out (by rw [HL.out]; exact ht)
    clear ht
    go_enter Try.func177, Try.ntmps177
    go_wp2_with (go_at_call 74; refine (specInRange _ _ _ _).mono ?_; rintro e w1 ⟨rfl, rfl⟩)
    exact fin_ hQ ⟨_, 0, 0, rfl, Nat.le_refl _, by rw [HC.out]; exact ⟨rfl, fun h => absurd h (by omega)⟩, hK0⟩

set_option maxHeartbeats 1000000 in
theorem implConsOf0 (a : Option Addr) (n c : Nat) (ds : List DeclL) (D : Nat → Prop) (t : Int) (w : World) (h : DeclsR w D a n ds) (hnc : n ≤ c) (hf : Few ds) :
    Calls Try.prog 141 #[.slice a n c, .int .i64 t] w fun e w' => ∃ a' m c', e = .returned (.slice a' m c') ∧ m ≤ c' ∧ OwnInts w' (fun k => w.heap.size ≤ k) a' m (consL ds t) ∧ Keep w w' := by
  refine calls_k fun Q hQ => ?_
  have HL := Lib.hid h.1
  have hn4 : n ≤ 4 := by have := hf.1; have := h.1; omega
  by_cases ht1 : t < 1
  · have HC : Hid (consL ds t = []) := by show _ = _; exact consL_out (by omega)
    go_enter Try.func141, Try.ntmps141
    go_wp2_with fail
    exact fin_ hQ ⟨none, 0, 0, rfl, Nat.le_refl _, by rw [HC.out]; exact ⟨rfl, fun h => absurd h (by omega)⟩, Ext.refl _ _⟩
  by_cases ht2 : (n : Int) < t
  · have HC : Hid (consL ds t = []) := by show _ = _; exact consL_out (by have := HL.out; omega)
    go_enter Try.func141, Try.ntmps141
    go_wp2_with fail
    exact fin_ hQ ⟨none, 0, 0, rfl, Nat.le_refl _, by rw [HC.out]; exact ⟨rfl, fun h => absurd h (by omega)⟩, Ext.refl _ _⟩
  obtain ⟨k, rfl⟩ : ∃ k : Nat, t = (k : Int) + 1 := ⟨(t - 1).toNat, by omega⟩
  have hkn : k < n := by omega
  obtain ⟨b, o, rfl, hd, hc⟩ := h.2 (by omega)
  obtain ⟨_, _, a', m, c', c2, hmc, hcons⟩ := hc k hkn
  have HM := Lib.hid hcons.1
  have HC : Hid (consL ds ((k : Int) + 1) = upFrom (firstN ds k) m) := by show _ = _; rw [consL_in (by have := HL.out; omega), HM.out]
  have b2 : m ≤ 3 := by have := hf.2 k (by have := HL.out; omega); have := HM.out; omega
  have b1 := firstN_le hf (k := k) (by have := HL.out; omega)
  have htk : DeclsR w D (some ⟨b, o, none⟩) k (ds.take k) := ⟨by have := HL.out; simp; omega, fun _ => ⟨b, o, rfl, hd, fun i hi => by
    have := hc i (by omega)
    rwa [show dAt (ds.take k) i = dAt ds i from by simp [dAt, hi]]⟩⟩
  have hft : Few (ds.take k) := ⟨by have := hf.1; simp; omega, fun i hi => by
    have hi' : i < k := by simp at hi; omega
    rw [show dAt (ds.take k) i = dAt ds i from by simp [dAt, hi']]
    exact hf.2 i (by simp at hi; omega)⟩
  have hcn : Hid (conN (ds.take k) = firstN ds k) := by
    show _ = _
    have hlk : (ds.take k).length = k := by have := HL.out; simp; omega
    rw [conN, hlk]
    have : ∀ j, j ≤ k → firstN (ds.take k) j = firstN ds j := by
      intro j hj
      induction j with
      | zero => rfl
      | succ j ih => simp only [firstN]; rw [ih (by omega), show dAt (ds.take k) j = dAt ds j from by simp [dAt, show j < k by omega]]
    exact this k (Nat.le_refl _)
  have C2 := Lib.hid c2
  clear hc hcons c2
  go_enter Try.func141, Try.ntmps141
  go_wp2_with fail
  refine (implConCount0 _ _ _ _ _ _ htk hft).mono ?_
  rw [hcn.out]
  rintro e w1 ⟨rfl, hk1⟩
  have c3 := (hk1.cell (World.block_lt_of_cell? _ _ C2.out) (fun h => h)).trans C2.out
  go_wp2_with fail
  go_loopw [6, 28] (fun v i wr => ∃ j : Nat, j ≤ m ∧ i = .int .i64 j ∧ Hid (wr.ownsRow w.heap.size 3 1 v j ((upFrom (firstN ds k) j).map (Value.int .i64))) ∧ Keep w wr) (fun _ i _ => m - (intOf i).toNat)
  case atStart => exact ⟨0, Nat.zero_le _, rfl, World.ownsRow_nil _ _ _ _, hk1⟩
  case round =>
    obtain ⟨j, hj, rfl, hown, hK⟩ := hrel
    by_cases hlt : j < m
    · have hbs : w.heap.size ≤ wr.heap.size := hK.size
      go_wp2_with (at_builtin; refine wpList_appInt _ rfl (.tmp 31) (.tmp 35) rfl w.heap.size u6 j (upFrom (firstN ds k) j) rfl (hown.out.alloc _) wr.heap.size 1 ((firstN ds k : Int) + (j : Int)) rfl (by simp [go_sem]) (by omega) (by simp; omega) ?_; intro v' w' ho hg)
      go_roundw
      case rel => exact ⟨j + 1, by omega, by go_num, by
        show World.ownsRow _ _ _ _ _ _ _
        rw [upFrom_succ, Int.natCast_add]; exact ho, (hK.alloc _).grown hg (fun g hg' => .inl (hown.out.lt g hg').1)⟩
      case measure => simp [intOf]; omega
    · have HJ : Hid (j = m) := by show _ = _; omega
      go_wp2
      obtain ⟨a2, cc, rfl, hle, hoi⟩ := own_of_row hown.out
      have := HJ.out
      subst this
      exact fin_ hQ ⟨a2, j, cc, rfl, hle, by rw [HC.out]; exact hoi, hK⟩
end Go.Proofs.Ytpebcclabaennaa
