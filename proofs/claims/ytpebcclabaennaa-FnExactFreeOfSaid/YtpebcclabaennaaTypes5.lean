/- conCount, firstCon, conType, conAt and arrowOf of the program and of the reference. -/
import Derived.Test.YtpebcclabaennaaTypes1
import Derived.Test.YtpebcclabaennaaTypesPlain2
namespace Go.Proofs.Ytpebcclabaennaa
open Go.RowKit

theorem box_at {w w2 : World} {cs : Array Value} {T : TypeId} (h : Keep (w.alloc (.cells cs T)) w2) (i : Nat) : w2.cell? ⟨w.heap.size, i, none⟩ = cs[i]? := by
  rw [h.cell (p := ⟨w.heap.size, i, none⟩) (by simp) (fun h => h), cell_of_row _ w.heap.size i cs T (0, 0) (heap_alloc_new w _)]

theorem implConCount0 (a : Option Addr) (n c : Nat) (ds : List DeclL) (D : Nat → Prop) (w : World) (h : DeclsR w D a n ds) (hf : Few ds) :
    Calls Try.prog 180 #[.slice a n c] w fun e w' => e = .returned (.int .i64 (conN ds)) ∧ Keep w w' := by
  refine calls_k fun Q hQ => ?_
  have hlen := h.1
  have HL := Lib.hid hlen
  have hn4 : n ≤ 4 := by have := hf.1; omega
  clear hlen
  go_enter Try.func180, Try.ntmps180
  go_wp2
  go_loopw [3, 8] (fun t i wr => ∃ k : Nat, k ≤ n ∧ i = .int .i64 k ∧ t = .int .i64 (firstN ds k) ∧ Keep w wr) (fun _ i _ => n - (intOf i).toNat)
  case atStart => exact ⟨0, Nat.zero_le _, rfl, rfl, Ext.refl _ _⟩
  case round =>
    obtain ⟨k, hk, rfl, rfl, hK⟩ := hrel
    by_cases hlt : k < n
    · have h1 := h.ext hK (fun _ _ h => h)
      obtain ⟨b, o, rfl, hd, hc⟩ := h1.2 (by omega)
      obtain ⟨c0, c1, a', m, c', c2, hmc, hcons⟩ := hc k hlt
      have HM := Lib.hid hcons.1
      have b1 := firstN_le hf (k := k) (by have := HL.out; omega)
      have b2 : m ≤ 3 := by have := hf.2 k (by have := HL.out; omega); have := HM.out; omega
      clear hc hcons h1 h
      go_wp2
      go_roundw
      case rel => exact ⟨k + 1, by omega, by go_num, by simp only [firstN, HM.out]; go_num, hK.trans ((Ext.refl _ _).alloc _)⟩
      case measure => simp [intOf]; omega
    · go_wp2
      exact fin_ hQ ⟨ret_i (by rw [conN, HL.out, show k = n by omega]), hK⟩


theorem specFirstCon (a : Option Addr) (n c : Nat) (ds : List DeclL) (D : Nat → Prop) (at_ : Nat) (w : World) (h : DeclsR w D a n ds) (hf : Few ds) (hat : at_ ≤ n) :
    Calls Try.prog 176 #[.slice a n c, .int .i64 at_] w fun e w' => e = .returned (.int .i64 (firstN ds at_)) ∧ w = w' := by
  refine calls_k fun Q hQ => ?_
  have hlen := h.1
  have HL := Lib.hid hlen
  have hn4 : n ≤ 4 := by have := hf.1; omega
  clear hlen
  go_enter Try.func176, Try.ntmps176
  go_wp2
  go_loop [5, 6] (fun t i => ∃ k : Nat, k ≤ at_ ∧ i = .int .i64 k ∧ t = .int .i64 (firstN ds k)) (fun _ i => at_ - (intOf i).toNat)
  case atStart => exact ⟨0, Nat.zero_le _, rfl, rfl⟩
  case round =>
    obtain ⟨k, hk, rfl, rfl⟩ := hrel
    by_cases hlt : k < at_
    · obtain ⟨b, o, rfl, hd, hc⟩ := h.2 (by omega)
      obtain ⟨c0, c1, a', m, c', c2, hmc, hcons⟩ := hc k (by omega)
      have HM := Lib.hid hcons.1
      have b1 := firstN_le hf (k := k) (by have := HL.out; omega)
      have b2 : m ≤ 3 := by have := hf.2 k (by have := HL.out; omega); have := HM.out; omega
      clear hc hcons h
      go_wp2
      go_round
      case rel => exact ⟨k + 1, by omega, by go_num, by simp only [firstN, HM.out]; go_num⟩
      case measure => simp [intOf]; omega
    · go_wp2
      exact fin_ hQ ⟨ret_i (by rw [show k = at_ by omega]), rfl⟩

set_option maxHeartbeats 1000000 in
theorem specConType0 (a : Option Addr) (n c : Nat) (ds : List DeclL) (D : Nat → Prop) (x : Int) (w : World) (h : DeclsR w D a n ds) (hf : Few ds) :
    Calls Try.prog 133 #[.slice a n c, .int .i64 x] w fun e w' => e = .returned (.int .i64 (conTypeL ds x)) ∧ w = w' := by
  refine calls_k fun Q hQ => ?_
  have hlen := h.1
  have HL := Lib.hid hlen
  have hn4 : n ≤ 4 := by have := hf.1; omega
  clear hlen
  go_enter Try.func133, Try.ntmps133
  go_wp2
  go_loop [5] (fun i => ∃ k : Nat, k ≤ n ∧ i = .int .i64 k ∧ Hid (∀ j, j < k → inDecl ds x j = false)) (fun i => n - (intOf i).toNat)
  case atStart => exact ⟨0, Nat.zero_le _, rfl, fun j hj => absurd hj (by omega)⟩
  case round =>
    obtain ⟨k, hk, rfl, H⟩ := hrel
    by_cases hlt : k < n
    · obtain ⟨b, o, rfl, hd, hc⟩ := h.2 (by omega)
      obtain ⟨c0, c1, a', m, c', c2, hmc, hcons⟩ := hc k (by omega)
      have HM := Lib.hid hcons.1
      have b1 := firstN_le hf (k := k) (by have := HL.out; omega)
      have b2 : m ≤ 3 := by have := hf.2 k (by have := HL.out; omega); have := HM.out; omega
      have HI : Hid (inDecl ds x k = decide ((firstN ds k : Int) ≤ x ∧ x ≤ (firstN ds k : Int) + (m : Int) - 1)) := by
        show _ = _
        simp only [inDecl, firstN, HM.out]
        congr 1
        simp only [eq_iff_iff]
        omega
      clear hc hcons
      cases hv : decide ((firstN ds k : Int) ≤ x ∧ x ≤ (firstN ds k : Int) + (m : Int) - 1)
      · go_wp2_with fail
        refine (specFirstCon _ _ _ _ _ _ _ h hf (by omega)).mono ?_
        rintro e w1 ⟨rfl, rfl⟩
        go_wp2_with (go_at_call 74; refine (specInRange _ _ _ _).mono ?_; rintro e w1 ⟨rfl, rfl⟩)
        go_round
        case rel => exact ⟨k + 1, by omega, by go_num, fun j hj => by
          rcases Nat.lt_succ_iff_lt_or_eq.1 hj with h | rfl
          · exact H.out j h
          · rw [HI.out]; exact hv⟩
        case measure => simp [intOf]; omega
      · go_wp2_with fail
        refine (specFirstCon _ _ _ _ _ _ _ h hf (by omega)).mono ?_
        rintro e w1 ⟨rfl, rfl⟩
        go_wp2_with (go_at_call 74; refine (specInRange _ _ _ _).mono ?_; rintro e w1 ⟨rfl, rfl⟩)
        exact fin_ hQ ⟨ret_i (by rw [conTypeL, conIx, firstIx_some (by have := HL.out; omega) (by rw [HI.out]; exact hv) H.out]; rfl), rfl⟩
    · go_wp2
      exact fin_ hQ ⟨ret_i (by rw [conTypeL, conIx, firstIx_none (fun j hj => H.out j (by have := HL.out; omega))]; rfl), rfl⟩
end Go.Proofs.Ytpebcclabaennaa
