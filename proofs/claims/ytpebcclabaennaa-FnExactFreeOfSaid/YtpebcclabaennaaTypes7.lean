/- arrowOf of the program and of the reference; ConCount, ConType and ArrowOf of both. -/
import Derived.Test.YtpebcclabaennaaTypes3
import Derived.Test.YtpebcclabaennaaTypes4
import Derived.Test.YtpebcclabaennaaTypes6
namespace Go.Proofs.Ytpebcclabaennaa
open Go.RowKit

theorem isArrow_off {ds : List DeclL} {f t : Int} {k : Nat} (h : (dAt ds k).cons.length ≠ 0 ∨ ((dAt ds k).from_ == f) = false ∨ ((dAt ds k).to_ == t) = false) : isArrow ds f t k = false := by
  unfold isArrow
  rcases h with h | h | h <;> simp_all
theorem isArrow_on {ds : List DeclL} {f t : Int} {k : Nat} (h : (dAt ds k).cons.length = 0) (h1 : ((dAt ds k).from_ == f) = true) (h2 : ((dAt ds k).to_ == t) = true) : isArrow ds f t k = true := by
  unfold isArrow
  simp_all

set_option maxHeartbeats 1000000 in
theorem implArrowOf0 (a : Option Addr) (n c : Nat) (ds : List DeclL) (D : Nat → Prop) (f t : Int) (w : World) (h : DeclsR w D a n ds) (hn4 : n ≤ 1048576) :
    Calls Try.prog 184 #[.slice a n c, .int .i64 f, .int .i64 t] w fun e w' => e = .returned (.int .i64 (arrowL ds f t)) ∧ Keep w w' := by
  refine calls_k fun Q hQ => ?_
  have hlen := h.1
  have HL := Lib.hid hlen
  clear hlen
  go_enter Try.func184, Try.ntmps184
  go_wp2
  go_loopw [11] (fun i wr => ∃ k : Nat, k ≤ n ∧ i = .int .i64 k ∧ Keep w wr ∧ Hid (∀ j, j < k → isArrow ds f t j = false)) (fun i _ => n - (intOf i).toNat)
  case atStart => exact ⟨0, Nat.zero_le _, rfl, Ext.refl _ _, fun j hj => absurd hj (by omega)⟩
  case round =>
    obtain ⟨k, hk, rfl, hK, H⟩ := hrel
    by_cases hlt : k < n
    · have h1 := h.ext hK (fun _ _ h => h)
      obtain ⟨b, o, rfl, hd, hc⟩ := h1.2 (by omega)
      obtain ⟨c0, c1, a', m, c', c2, hmc, hcons⟩ := hc k (by omega)
      have HM := Lib.hid hcons.1
      clear hc hcons h1 h
      by_cases g0 : m = 0
      · subst g0
        cases g1 : ((dAt ds k).from_ == f)
        · have V := Lib.hid (isArrow_off (ds := ds) (f := f) (t := t) (k := k) (.inr (.inl g1)))
          go_wp2
          go_roundw
          case rel => exact ⟨k + 1, by omega, by go_num, hK.trans ((Ext.refl _ _).alloc _), fun j hj => by
            rcases Nat.lt_succ_iff_lt_or_eq.1 hj with h | rfl
            · exact H.out j h
            · exact V.out⟩
          case measure => simp [intOf]; omega
        · cases g2 : ((dAt ds k).to_ == t)
          · have V := Lib.hid (isArrow_off (ds := ds) (f := f) (t := t) (k := k) (.inr (.inr g2)))
            go_wp2
            go_roundw
            case rel => exact ⟨k + 1, by omega, by go_num, hK.trans ((Ext.refl _ _).alloc _), fun j hj => by
              rcases Nat.lt_succ_iff_lt_or_eq.1 hj with h | rfl
              · exact H.out j h
              · exact V.out⟩
            case measure => simp [intOf]; omega
          · have V := Lib.hid (isArrow_on HM.out g1 g2)
            go_wp2
            exact fin_ hQ ⟨ret_i (by rw [arrowL, firstIx_some (by have := HL.out; omega) V.out H.out]; rfl), hK.trans ((Ext.refl _ _).alloc _)⟩
      · have g0' : ((m : Int) == 0) = false := by simp; omega
        have V := Lib.hid (isArrow_off (ds := ds) (f := f) (t := t) (k := k) (.inl (by rw [HM.out]; exact g0)))
        go_wp2
        go_roundw
        case rel => exact ⟨k + 1, by omega, by go_num, hK.trans ((Ext.refl _ _).alloc _), fun j hj => by
          rcases Nat.lt_succ_iff_lt_or_eq.1 hj with h | rfl
          · exact H.out j h
          · exact V.out⟩
        case measure => simp [intOf]; omega
    · go_wp2
      exact fin_ hQ ⟨ret_i (by rw [arrowL, firstIx_none (fun j hj => H.out j (by have := HL.out; omega))]; rfl), hK⟩

set_option maxHeartbeats 1000000 in
theorem specArrowOf0 (a : Option Addr) (n c : Nat) (ds : List DeclL) (D : Nat → Prop) (f t : Int) (w : World) (h : DeclsR w D a n ds) (hn4 : n ≤ 1048576) :
    Calls Try.prog 178 #[.slice a n c, .int .i64 f, .int .i64 t] w fun e w' => e = .returned (.int .i64 (arrowL ds f t)) ∧ w = w' := by
  refine calls_k fun Q hQ => ?_
  have hlen := h.1
  have HL := Lib.hid hlen
  clear hlen
  go_enter Try.func178, Try.ntmps178
  go_wp2
  go_loop [7] (fun i => ∃ k : Nat, k ≤ n ∧ i = .int .i64 k ∧ Hid (∀ j, j < k → isArrow ds f t j = false)) (fun i => n - (intOf i).toNat)
  case atStart => exact ⟨0, Nat.zero_le _, rfl, fun j hj => absurd hj (by omega)⟩
  case round =>
    obtain ⟨k, hk, rfl, H⟩ := hrel
    by_cases hlt : k < n
    · obtain ⟨b, o, rfl, hd, hc⟩ := h.2 (by omega)
      obtain ⟨c0, c1, a', m, c', c2, hmc, hcons⟩ := hc k (by omega)
      have HM := Lib.hid hcons.1
      clear hc hcons h
      by_cases g0 : m = 0
      · subst g0
        cases g1 : ((dAt ds k).from_ == f)
        · have V := Lib.hid (isArrow_off (ds := ds) (f := f) (t := t) (k := k) (.inr (.inl g1)))
          go_wp2
          go_round
          case rel => exact ⟨k + 1, by omega, by go_num, fun j hj => by
            rcases Nat.lt_succ_iff_lt_or_eq.1 hj with h | rfl
            · exact H.out j h
            · exact V.out⟩
          case measure => simp [intOf]; omega
        · cases g2 : ((dAt ds k).to_ == t)
          · have V := Lib.hid (isArrow_off (ds := ds) (f := f) (t := t) (k := k) (.inr (.inr g2)))
            go_wp2
            go_round
            case rel => exact ⟨k + 1, by omega, by go_num, fun j hj => by
              rcases Nat.lt_succ_iff_lt_or_eq.1 hj with h | rfl
              · exact H.out j h
              · exact V.out⟩
            case measure => simp [intOf]; omega
          · have V := Lib.hid (isArrow_on HM.out g1 g2)
            go_wp2
            exact fin_ hQ ⟨ret_i (by rw [arrowL, firstIx_some (by have := HL.out; omega) V.out H.out]; rfl), rfl⟩
      · have g0' : ((m : Int) == 0) = false := by simp; omega
        have V := Lib.hid (isArrow_off (ds := ds) (f := f) (t := t) (k := k) (.inl (by rw [HM.out]; exact g0)))
        go_wp2
        go_round
        case rel => exact ⟨k + 1, by omega, by go_num, fun j hj => by
          rcases Nat.lt_succ_iff_lt_or_eq.1 hj with h | rfl
          · exact H.out j h
          · exact V.out⟩
        case measure => simp [intOf]; omega
    · go_wp2
      exact fin_ hQ ⟨ret_i (by rw [arrowL, firstIx_none (fun j hj => H.out j (by have := HL.out; omega))]; rfl), rfl⟩

/-- What the six exported functions give. -/
def ifOk (ds : List DeclL) (v : Int) : Int := if typesOk ds = true then v else -1
theorem few_len {w : World} {D : Nat → Prop} {a : Option Addr} {n : Nat} {ds : List DeclL} (h : DeclsR w D a n ds) (hf : Few ds) : n ≤ 4 := by have := h.1; have := hf.1; omega






end Go.Proofs.Ytpebcclabaennaa
