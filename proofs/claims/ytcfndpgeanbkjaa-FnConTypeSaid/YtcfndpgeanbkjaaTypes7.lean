/- arrowOf of the program and of the reference; ConCount, ConType and ArrowOf of both. -/
import Derived.Test.YtcfndpgeanbkjaaTypes3
import Derived.Test.YtcfndpgeanbkjaaTypes4
import Derived.Test.YtcfndpgeanbkjaaTypes6
namespace Go.Proofs.Ytcfndpgeanbkjaa
open Go.RowKit

theorem isArrow_off {ds : List DeclL} {f t : Int} {k : Nat} (h : (dAt ds k).cons.length ≠ 0 ∨ ((dAt ds k).from_ == f) = false ∨ ((dAt ds k).to_ == t) = false) : isArrow ds f t k = false := by
  unfold isArrow
  rcases h with h | h | h <;> simp_all
theorem isArrow_on {ds : List DeclL} {f t : Int} {k : Nat} (h : (dAt ds k).cons.length = 0) (h1 : ((dAt ds k).from_ == f) = true) (h2 : ((dAt ds k).to_ == t) = true) : isArrow ds f t k = true := by
  unfold isArrow
  simp_all

set_option maxHeartbeats 1000000 in
theorem implArrowOf0 (a : Option Addr) (n c : Nat) (ds : List DeclL) (D : Nat → Prop) (f t : Int) (w : World) (h : DeclsR w D a n ds) (hn4 : n ≤ 1048576) :
    Calls Try.prog 58 #[.slice a n c, .int .i64 f, .int .i64 t] w fun e w' => e = .returned (.int .i64 (arrowL ds f t)) ∧ Keep w w' := by
  refine calls_k fun Q hQ => ?_
  have hlen := h.1
  have HL := Lib.hid hlen
  clear hlen
  go_enter Try.func58, Try.ntmps58
  go_wp2
  go_loopw [11] (fun i wr => ∃ k : Nat, k ≤ n ∧ i = .int .i64 k ∧ Keep w wr ∧ Hid (∀ j, j < k → isArrow ds f t j = false)) (fun i _ => n - (intOf i).toNat)
  case atStart => exact ⟨0, Nat.zero_le _, rfl, Ext.refl _ _, fun j hj => absurd hj (by omega)⟩
  case round =>
    obtain ⟨k, hk, rfl, hK, H⟩ := hrel
    by_cases hlt : k < n
    · have h1 := h.ext hK (fun _ _ h => h)
      obtain ⟨b, o, rfl, hd, hc⟩ := h1.2 (by omega)
      obtain ⟨c0, c1, a', m, c', c2, hmc, hcons⟩ := hc k (by omega)
      have HM := Lib.hid hcons.1
      clear hc hcons h1 h
      by_cases g0 : m = 0
      · subst g0
        cases g1 : ((dAt ds k).from_ == f)
        · have V := Lib.hid (isArrow_off (ds := ds) (f := f) (t := t) (k := k) (.inr (.inl g1)))
          go_wp2
          go_roundw
          case rel => exact ⟨k + 1, by omega, by go_num, hK.trans ((Ext.refl _ _).alloc _), fun j hj => by
            rcases Nat.lt_succ_iff_lt_or_eq.1 hj with h | rfl
            · exact H.out j h
            · exact V.out⟩
          case measure => simp [intOf]; omega
        · cases g2 : ((dAt ds k).to_ == t)
          · have V := Lib.hid (isArrow_off (ds := ds) (f := f) (t := t) (k := k) (.inr (.inr g2)))
            go_wp2
            go_roundw
            case rel => exact ⟨k + 1, by omega, by go_num, hK.trans ((Ext.refl _ _).alloc _), fun j hj => by
              rcases Nat.lt_succ_iff_lt_or_eq.1 hj with h | rfl
              · exact H.out j h
              · exact V.out⟩
            case measure => simp [intOf]; omega
          · have V := Lib.hid (isArrow_on HM.out g1 g2)
            go_wp2
            exact fin_ hQ ⟨ret_i (by rw [arrowL, firstIx_some (by have := HL.out; omega) V.out H.out]; rfl), hK.trans ((Ext.refl _ _).alloc _)⟩
      · have g0' : ((m : Int) == 0) = false := by simp; omega
        have V := Lib.hid (isArrow_off (ds := ds) (f := f) (t := t) (k := k) (.inl (by rw [HM.out]; exact g0)))
        go_wp2
        go_roundw
        case rel => exact ⟨k + 1, by omega, by go_num, hK.trans ((Ext.refl _ _).alloc _), fun j hj => by
          rcases Nat.lt_succ_iff_lt_or_eq.1 hj with h | rfl
          · exact H.out j h
          · exact V.out⟩
        case measure => simp [intOf]; omega
    · go_wp2
      exact fin_ hQ ⟨ret_i (by rw [arrowL, firstIx_none (fun j hj => H.out j (by have := HL.out; omega))]; rfl), hK⟩

set_option maxHeartbeats 1000000 in
theorem specArrowOf0 (a : Option Addr) (n c : Nat) (ds : List DeclL) (D : Nat → Prop) (f t : Int) (w : World) (h : DeclsR w D a n ds) (hn4 : n ≤ 1048576) :
    Calls Try.prog 66 #[.slice a n c, .int .i64 f, .int .i64 t] w fun e w' => e = .returned (.int .i64 (arrowL ds f t)) ∧ w = w' := by
  refine calls_k fun Q hQ => ?_
  have hlen := h.1
  have HL := Lib.hid hlen
  clear hlen
  go_enter Try.func66, Try.ntmps66
  go_wp2
  go_loop [7] (fun i => ∃ k : Nat, k ≤ n ∧ i = .int .i64 k ∧ Hid (∀ j, j < k → isArrow ds f t j = false)) (fun i => n - (intOf i).toNat)
  case atStart => exact ⟨0, Nat.zero_le _, rfl, fun j hj => absurd hj (by omega)⟩
  case round =>
    obtain ⟨k, hk, rfl, H⟩ := hrel
    by_cases hlt : k < n
    · obtain ⟨b, o, rfl, hd, hc⟩ := h.2 (by omega)
      obtain ⟨c0, c1, a', m, c', c2, hmc, hcons⟩ := hc k (by omega)
      have HM := Lib.hid hcons.1
      clear hc hcons h
      by_cases g0 : m = 0
      · subst g0
        cases g1 : ((dAt ds k).from_ == f)
        · have V := Lib.hid (isArrow_off (ds := ds) (f := f) (t := t) (k := k) (.inr (.inl g1)))
          go_wp2
          go_round
          case rel => exact ⟨k + 1, by omega, by go_num, fun j hj => by
            rcases Nat.lt_succ_iff_lt_or_eq.1 hj with h | rfl
            · exact H.out j h
            · exact V.out⟩
          case measure => simp [intOf]; omega
        · cases g2 : ((dAt ds k).to_ == t)
          · have V := Lib.hid (isArrow_off (ds := ds) (f := f) (t := t) (k := k) (.inr (.inr g2)))
            go_wp2
            go_round
            case rel => exact ⟨k + 1, by omega, by go_num, fun j hj => by
              rcases Nat.lt_succ_iff_lt_or_eq.1 hj with h | rfl
              · exact H.out j h
              · exact V.out⟩
            case measure => simp [intOf]; omega
          · have V := Lib.hid (isArrow_on HM.out g1 g2)
            go_wp2
            exact fin_ hQ ⟨ret_i (by rw [arrowL, firstIx_some (by have := HL.out; omega) V.out H.out]; rfl), rfl⟩
      · have g0' : ((m : Int) == 0) = false := by simp; omega
        have V := Lib.hid (isArrow_off (ds := ds) (f := f) (t := t) (k := k) (.inl (by rw [HM.out]; exact g0)))
        go_wp2
        go_round
        case rel => exact ⟨k + 1, by omega, by go_num, fun j hj => by
          rcases Nat.lt_succ_iff_lt_or_eq.1 hj with h | rfl
          · exact H.out j h
          · exact V.out⟩
        case measure => simp [intOf]; omega
    · go_wp2
      exact fin_ hQ ⟨ret_i (by rw [arrowL, firstIx_none (fun j hj => H.out j (by have := HL.out; omega))]; rfl), rfl⟩

/-- What the six exported functions give. -/
def ifOk (ds : List DeclL) (v : Int) : Int := if typesOk ds = true then v else -1
theorem few_len {w : World} {D : Nat → Prop} {a : Option Addr} {n : Nat} {ds : List DeclL} (h : DeclsR w D a n ds) (hf : Few ds) : n ≤ 4 := by have := h.1; have := hf.1; omega

theorem implConCount (a : Option Addr) (n c : Nat) (ds : List DeclL) (D : Nat → Prop) (w : World) (h : DeclsR w D a n ds) (hnc : n ≤ c) :
    Calls Try.prog 26 #[.slice a n c] w fun e w' => e = .returned (.int .i64 (ifOk ds (conN ds))) ∧ Keep w w' := by
  refine calls_k fun Q hQ => ?_
  cases hv : typesOk ds
  · have V := Lib.hid hv
    clear hv
    go_enter Try.func26, Try.ntmps26
    go_wp2_with (go_at_call 22; refine (implValidTypes _ _ _ _ _ _ h hnc).mono ?_; rw [V.out]; rintro e w1 ⟨rfl, hk1⟩)
    exact fin_ hQ ⟨ret_i (by simp [ifOk, V.out]), hk1⟩
  · have V := Lib.hid hv
    clear hv
    have hf := Few.of_ok V.out
    have hn4 := few_len h hf
    go_enter Try.func26, Try.ntmps26
    go_wp2_with fail
    refine (implValidTypes _ _ _ _ _ _ h hnc).mono ?_
    rw [V.out]
    rintro e w1 ⟨rfl, hk1⟩
    have h1 := h.ext hk1 (fun _ _ h => h)
    go_wp2_with fail
    refine (implConCount0 _ _ _ _ _ _ h1 hf).mono ?_
    rintro e w2 ⟨rfl, hk2⟩
    go_wp2_with fail
    exact fin_ hQ ⟨ret_i (by simp [ifOk, V.out]), hk1.trans hk2⟩

theorem specConCount (a : Option Addr) (n c : Nat) (ds : List DeclL) (D : Nat → Prop) (w : World) (h : DeclsR w D a n ds) (hn : n ≤ 1099511627776) :
    Calls Try.prog 27 #[.slice a n c] w fun e w' => e = .returned (.int .i64 (ifOk ds (conN ds))) ∧ Keep w w' := by
  refine calls_k fun Q hQ => ?_
  cases hv : typesOk ds
  · have V := Lib.hid hv
    clear hv
    go_enter Try.func27, Try.ntmps27
    go_wp2_with (go_at_call 57; refine (specValidTypes0 _ _ _ _ _ _ h hn).mono ?_; rw [V.out]; rintro e w1 ⟨rfl, hk1⟩)
    exact fin_ hQ ⟨ret_i (by simp [ifOk, V.out]), hk1⟩
  · have V := Lib.hid hv
    clear hv
    have hf := Few.of_ok V.out
    have hn4 := few_len h hf
    go_enter Try.func27, Try.ntmps27
    go_wp2_with fail
    refine (specValidTypes0 _ _ _ _ _ _ h hn).mono ?_
    rw [V.out]
    rintro e w1 ⟨rfl, hk1⟩
    have h1 := h.ext hk1 (fun _ _ h => h)
    go_wp2_with fail
    refine (specConCount0 _ _ _ _ _ _ h1 hf).mono ?_
    rintro e w2 ⟨rfl, rfl⟩
    go_wp2_with fail
    exact fin_ hQ ⟨ret_i (by simp [ifOk, V.out]), hk1⟩

theorem implConType (a : Option Addr) (n c : Nat) (ds : List DeclL) (D : Nat → Prop) (x : Int) (w : World) (h : DeclsR w D a n ds) (hnc : n ≤ c) (hx1 : -9223372036854775808 ≤ x) (hx2 : x ≤ 9223372036854775807) :
    Calls Try.prog 30 #[.slice a n c, .int .i64 x] w fun e w' => e = .returned (.int .i64 (ifOk ds (conTypeL ds x))) ∧ Keep w w' := by
  refine calls_k fun Q hQ => ?_
  cases hv : typesOk ds
  · have V := Lib.hid hv
    clear hv
    go_enter Try.func30, Try.ntmps30
    go_wp2_with (go_at_call 22; refine (implValidTypes _ _ _ _ _ _ h hnc).mono ?_; rw [V.out]; rintro e w1 ⟨rfl, hk1⟩)
    exact fin_ hQ ⟨ret_i (by simp [ifOk, V.out]), hk1⟩
  · have V := Lib.hid hv
    clear hv
    have hf := Few.of_ok V.out
    have hn4 := few_len h hf
    go_enter Try.func30, Try.ntmps30
    go_wp2_with fail
    refine (implValidTypes _ _ _ _ _ _ h hnc).mono ?_
    rw [V.out]
    rintro e w1 ⟨rfl, hk1⟩
    have h1 := h.ext hk1 (fun _ _ h => h)
    go_wp2_with fail
    refine (implConAt _ _ _ _ _ _ _ h1 hf hx1 hx2).mono ?_
    rintro e w2 ⟨a2, m2, c2, rfl, _, _, hk2⟩
    go_wp2_with fail
    exact fin_ hQ ⟨ret_i (by simp [ifOk, V.out]), hk1.trans (hk2.alloc _)⟩

theorem specConType (a : Option Addr) (n c : Nat) (ds : List DeclL) (D : Nat → Prop) (x : Int) (w : World) (h : DeclsR w D a n ds) (hn : n ≤ 1099511627776) :
    Calls Try.prog 31 #[.slice a n c, .int .i64 x] w fun e w' => e = .returned (.int .i64 (ifOk ds (conTypeL ds x))) ∧ Keep w w' := by
  refine calls_k fun Q hQ => ?_
  cases hv : typesOk ds
  · have V := Lib.hid hv
    clear hv
    go_enter Try.func31, Try.ntmps31
    go_wp2_with (go_at_call 57; refine (specValidTypes0 _ _ _ _ _ _ h hn).mono ?_; rw [V.out]; rintro e w1 ⟨rfl, hk1⟩)
    exact fin_ hQ ⟨ret_i (by simp [ifOk, V.out]), hk1⟩
  · have V := Lib.hid hv
    clear hv
    have hf := Few.of_ok V.out
    have hn4 := few_len h hf
    go_enter Try.func31, Try.ntmps31
    go_wp2_with fail
    refine (specValidTypes0 _ _ _ _ _ _ h hn).mono ?_
    rw [V.out]
    rintro e w1 ⟨rfl, hk1⟩
    have h1 := h.ext hk1 (fun _ _ h => h)
    go_wp2_with fail
    refine (specConType0 _ _ _ _ _ _ _ h1 hf).mono ?_
    rintro e w2 ⟨rfl, rfl⟩
    go_wp2_with fail
    exact fin_ hQ ⟨ret_i (by simp [ifOk, V.out]), hk1⟩

theorem implArrowOf (a : Option Addr) (n c : Nat) (ds : List DeclL) (D : Nat → Prop) (f t : Int) (w : World) (h : DeclsR w D a n ds) (hnc : n ≤ c) :
    Calls Try.prog 24 #[.slice a n c, .int .i64 f, .int .i64 t] w fun e w' => e = .returned (.int .i64 (ifOk ds (arrowL ds f t))) ∧ Keep w w' := by
  refine calls_k fun Q hQ => ?_
  cases hv : typesOk ds
  · have V := Lib.hid hv
    clear hv
    go_enter Try.func24, Try.ntmps24
    go_wp2_with (go_at_call 22; refine (implValidTypes _ _ _ _ _ _ h hnc).mono ?_; rw [V.out]; rintro e w1 ⟨rfl, hk1⟩)
    exact fin_ hQ ⟨ret_i (by simp [ifOk, V.out]), hk1⟩
  · have V := Lib.hid hv
    clear hv
    have hf := Few.of_ok V.out
    have hn4 := few_len h hf
    go_enter Try.func24, Try.ntmps24
    go_wp2_with fail
    refine (implValidTypes _ _ _ _ _ _ h hnc).mono ?_
    rw [V.out]
    rintro e w1 ⟨rfl, hk1⟩
    have h1 := h.ext hk1 (fun _ _ h => h)
    go_wp2_with fail
    refine (implArrowOf0 _ _ _ _ _ _ _ _ h1 (by omega)).mono ?_
    rintro e w2 ⟨rfl, hk2⟩
    go_wp2_with fail
    exact fin_ hQ ⟨ret_i (by simp [ifOk, V.out]), hk1.trans hk2⟩

theorem specArrowOf (a : Option Addr) (n c : Nat) (ds : List DeclL) (D : Nat → Prop) (f t : Int) (w : World) (h : DeclsR w D a n ds) (hn : n ≤ 1099511627776) :
    Calls Try.prog 33 #[.slice a n c, .int .i64 f, .int .i64 t] w fun e w' => e = .returned (.int .i64 (ifOk ds (arrowL ds f t))) ∧ Keep w w' := by
  refine calls_k fun Q hQ => ?_
  cases hv : typesOk ds
  · have V := Lib.hid hv
    clear hv
    go_enter Try.func33, Try.ntmps33
    go_wp2_with (go_at_call 57; refine (specValidTypes0 _ _ _ _ _ _ h hn).mono ?_; rw [V.out]; rintro e w1 ⟨rfl, hk1⟩)
    exact fin_ hQ ⟨ret_i (by simp [ifOk, V.out]), hk1⟩
  · have V := Lib.hid hv
    clear hv
    have hf := Few.of_ok V.out
    have hn4 := few_len h hf
    go_enter Try.func33, Try.ntmps33
    go_wp2_with fail
    refine (specValidTypes0 _ _ _ _ _ _ h hn).mono ?_
    rw [V.out]
    rintro e w1 ⟨rfl, hk1⟩
    have h1 := h.ext hk1 (fun _ _ h => h)
    go_wp2_with fail
    refine (specArrowOf0 _ _ _ _ _ _ _ _ h1 (by omega)).mono ?_
    rintro e w2 ⟨rfl, rfl⟩
    go_wp2_with fail
    exact fin_ hQ ⟨ret_i (by simp [ifOk, V.out]), hk1⟩
end Go.Proofs.Ytcfndpgeanbkjaa
