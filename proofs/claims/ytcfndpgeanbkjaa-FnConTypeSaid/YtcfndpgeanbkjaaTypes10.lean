/- ConsOf and ConFields of the program and of the reference. -/
import Derived.Test.YtcfndpgeanbkjaaTypes9
namespace Go.Proofs.Ytcfndpgeanbkjaa
open Go.RowKit

theorem conFieldsL_len {ds : List DeclL} {x : Int} (h : typesOk ds = true) : (conFieldsL ds x).length ≤ 3 := by
  unfold conFieldsL
  cases hv : conIx ds x with
  | none => simp
  | some k =>
    obtain ⟨q1, q2, _⟩ := firstIx_spec hv
    simp only [typesOk, Bool.and_eq_true] at h
    have h1 := nAll.1 h.2 k q1
    obtain ⟨g1, g2⟩ := inDecl_iff.1 q2
    have hpos : 0 < (dAt ds k).cons.length := by omega
    unfold declOk at h1
    rw [if_pos hpos, Bool.and_eq_true] at h1
    have h2 := cAll.1 h1.2 (x.toNat - firstN ds k) (by omega)
    exact (conOk_parts.1 h2).1

set_option maxHeartbeats 1000000 in
theorem implConsOf (a : Option Addr) (n c : Nat) (ds : List DeclL) (D : Nat → Prop) (x : Int) (w : World) (h : DeclsR w D a n ds) (hnc : n ≤ c) :
    Calls Try.prog 28 #[.slice a n c, .int .i64 x] w fun e w' => ∃ a' m c', e = .returned (.slice a' m c') ∧ m ≤ c' ∧ OwnInts w' (fun k => w.heap.size ≤ k) a' m (if typesOk ds = true then consL ds x else []) ∧ Keep w w' := by
  refine calls_k fun Q hQ => ?_
  cases hv : typesOk ds
  · have V := Lib.hid hv
    clear hv
    go_enter Try.func28, Try.ntmps28
    go_wp2_with (go_at_call 22; refine (implValidTypes _ _ _ _ _ _ h hnc).mono ?_; rw [V.out]; rintro e w1 ⟨rfl, hk1⟩)
    exact fin_ hQ ⟨none, 0, 0, rfl, Nat.le_refl _, by rw [if_neg (by rw [V.out]; simp)]; exact ⟨rfl, fun h => absurd h (by omega)⟩, hk1⟩
  · have V := Lib.hid hv
    clear hv
    have hf := Few.of_ok V.out
    have hn4 := few_len h hf
    go_enter Try.func28, Try.ntmps28
    go_wp2_with fail
    refine (implValidTypes _ _ _ _ _ _ h hnc).mono ?_
    rw [V.out]
    rintro e w1 ⟨rfl, hk1⟩
    have h1 := h.ext hk1 (fun _ _ h => h)
    have hs1 := hk1.size
    go_wp2_with fail
    refine (implConsOf0 _ _ _ _ _ _ _ h1 hnc hf).mono ?_
    rintro e w2 ⟨a2, m2, c2, rfl, hle, ho, hk2⟩
    have HO := Lib.hid ho
    clear ho
    go_wp2_with fail
    exact fin_ hQ ⟨a2, m2, c2, rfl, hle, by rw [if_pos V.out]; exact HO.out.mono (fun k hk => by omega), hk1.trans hk2⟩
set_option maxHeartbeats 1000000 in
theorem specConsOf (a : Option Addr) (n c : Nat) (ds : List DeclL) (D : Nat → Prop) (x : Int) (w : World) (h : DeclsR w D a n ds) (hn : n ≤ 1099511627776) :
    Calls Try.prog 36 #[.slice a n c, .int .i64 x] w fun e w' => ∃ a' m c', e = .returned (.slice a' m c') ∧ m ≤ c' ∧ OwnInts w' (fun k => w.heap.size ≤ k) a' m (if typesOk ds = true then consL ds x else []) ∧ Keep w w' := by
  refine calls_k fun Q hQ => ?_
  cases hv : typesOk ds
  · have V := Lib.hid hv
    clear hv
    go_enter Try.func36, Try.ntmps36
    go_wp2_with (go_at_call 57; refine (specValidTypes0 _ _ _ _ _ _ h hn).mono ?_; rw [V.out]; rintro e w1 ⟨rfl, hk1⟩)
    exact fin_ hQ ⟨none, 0, 0, rfl, Nat.le_refl _, by rw [if_neg (by rw [V.out]; simp)]; exact ⟨rfl, fun h => absurd h (by omega)⟩, hk1⟩
  · have V := Lib.hid hv
    clear hv
    have hf := Few.of_ok V.out
    have hn4 := few_len h hf
    go_enter Try.func36, Try.ntmps36
    go_wp2_with fail
    refine (specValidTypes0 _ _ _ _ _ _ h hn).mono ?_
    rw [V.out]
    rintro e w1 ⟨rfl, hk1⟩
    have h1 := h.ext hk1 (fun _ _ h => h)
    have hs1 := hk1.size
    go_wp2_with fail
    refine (specConsOf0 _ _ _ _ _ _ _ h1 hf).mono ?_
    rintro e w2 ⟨a2, m2, c2, rfl, hle, ho, hk2⟩
    have HO := Lib.hid ho
    clear ho
    go_wp2_with fail
    exact fin_ hQ ⟨a2, m2, c2, rfl, hle, by rw [if_pos V.out]; exact HO.out.mono (fun k hk => by omega), hk1.trans hk2⟩
set_option maxHeartbeats 1000000 in
theorem specConFields (a : Option Addr) (n c : Nat) (ds : List DeclL) (D : Nat → Prop) (x : Int) (w : World) (h : DeclsR w D a n ds) (hn : n ≤ 1099511627776) :
    Calls Try.prog 43 #[.slice a n c, .int .i64 x] w fun e w' => ∃ a' m c', e = .returned (.slice a' m c') ∧ m ≤ c' ∧ OwnInts w' (fun k => w.heap.size ≤ k) a' m (if typesOk ds = true then conFieldsL ds x else []) ∧ Keep w w' := by
  refine calls_k fun Q hQ => ?_
  cases hv : typesOk ds
  · have V := Lib.hid hv
    clear hv
    go_enter Try.func43, Try.ntmps43
    go_wp2_with (go_at_call 57; refine (specValidTypes0 _ _ _ _ _ _ h hn).mono ?_; rw [V.out]; rintro e w1 ⟨rfl, hk1⟩)
    exact fin_ hQ ⟨none, 0, 0, rfl, Nat.le_refl _, by rw [if_neg (by rw [V.out]; simp)]; exact ⟨rfl, fun h => absurd h (by omega)⟩, hk1⟩
  · have V := Lib.hid hv
    clear hv
    have hf := Few.of_ok V.out
    have hn4 := few_len h hf
    go_enter Try.func43, Try.ntmps43
    go_wp2_with fail
    refine (specValidTypes0 _ _ _ _ _ _ h hn).mono ?_
    rw [V.out]
    rintro e w1 ⟨rfl, hk1⟩
    have h1 := h.ext hk1 (fun _ _ h => h)
    have hs1 := hk1.size
    go_wp2_with fail
    refine (specConFields0 _ _ _ _ _ _ _ h1 hf).mono ?_
    rintro e w2 ⟨a2, m2, c2, rfl, hle, hi, hk2⟩
    have hm : m2 ≤ 3 := by have := conFieldsL_len (x := x) V.out; have := hi.1; omega
    have hs2 := hk2.size
    have HI := Lib.hid hi
    clear hi
    go_wp2_with fail
    refine (copyInts_any _ _ _ _ _ _ HI.out (by omega)).mono ?_
    rintro e w3 ⟨a3, c3, rfl, hle3, ho, hk3⟩
    have HO := Lib.hid ho
    clear ho
    go_wp2_with fail
    exact fin_ hQ ⟨a3, m2, c3, rfl, hle3, by rw [if_pos V.out]; exact HO.out.mono (fun k hk => by omega), (hk1.trans hk2).trans hk3⟩
set_option maxHeartbeats 1000000 in
theorem implConFields (a : Option Addr) (n c : Nat) (ds : List DeclL) (D : Nat → Prop) (x : Int) (w : World) (h : DeclsR w D a n ds) (hnc : n ≤ c) (hx1 : -9223372036854775808 ≤ x) (hx2 : x ≤ 9223372036854775807) :
    Calls Try.prog 42 #[.slice a n c, .int .i64 x] w fun e w' => ∃ a' m c', e = .returned (.slice a' m c') ∧ m ≤ c' ∧ OwnInts w' (fun k => w.heap.size ≤ k) a' m (if typesOk ds = true then conFieldsL ds x else []) ∧ Keep w w' := by
  refine calls_k fun Q hQ => ?_
  cases hv : typesOk ds
  · have V := Lib.hid hv
    clear hv
    go_enter Try.func42, Try.ntmps42
    go_wp2_with (go_at_call 22; refine (implValidTypes _ _ _ _ _ _ h hnc).mono ?_; rw [V.out]; rintro e w1 ⟨rfl, hk1⟩)
    exact fin_ hQ ⟨none, 0, 0, rfl, Nat.le_refl _, by rw [if_neg (by rw [V.out]; simp)]; exact ⟨rfl, fun h => absurd h (by omega)⟩, hk1⟩
  · have V := Lib.hid hv
    clear hv
    have hf := Few.of_ok V.out
    have hn4 := few_len h hf
    go_enter Try.func42, Try.ntmps42
    go_wp2_with fail
    refine (implValidTypes _ _ _ _ _ _ h hnc).mono ?_
    rw [V.out]
    rintro e w1 ⟨rfl, hk1⟩
    have h1 := h.ext hk1 (fun _ _ h => h)
    have hs1 := hk1.size
    go_wp2_with fail
    refine (implConAt _ _ _ _ _ _ _ h1 hf hx1 hx2).mono ?_
    rintro e w2 ⟨a2, m2, c2, rfl, hle, hi, hk2⟩
    have hm : m2 ≤ 3 := by have := conFieldsL_len (x := x) V.out; have := hi.1; omega
    have hs2 := hk2.size
    have hka : Keep w1 (w2.alloc (.cells #[.slice a2 m2 c2] 28)) := hk2.alloc _
    have HI := Lib.hid (hi.ext hka (fun _ _ h => h))
    clear hi
    go_wp2_with fail
    refine (clone_any _ _ _ _ _ _ HI.out (by omega)).mono ?_
    rintro e w3 ⟨a3, c3, rfl, hle3, ho, hk3⟩
    have HO := Lib.hid ho
    clear ho
    go_wp2_with fail
    exact fin_ hQ ⟨a3, m2, c3, rfl, hle3, by rw [if_pos V.out]; exact HO.out.mono (fun k hk => by simp at hk; omega), (hk1.trans hka).trans hk3⟩
end Go.Proofs.Ytcfndpgeanbkjaa
