/- The drawn law FnConsOf: the walk. -/
import Derived.Test.YtcfndpgeanbkjaaLawBase
import Derived.Deep.RegionHeld3
import Derived.StillTailTactics
namespace Go.Proofs.Ytcfndpgeanbkjaa
open Go.RowKit

set_option maxHeartbeats 4000000 in
theorem fnConsOf_walk (a : Option Addr) (len cap : Nat) (z : Nat → Int) (w : World) (h : Byt w a len z) (hlc : len ≤ cap) :
    Calls Try.prog 9 #[.slice a len cap] w fun e w' => e = .returned (.bool true) ∧ Keep w w' := by
  refine calls_k fun Q hQ => ?_
  by_cases hl : len ≤ 1048576
  · go_enter Try.func9, Try.ntmps9
    go_wp2_with fail
    refine (DrawConsOf_any a len cap z w h hlc hl).mono ?_
    rintro e w1 ⟨v, x, rfl, hx1, hx2, a2, n, c, ds, rfl, hnc, hn6, hR, k1⟩
    have hD := hR.toDecls
    have HL := Lib.hid hD.1
    have hn : n ≤ 1048576 := by omega
    clear h
    by_cases hE : (if typesOk ds = true then consL ds x else []) = []
    · have E := Lib.hid hE
      have hlen : ([] : List Int).length ≤ 3 := by simp
      clear hE
      go_wp2_with fail
      refine (implConsOf _ _ _ _ _ _ _ hD hnc).mono ?_
      rw [E.out]
      rintro e w2 ⟨b2, m2, e2, rfl, hme2, o2, q2⟩
      have h2 := hD.ext q2 (fun _ _ h => h)
      have p2 := k1.trans q2
      have M2 := Lib.hid o2.1
      have O2 := Lib.hid o2
      clear o2
      go_wp2_with fail
      refine (specConsOf _ _ _ _ _ _ _ h2 (by omega)).mono ?_
      rw [E.out]
      rintro e w3 ⟨b3, m3, e3, rfl, hme3, o3, q3⟩
      have h3 := h2.ext q3 (fun _ _ h => h)
      have p3 := p2.trans q3
      have O3 := Lib.hid o3
      have O2' := Lib.hid (O2.out.ext q3 (fun _ _ h => h))
      clear o3
      go_wp2_with fail
      refine (equalInts_same _ _ _ _ _ _ _ _ _ _ O2'.out.read O3.out.read (by have := M2.out; omega)).mono ?_
      rintro e w4 ⟨rfl, q4⟩
      have h4 := h3.ext q4 (fun _ _ h => h)
      have p4 := p3.trans q4
      have O4 := Lib.hid (O2'.out.ext q4 (fun _ _ h => h))
      obtain rfl : m2 = 0 := by have := M2.out; simpa using this.symm
      go_wp2_with fail
      refine (specConsOf _ _ _ _ _ _ _ h4 (by omega)).mono ?_
      rw [E.out]
      rintro e w5 ⟨b5, m5, e5, rfl, hme5, o5, q5⟩
      have O5 := Lib.hid o5
      clear o5
      go_wp2_with fail
      refine (equalInts_same _ _ _ _ _ _ _ _ _ _ (O4.out.ext q5 (fun _ _ h => h)).read O5.out.read (by have := M2.out; omega)).mono ?_
      rintro e w6 ⟨rfl, q6⟩
      go_wp2_with fail
      exact fin_ hQ ⟨rfl, (p4.trans q5).trans q6⟩
    cases hv : typesOk ds
    · exact absurd (by simp [hv]) hE
    rw [if_pos hv] at hE
    have V := Lib.hid hv
    have hf := Few.of_ok hv
    have ht : 1 ≤ x ∧ x ≤ (n : Int) := by
      rw [← HL.out]
      by_cases h : 1 ≤ x ∧ x ≤ (ds.length : Int)
      · exact h
      · exact absurd (consL_out h) hE
    obtain ⟨i, rfl⟩ : ∃ i : Nat, x = (i : Int) + 1 := ⟨(x - 1).toNat, by omega⟩
    have hin' : i < n := by omega
    have hi : i < ds.length := by have := HL.out; omega
    have hm0 : 0 < (dAt ds i).cons.length := by
      rcases Nat.eq_zero_or_pos (dAt ds i).cons.length with h | h
      · exact absurd (List.eq_nil_of_length_eq_zero (by rw [consL_len_succ hi]; exact h)) hE
      · exact h
    have R : Hid ((if typesOk ds = true then consL ds ((i : Int) + 1) else []) = upFrom (firstN ds i) (dAt ds i).cons.length) := by show _ = _; rw [if_pos hv, consL_in hi]
    have hm3 := hf.2 i hi
    have hlen : (upFrom (firstN ds i) (dAt ds i).cons.length).length ≤ 3 := by simpa [upFrom] using hm3
    have hf1 := firstN_le hf (k := i) (by omega)
    clear hE hv ht
    go_wp2_with fail
    refine (implConsOf _ _ _ _ _ _ _ hD hnc).mono ?_
    rw [R.out]
    rintro e w2 ⟨b2, m2, e2, rfl, hme2, o2, q2⟩
    have h2 := hD.ext q2 (fun _ _ h => h)
    have p2 := k1.trans q2
    have M2 := Lib.hid o2.1
    have O2 := Lib.hid o2
    clear o2
    go_wp2_with fail
    refine (specConsOf _ _ _ _ _ _ _ h2 (by omega)).mono ?_
    rw [R.out]
    rintro e w3 ⟨b3, m3, e3, rfl, hme3, o3, q3⟩
    have h3 := h2.ext q3 (fun _ _ h => h)
    have p3 := p2.trans q3
    have O3 := Lib.hid o3
    have O2' := Lib.hid (O2.out.ext q3 (fun _ _ h => h))
    clear o3
    go_wp2_with fail
    refine (equalInts_same _ _ _ _ _ _ _ _ _ _ O2'.out.read O3.out.read (by have := M2.out; omega)).mono ?_
    rintro e w4 ⟨rfl, q4⟩
    have h4 := h3.ext q4 (fun _ _ h => h)
    have p4 := p3.trans q4
    have O4 := Lib.hid (O2'.out.ext q4 (fun _ _ h => h))
    have hm2 : Hid (m2 = (dAt ds i).cons.length) := by show _ = _; have := M2.out; simpa [upFrom] using this.symm
    have hm2' : 0 < m2 ∧ m2 ≤ 3 := by have := hm2.out; omega
    have t : ((m2 : Int) == 0) = false := by simp; omega
    clear hm0 hm3 hlen
    go_wp2_with fail
    go_loopw [6] (fun tv wr => ∃ k : Nat, k < m2 ∧ tv = .int .i64 ((k : Int) + 1) ∧ Keep w4 wr) (fun i _ => n + 1000 - (intOf i).toNat)
    case atStart => exact ⟨0, by omega, rfl, Ext.refl _ _⟩
    case round =>
      obtain ⟨k, hk, rfl, hK⟩ := hrel
      by_cases hlt : k + 1 < m2
      · obtain ⟨b, o, rfl, hd, hc⟩ := (O4.out.read.ext hK (fun _ _ h => h)).2 (by omega)
        have d0 := hc k (by omega)
        have d1 := hc (k + 1) hlt
        rw [show iAt (upFrom (firstN ds i) (dAt ds i).cons.length) k = (firstN ds i : Int) + (k : Int) by rw [iAt_get (by simp [upFrom]; have := hm2.out; omega)]; simp [upFrom]] at d0
        rw [show iAt (upFrom (firstN ds i) (dAt ds i).cons.length) (k + 1) = (firstN ds i : Int) + (k : Int) + 1 by rw [iAt_get (by simp [upFrom]; have := hm2.out; omega)]; simp [upFrom]; omega] at d1
        clear hc
        go_wp2
        go_quiet (fail)
        go_wp2
        go_roundw
        case rel => exact ⟨k + 1, by omega, by go_num, hK.drewN nq⟩
        case measure => simp [intOf]; omega
      · obtain ⟨b, o, rfl, hd, hcc⟩ := (h4.ext hK (fun _ _ h => h)).2 (by omega)
        obtain ⟨_, _, a', m, c', d2, _, hcons⟩ := hcc i hin'
        have hmm : Hid (m = m2) := by show _ = _; have := hcons.1; have := hm2.out; omega
        clear hcc hcons
        have t2 : ((m2 : Int) == (m : Int)) = true := by rw [hmm.out]; simp
        have e1 : IntKind.i64.wrap ((i : Int) + 1 - 1) = (i : Int) := by rw [show (i : Int) + 1 - 1 = (i : Int) by omega]; exact IntWalk.i64_in _ (by omega)
        go_wp2
        exact fin_ hQ ⟨rfl, p4.trans hK⟩
  · go_enter Try.func9, Try.ntmps9
    go_wp2_with fail
    exact fin_ hQ ⟨rfl, Ext.refl _ _⟩
end Go.Proofs.Ytcfndpgeanbkjaa
