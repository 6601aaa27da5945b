/- The drawn law FnConFields: the walk. -/
import Derived.Test.YtcfndpgeanbkjaaLawBase
import Derived.Deep.RegionHeld3
import Derived.StillTailTactics
namespace Go.Proofs.Ytcfndpgeanbkjaa
open Go.RowKit

set_option maxHeartbeats 4000000 in
theorem fnConFields_walk (a : Option Addr) (len cap : Nat) (z : Nat → Int) (w : World) (h : Byt w a len z) (hlc : len ≤ cap) :
    Calls Try.prog 14 #[.slice a len cap] w fun e w' => e = .returned (.bool true) ∧ Keep w w' := by
  refine calls_k fun Q hQ => ?_
  by_cases hl : len ≤ 1048576
  · go_enter Try.func14, Try.ntmps14
    go_wp2_with fail
    refine (DrawConFields_any a len cap z w h hlc hl).mono ?_
    rintro e w1 ⟨v, x, rfl, hx1, hx2, a2, n, c, ds, rfl, hnc, hn6, hR, k1⟩
    have hD := hR.toDecls
    have HL := Lib.hid hD.1
    have hn : n ≤ 1048576 := by omega
    clear h
    have hlen : (if typesOk ds = true then conFieldsL ds x else []).length ≤ 3 := by
      split
      · exact conFieldsL_len (by assumption)
      · simp
    generalize hR : (if typesOk ds = true then conFieldsL ds x else []) = L at hlen
    have R := Lib.hid hR
    
    by_cases hB : ifOk ds (conTypeL ds x) = -1
    · have E := Lib.hid hB
      clear hB hR
      go_wp2_with fail
      refine (implConFields _ _ _ _ _ _ _ hD hnc (by omega) (by omega)).mono ?_
      rw [R.out]
      rintro e w2 ⟨b2, m2, e2, rfl, hme2, o2, q2⟩
      have h2 := hD.ext q2 (fun _ _ h => h)
      have p2 := k1.trans q2
      have M2 := Lib.hid o2.1
      have O2 := Lib.hid o2
      clear o2
      go_wp2_with fail
      refine (specConFields _ _ _ _ _ _ _ h2 (by omega)).mono ?_
      rw [R.out]
      rintro e w3 ⟨b3, m3, e3, rfl, hme3, o3, q3⟩
      have h3 := h2.ext q3 (fun _ _ h => h)
      have p3 := p2.trans q3
      have O3 := Lib.hid o3
      have O2' := Lib.hid (O2.out.ext q3 (fun _ _ h => h))
      clear o3
      go_wp2_with fail
      refine (equalInts_same _ _ _ _ _ _ _ _ _ _ O2'.out.read O3.out.read (by have := M2.out; omega)).mono ?_
      rintro e w4 ⟨rfl, q4⟩
      have h4 := h3.ext q4 (fun _ _ h => h)
      have p4 := p3.trans q4
      have O4 := Lib.hid (O2'.out.ext q4 (fun _ _ h => h))
      go_wp2_with fail
      refine (implConType _ _ _ _ _ _ _ h4 hnc (by omega) (by omega)).mono ?_
      rw [E.out]
      rintro e w7 ⟨rfl, q7⟩
      have h7 := h4.ext q7 (fun _ _ h => h)
      have p7 := p4.trans q7
      have O7 := Lib.hid (O4.out.ext q7 (fun _ _ h => h))
      go_wp2_with fail
      refine (specConFields _ _ _ _ _ _ _ h7 (by omega)).mono ?_
      rw [R.out]
      rintro e w5 ⟨b5, m5, e5, rfl, hme5, o5, q5⟩
      have O5 := Lib.hid o5
      clear o5
      go_wp2_with fail
      refine (equalInts_same _ _ _ _ _ _ _ _ _ _ (O7.out.ext q5 (fun _ _ h => h)).read O5.out.read (by have := M2.out; omega)).mono ?_
      rintro e w6 ⟨rfl, q6⟩
      go_wp2_with fail
      exact fin_ hQ ⟨rfl, (p7.trans q5).trans q6⟩
    cases hv : typesOk ds
    · exact absurd (by simp [ifOk, hv]) hB
    rcases conType_cases ds x with ⟨hc, _⟩ | ⟨i, hc, hi, hin⟩
    · exact absurd (by rw [hc]; simp [ifOk]) hB
    have E : Hid (ifOk ds (conTypeL ds x) = (i : Int) + 1) := by show _ = _; simp [ifOk, hv, hc]
    have V := Lib.hid hv
    have hf := Few.of_ok hv
    have hin' : i < n := by have := HL.out; omega
    have hi4 : i < 4 := by have := hf.1; omega
    have hx0 := (conType_in hi hin).1
    rw [if_pos hv, conFields_in hi hin] at hR
    obtain ⟨hx3, hx4⟩ : (firstN ds i : Int) ≤ x ∧ x < ((firstN ds i + (dAt ds i).cons.length : Nat) : Int) := of_decide_eq_true hin
    obtain ⟨j, hj⟩ : ∃ j : Nat, x = (firstN ds i : Int) + (j : Int) := ⟨(x - (firstN ds i : Int)).toNat, by omega⟩
    have hjm : j < (dAt ds i).cons.length := by omega
    rw [show x.toNat - firstN ds i = j by omega] at hR
    have FL := Lib.hid hR
    have CL : Hid ((if typesOk ds = true then consL ds ((i : Int) + 1) else []) = upFrom (firstN ds i) (dAt ds i).cons.length) := by show _ = _; rw [if_pos hv, consL_in hi]
    have hm3 := hf.2 i hi
    have hf1 := firstN_le hf (k := i) (by omega)
    subst hj
    clear hB hc hin hR hx3 hx4
    go_wp2_with fail
    refine (implConFields _ _ _ _ _ _ _ hD hnc (by omega) (by omega)).mono ?_
    rw [R.out]
    rintro e w2 ⟨b2, m2, e2, rfl, hme2, o2, q2⟩
    have h2 := hD.ext q2 (fun _ _ h => h)
    have p2 := k1.trans q2
    have M2 := Lib.hid o2.1
    have O2 := Lib.hid o2
    clear o2
    go_wp2_with fail
    refine (specConFields _ _ _ _ _ _ _ h2 (by omega)).mono ?_
    rw [R.out]
    rintro e w3 ⟨b3, m3, e3, rfl, hme3, o3, q3⟩
    have h3 := h2.ext q3 (fun _ _ h => h)
    have p3 := p2.trans q3
    have O3 := Lib.hid o3
    have O2' := Lib.hid (O2.out.ext q3 (fun _ _ h => h))
    clear o3
    go_wp2_with fail
    refine (equalInts_same _ _ _ _ _ _ _ _ _ _ O2'.out.read O3.out.read (by have := M2.out; omega)).mono ?_
    rintro e w4 ⟨rfl, q4⟩
    have h4 := h3.ext q4 (fun _ _ h => h)
    have p4 := p3.trans q4
    have O4 := Lib.hid (O2'.out.ext q4 (fun _ _ h => h))
    go_wp2_with fail
    refine (implConType _ _ _ _ _ _ _ h4 hnc (by omega) (by omega)).mono ?_
    rw [E.out]
    rintro e w7 ⟨rfl, q7⟩
    have h7 := h4.ext q7 (fun _ _ h => h)
    have p7 := p4.trans q7
    have O7 := Lib.hid (O4.out.ext q7 (fun _ _ h => h))
    go_wp2_with fail
    refine (implConType _ _ _ _ _ _ _ h7 hnc (by omega) (by omega)).mono ?_
    rw [E.out]
    rintro e w8 ⟨rfl, q8⟩
    have h8 := h7.ext q8 (fun _ _ h => h)
    have p8 := p7.trans q8
    have O8 := Lib.hid (O7.out.ext q8 (fun _ _ h => h))
    go_wp2_with fail
    refine (implConsOf _ _ _ _ _ _ _ h8 hnc).mono ?_
    rw [CL.out]
    rintro e w9 ⟨b9, m9, e9, rfl, hme9, o9, q9⟩
    have p9 := p8.trans q9
    have h9 := h8.ext q9 (fun _ _ h => h)
    have O9 := Lib.hid (O8.out.ext q9 (fun _ _ h => h))
    have M9 : Hid (m9 = (dAt ds i).cons.length) := by show _ = _; have := o9.1; simpa [upFrom] using this.symm
    have hm9 : 0 < m9 := by have := M9.out; omega
    obtain ⟨bb, oo, rfl, _, hcl⟩ := o9.read.2 hm9
    have d9 := hcl 0 hm9
    rw [show iAt (upFrom (firstN ds i) (dAt ds i).cons.length) 0 = (firstN ds i : Int) by rw [iAt_get (by simp [upFrom]; omega)]; simp [upFrom], Nat.add_zero] at d9
    obtain ⟨b, o, rfl, hd, hcc⟩ := h9.2 (by omega)
    obtain ⟨_, _, a', m, c', d2, _, hcons⟩ := hcc i hin'
    have hmm : j < m := by have := hcons.1; omega
    obtain ⟨bc, oc, rfl, _, hc3⟩ := hcons.2 (by omega)
    obtain ⟨a3, m3', c3, d3, _, hints⟩ := hc3 j hmm
    rw [FL.out] at hints
    have HI := Lib.hid hints
    have e1 : IntKind.i64.wrap ((i : Int) + 1 - 1) = (i : Int) := by rw [show (i : Int) + 1 - 1 = (i : Int) by omega]; exact IntWalk.i64_in _ (by omega)
    have e2 : IntKind.i64.wrap ((firstN ds i : Int) + (j : Int) - (firstN ds i : Int)) = (j : Int) := by rw [show (firstN ds i : Int) + (j : Int) - (firstN ds i : Int) = (j : Int) by omega]; exact IntWalk.i64_in _ (by omega)
    have e3 : IntKind.i64.wrap (i : Int) = (i : Int) := IntWalk.i64_in _ (by omega)
    have e4 : IntKind.i64.wrap (j : Int) = (j : Int) := IntWalk.i64_in _ (by omega)
    have t1 : decide ((i : Int) + 1 ≤ (n : Int)) = true := by simp; omega
    have t2 : decide (0 < m9) = true := by simp; omega
    have t3 : decide ((firstN ds i : Int) ≤ (firstN ds i : Int) + (j : Int)) = true := decide_eq_true (by omega)
    have t4 : decide (j < m) = true := by simp; omega
    clear hcc hcons hc3 hints hcl o9 hjm
    go_wp2_with fail
    go_still_tail 47, (by kernel_rfl)
    change wpList _ _ _ _ _ w9.drew
    go_wp2_with fail
    refine (equalInts_same _ _ _ _ _ _ _ _ _ _ (O9.out.ext (w' := w9.drew) (Ext.refl (fun _ => False) w9).drew (fun _ _ h => h)).read (HI.out.ext (w' := w9.drew) (Ext.refl (fun _ => False) w9).drew (fun _ _ h => h)) (by have := M2.out; omega)).mono ?_
    rintro e w10 ⟨rfl, q10⟩
    go_wp2_with fail
    exact fin_ hQ ⟨rfl, p9.drew.trans q10⟩
  · go_enter Try.func14, Try.ntmps14
    go_wp2_with fail
    exact fin_ hQ ⟨rfl, Ext.refl _ _⟩
end Go.Proofs.Ytcfndpgeanbkjaa
