/- The drawn law FnInhabitedMore: the walk. -/
import Derived.Test.YthdjijhpdgajbaaInhLaw
import Derived.Test.YthdjijhpdgajbaaInhI2
import Derived.Test.YthdjijhpdgajbaaDrawInh
import Derived.Test.YthdjijhpdgajbaaGenDecl2
namespace Go.Proofs.Ythdjijhpdgajbaa
open Go.RowKit

set_option maxRecDepth 100000 in
set_option maxHeartbeats 4000000 in
theorem fnInhabitedMore_walk (a : Option Addr) (len cap : Nat) (z : Nat → Int) (w : World) (h : Byt w a len z) (hlc : len ≤ cap) :
    Calls Try.prog 4 #[.slice a len cap] w fun e w' => e = .returned (.bool true) ∧ Keep w w' := by
  refine calls_k fun Q hQ => ?_
  by_cases hl : len ≤ 1048576
  case neg =>
    go_enter Try.func4, Try.ntmps4
    go_wp2_with fail
    exact fin_ hQ ⟨rfl, Ext.refl _ _⟩
  go_enter Try.func4, Try.ntmps4
  go_wp2_with fail
  refine (DrawInhabited_any a len cap z w h hlc hl).mono ?_
  rintro e w1 ⟨v, rfl, a2, n, c, ds, rfl, hnc, hn6, hR, k1⟩
  have hD := hR.toDecls
  have HL := Lib.hid hD.1
  clear h
  cases hv : typesOk ds
  · have V := Lib.hid hv
    clear hv
    have E : Hid ((if typesOk ds = true then inhL ds else []) = []) := by show _ = _; rw [V.out]; rfl
    go_wp2_with fail
    refine (implInhabited _ _ _ _ _ _ hD hnc).mono ?_
    rw [E.out]
    rintro e w2 ⟨r2, m2, c2, rfl, hc2, o2, q2⟩
    have h2 := hD.ext q2 (fun _ _ h => h)
    have p2 := k1.trans q2
    have hm2 : m2 = 0 := by have := o2.1; simpa using this.symm
    subst hm2
    have O2 := Lib.hid o2
    clear o2
    go_wp2_with fail
    refine (specInhabited _ _ _ _ _ _ h2 (by omega)).mono ?_
    rw [E.out]
    rintro e w3 ⟨r3, m3, c3, rfl, _, o3, q3⟩
    have h3 := h2.ext q3 (fun _ _ h => h)
    have p3 := p2.trans q3
    have O3 := Lib.hid o3
    have O23 := Lib.hid (O2.out.ext q3 (fun _ _ h => h))
    clear o3
    go_wp2_with fail
    refine (equalInts_same _ _ _ _ _ _ [] _ _ _ O23.out.read O3.out.read (by omega)).mono ?_
    rintro e w4 ⟨rfl, q4⟩
    have h4 := h3.ext q4 (fun _ _ h => h)
    have p4 := p3.trans q4
    have O24 := Lib.hid (O23.out.ext q4 (fun _ _ h => h))
    go_wp2_with fail
    refine (specInhabited _ _ _ _ _ _ h4 (by omega)).mono ?_
    rw [E.out]
    rintro e w5 ⟨r5, m5, c5, rfl, _, o5, q5⟩
    have O5 := Lib.hid o5
    have O25 := Lib.hid (O24.out.ext q5 (fun _ _ h => h))
    clear o5
    go_wp2_with fail
    refine (equalInts_same _ _ _ _ _ _ [] _ _ _ O25.out.read O5.out.read (by omega)).mono ?_
    rintro e w6 ⟨rfl, q6⟩
    go_wp2_with fail
    exact fin_ hQ ⟨rfl, (p4.trans q5).trans q6⟩
  have V := Lib.hid hv
  have hf := Few.of_ok hv
  have hn4 : n ≤ 4 := by have := hf.1; have := HL.out; omega
  have HFW := Lib.hid hf
  have E : Hid ((if typesOk ds = true then inhL ds else []) = inhL ds) := by show _ = _; rw [V.out]; rfl
  clear hv hf
  go_wp2_with fail
  refine (implInhabited _ _ _ _ _ _ hD hnc).mono ?_
  rw [E.out]
  rintro e w2 ⟨r2, m2, c2, rfl, hc2, o2, q2⟩
  have h2 := hD.ext q2 (fun _ _ h => h)
  have p2 := k1.trans q2
  have hm2 : 0 < m2 ∧ m2 ≤ 5 := by have h1 := o2.1; have h2 := inhL_pos ds; have h3 := inhL_len5 V.out; omega
  obtain ⟨hm0, hm5⟩ := hm2
  have O2 := Lib.hid o2
  clear o2
  go_wp2_with fail
  refine (specInhabited _ _ _ _ _ _ h2 (by omega)).mono ?_
  rw [E.out]
  rintro e w3 ⟨r3, m3, c3, rfl, _, o3, q3⟩
  have h3 := h2.ext q3 (fun _ _ h => h)
  have p3 := p2.trans q3
  have O3 := Lib.hid o3
  have O23 := Lib.hid (O2.out.ext q3 (fun _ _ h => h))
  clear o3
  go_wp2_with fail
  refine (equalInts_same _ _ _ _ _ _ (inhL ds) _ _ _ O23.out.read O3.out.read (by omega)).mono ?_
  rintro e w4 ⟨rfl, q4⟩
  have H4 := Lib.hid (h3.ext q4 (fun _ _ h => h))
  have p4 := p3.trans q4
  have O24 := Lib.hid (O23.out.ext q4 (fun _ _ h => h))
  have hme : ((m2 : Int) == 0) = false := by simp; omega
  have HR4 := Lib.hid (hR.k ((q2.trans q3).trans q4))
  have HRL := Lib.hid (hR.lt.k ((q2.trans q3).trans q4))
  have ZZ : Hid (w1.heap.size ≤ w4.heap.size) := by show _ ≤ _; exact ((q2.trans q3).trans q4).size
  clear hD h2 h3 q2 q3 q4 O2 O23 O3 hR
  go_wp2_with fail
  clear hme
  go_loopw [5] (fun tv wr => ∃ j : Nat, j ≤ n ∧ tv = .int .i64 (j : Int) ∧ Keep w4 wr) (fun i _ => n - (intOf i).toNat)
  case atStart => exact ⟨0, Nat.zero_le _, rfl, Ext.refl _ _⟩
  case round =>
    obtain ⟨wo, rfl⟩ : ∃ wo : World, wo = wr := ⟨_, rfl⟩
    obtain ⟨j, hj, rfl, hK⟩ := hrel
    by_cases hlt : j < n
    case neg =>
      go_wp2_with fail
      exact fin_ hQ ⟨rfl, p4.trans hK⟩
    have HJ : Hid (j < ds.length) := by have := HL.out; show _ < _; omega
    obtain ⟨_, _, _, hat⟩ := decls_at (HRL.out.k hK)
    obtain ⟨b, o, rfl, hd, a', m, c', d0, d1, d2, hC⟩ := hat j hlt
    have HM := Lib.hid (cons_at hC).1
    have hm3 : m ≤ 3 := by have h1 := HM.out; have h2 := HFW.out.2 j HJ.out; omega
    clear hat
    by_cases hm0' : m = 0
    · subst hm0'
      go_wp2_with fail
      go_roundw
      case rel => exact ⟨j + 1, by omega, by go_num, hK⟩
      case measure => simp [intOf]; omega
    have t0 : (0 : Int) < (m : Int) := by omega
    by_cases hm4 : m < 3
    case neg =>
      have t1 : ¬ (m : Int) < 3 := by omega
      go_wp2_with fail
      go_roundw
      case rel => exact ⟨j + 1, by omega, by go_num, hK⟩
      case measure => simp [intOf]; omega
    have t1 : (m : Int) < 3 := by omega
    have HM0 : Hid (0 < (dAt ds j).cons.length ∧ (dAt ds j).cons.length < 3) := by have := HM.out; show _ ∧ _; omega
    have A0 := Lib.hid (AccR.made wo (fun _ => True) 28 3)
    have R0 := Lib.hid (((HR4.out.k hK).lt).k (Keep.al wo (.cells #[] 28)))
    have HC := Lib.hid hC
    have HK := Lib.hid hK
    have HLB : Hid (∀ q, q < w1.heap.size → q < wo.heap.size) := fun q hq => by have := hK.size; have := ZZ.out; omega
    clear hC d0 d1
    go_wp2_with (first
      | (at_builtin; refine wpList_appS _ rfl (.tmp 48) (.tmp 49) 23 rfl wo.heap.size 28 (.agg #[.int .i64 0, .int .i64 0, .slice none 0 0]) 3 40 Try.underlying23 (by kernel_rfl) rfl (by omega) (fun _ => True) _ _ rfl A0.out _ n _ _ _ rfl R0.out (fun q hq hq2 => ⟨trivial, by show some wo.heap.size ≠ some q; intro hh; injection hh with hh; omega⟩) n (by have := HL.out; simp <;> omega) (by omega) (by omega) (by simp) ?_; intro b1 e1 w5 he1 A1 xA sA; obtain ⟨bb, cb, eb, hbb1, hbb2, _, _, _, _⟩ := A1.open (by have := HL.out; simp; omega); injection eb with q1 q2 q3; subst q1; clear q2 q3; have HA1 := Lib.hid A1; have HXA := Lib.hid xA; have k5 : Hid (Keep wo w5) := ((Keep.al wo (.cells #[] 28)).then_ xA (fun q hq h => by have h2 : wo.heap.size ≤ q := h; omega)); have d25 := ((k5.out.trans (Keep.al w5 (.cells #[] 34))).cell (World.block_lt_of_cell? _ _ d2) (fun h => h)).trans d2; clear A1 xA)
      | (at_builtin; (have A2 := AccR.made w5 (fun q => q ≠ bb) 34 1; have RC := ((HC.out.k k5.out).k (Keep.al w5 (.cells #[] 34))); refine wpList_appS _ rfl (.tmp 53) (.tmp 58) 26 rfl w5.heap.size 34 (.agg #[.slice none 0 0]) 1 24 Try.underlying26 (by kernel_rfl) rfl (by omega) (fun q => q ≠ bb) _ _ rfl A2 _ m _ _ _ rfl RC (fun q hq hq2 => ⟨by have := HLB.out q hq2.2; omega, by have := HLB.out q hq2.2; have := k5.out.size; show some w5.heap.size ≠ some q; intro hh; injection hh with hh; omega⟩) m (by simp) (by omega) (by omega) (by simp) ?_; intro b3 e3 w6 he3 A3 xA3 sA3; have HA3 := Lib.hid A3; have HX3 := Lib.hid xA3; have HS3 := Lib.hid sA3; clear A3 xA3 sA3 RC A2))
      | (at_builtin; go_must (have hX := lit_consD w6 (fun q => w6.heap.size ≤ q) 34 [[]] [.slice none 0 0] 1 (Nat.le_refl _) ⟨_, _, rfl, .nil 1 none 0, rfl⟩ rfl (by omega); have A4 := HA3.out.keep (Keep.al w6 (.cells #[.slice none 0 0] 34)); have hb3 := HA3.out.bound; have z3 := HS3.out; simp at z3; refine wpList_appS _ rfl (.tmp 59) (.tmp 61) 26 rfl w5.heap.size 34 (.agg #[.slice none 0 0]) 1 24 Try.underlying26 (by kernel_rfl) rfl (by omega) (fun q => q ≠ bb) _ _ rfl A4 _ 1 _ _ _ rfl hX (fun q hq hq2 => ⟨by have h2 : w6.heap.size ≤ q := hq2; omega, by have h2 : w6.heap.size ≤ q := hq2; intro hh; have := (hb3 q hh).2; omega⟩) (m + 1) (by simp; have := HM.out; omega) (by omega) (by omega) (by simp; omega) ?_; intro b4 e4 w7 he4 A5 xA4 sA4; have HA5 := Lib.hid A5; have X57 : Hid (Ext (fun k => w5.heap.size ≤ k) w5 w7) := (((Keep.to (Keep.al w5 (.cells #[] 34))).trans HX3.out).trans (Keep.to (Keep.al w6 (.cells #[.slice none 0 0] 34)))).trans xA4; have HA6 := Lib.hid (HA1.out.ext X57.out (fun k hk _ h => by have h2 : w5.heap.size ≤ k := h; omega)); obtain ⟨⟨u0, y0⟩, ⟨u1, y1⟩, ⟨u2, y2⟩, g0, g1, g2⟩ := HA6.out.slot (k := j) (by have := HJ.out; simp; omega); clear A4 A5 xA4 sA4 hb3 hX z3)))
    have HU : Hid (Rd w7 (fun k => True ∧ k ≠ bb) (encCons ((dAt ds j).cons ++ [[]])) (.slice b4 (m + 1) e4)) := by
      obtain ⟨_, _, _, _, _, hr⟩ := HA5.out.read (by omega)
      rw [show (([] : List (List Dat)) ++ (dAt ds j).cons.map rowC ++ ([[]] : List (List Int)).map rowC) = ((dAt ds j).cons ++ [[]]).map rowC from by simp] at hr
      exact hr.mono (fun k hk => ⟨trivial, by rcases hk with h | h; · exact h
                                              · omega⟩)
    have A7 := HA6.out
    rw [List.nil_append] at A7
    have A8 := A7.putD (k := j) (f := 0) (t := 0) rfl HJ.out HU.out
    have X8 := put3x w7 bb (j * 3) (.int .i64 0) (.int .i64 0) (.slice b4 (m + 1) e4)
    have K7 : Keep wo w7 := k5.out.then_ X57.out (fun q hq h => by have := k5.out.size; omega)
    have K8 : Keep wo _ := K7.then_ X8 (fun q hq h => by omega)
    have HA8 := Lib.hid A8
    have HK8 := Lib.hid K8
    generalize hW8 : ((w7.setCell ⟨bb, j * 3, none⟩ (.int .i64 0)).setCell ⟨bb, j * 3 + 1, none⟩ (.int .i64 0)).setCell ⟨bb, j * 3 + 2, none⟩ (.slice b4 (m + 1) e4) = W8 at *
    have HRM : Hid (Rd W8 (fun _ => True) (encDecls (moreD ds j)) (.slice (some ⟨bb, 0, none⟩) n e1)) := by
      obtain ⟨_, _, _, _, _, hr⟩ := HA8.out.read (by omega)
      exact hr.mono (fun _ _ => trivial)
    have VM := Lib.hid (moreD_ok V.out HJ.out HM0.out.1 HM0.out.2)
    have EM : Hid ((if typesOk (moreD ds j) = true then inhL (moreD ds j) else []) = inhL (moreD ds j)) := by show _ = _; rw [VM.out]; rfl
    have LM := Lib.hid (inhL_len5 VM.out)
    have MM := Lib.hid (inhL_more HJ.out HM0.out.1)
    have OW := Lib.hid (O24.out.ext (HK.out.trans HK8.out) (fun _ _ h => h))
    clear A7 A8 X8 K7 K8 hW8 HA1 HXA HA3 HX3 HS3 HA5 X57 HA6 y0 y1 y2 g0 g1 g2 HU A0 R0 HC d2 d25
    refine (implInhabited _ _ _ _ _ _ HRM.out.toDecls (by omega)).mono ?_
    rw [EM.out]
    rintro e w9 ⟨r9, m9, c9, rfl, hc9, o9, q9⟩
    have hm9 : m9 ≤ 5 := by have h1 := o9.1; have h2 := LM.out; omega
    have O9 := Lib.hid o9
    have OW9 := Lib.hid (OW.out.ext q9 (fun _ _ h => h))
    clear o9
    go_wp2_with fail
    refine (isIn_yes _ _ _ _ _ _ _ O9.out.read (by omega) MM.out.1).mono ?_
    rintro e w10 ⟨rfl, rfl⟩
    have WB : Hid (withinB (inhL ds) (inhL (moreD ds j)) = true) := decide_eq_true MM.out.2
    go_wp2_with fail
    refine (within_any _ _ _ _ _ _ _ _ _ _ _ OW9.out.read O9.out.read (by omega) (by omega)).mono ?_
    rw [WB.out]
    rintro e w11 ⟨rfl, rfl⟩
    go_wp2_with fail
    go_roundw
    case rel => exact ⟨j + 1, by omega, by go_num, (HK.out.trans HK8.out).trans q9⟩
    case measure => simp [intOf]; omega
end Go.Proofs.Ythdjijhpdgajbaa
