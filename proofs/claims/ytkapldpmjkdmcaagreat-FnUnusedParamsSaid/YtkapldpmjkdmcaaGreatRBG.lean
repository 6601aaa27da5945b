/- UnusedParams of both packages. -/
import Derived.Test.YtkapldpmjkdmcaaGreatRBE
import Derived.Test.YtkapldpmjkdmcaaGreatRBF
import Derived.Test.YtkapldpmjkdmcaaGreatRAZ
namespace Go.Proofs.YtkapldpmjkdmcaaGreat
open Go.RowKit

/-- Which parameters are not mentioned. -/
def unuB (f : FuncL) : List Bool := (List.range f.params.length).map fun (i : Nat) => decide (mE (i : Int) f.body = 0)
theorem unuB_len (f : FuncL) : (unuB f).length = f.params.length := by simp [unuB]
theorem unuB_at {f : FuncL} {i : Nat} (h : i < f.params.length) : bAtL (unuB f) i = decide (mE (i : Int) f.body = 0) := by
  rw [bAtL_eq (by rw [unuB_len]; exact h)]; simp [unuB]
/-- What both functions UnusedParams return. -/
def unusedL (ds : List DeclL) (fs : List FuncL) (z : Int) : List Int := if progOk ds fs = true ∧ 0 ≤ z ∧ z < (fs.length : Int) then idxL (unuB (fAt fs z.toNat)) else []
set_option maxRecDepth 100000 in
set_option maxHeartbeats 4000000 in
theorem specUnusedParams (ds : List DeclL) (fs : List FuncL) (a0 : Option Addr) (n0 c0 : Nat) (a1 : Option Addr) (n1 c1 : Nat) (z : Int) (D0 D1 : Nat → Prop) (w : World) (r0 : Rd w D0 (encDecls ds) (.slice a0 n0 c0)) (r1 : Rd w D1 (encFuncs fs) (.slice a1 n1 c1)) :
    Calls Tryz.prog 23 #[.agg #[.slice a0 n0 c0, .slice a1 n1 c1], .int .i64 z] w fun e w' => ∃ a' n' c', e = .returned (.slice a' n' c') ∧ Rd w' (fun q => w.heap.size ≤ q) (encInts (unusedL ds fs z)) (.slice a' n' c') ∧ Keep w w' := by
  refine calls_k fun Q hQ => ?_
  have K0 := Keep.al w (.cells #[.slice a0 n0 c0, .slice a1 n1 c1] 44)
  have hp : PR w ds fs a0 n0 c0 a1 n1 c1 := ⟨r0.t, r1.t⟩
  have R0 := rowOf w #[.slice a0 n0 c0, .slice a1 n1 c1] 44
  obtain ⟨e1, hnc, hm, hat⟩ := funcs_at hp.2
  have HL := Lib.hid e1
  have HA := Lib.hid hat
  clear e1 hat
  by_cases hv : progOk ds fs = true
  case neg =>
    have HV : Hid (progOk ds fs = false) := by show _ = _; simpa using hv
    have V : Hid (unusedL ds fs z = []) := by show _ = _; rw [unusedL, if_neg (fun h => hv h.1)]
    clear hv
    go_enter Tryz.func23, Tryz.ntmps23
    go_wp2_with fail
    refine (specValidProgram0 ds fs _ _ _ _ _ _ _ _ _ (r0.k K0) (r1.k K0)).mono ?_
    rw [HV.out]
    rintro e w1 ⟨rfl, p1⟩
    go_wp2_with fail
    exact fin_ hQ ⟨none, 0, 0, rfl, by rw [V.out]; exact .nil 1 none 0, K0.trans p1⟩
  have HV := Lib.hid hv
  have hl := progOk_len hv
  have HL4 := Lib.hid hl.2
  rw [HL.out] at hl
  obtain ⟨hl1, hl4⟩ := hl
  by_cases hz : 0 ≤ z ∧ z < (n1 : Int)
  case neg =>
    have V : Hid (unusedL ds fs z = []) := by show _ = _; rw [unusedL, if_neg (fun h => hz ⟨h.2.1, by have := h.2.2; have := HL.out; omega⟩)]
    have HZ : Hid (decide (0 ≤ z ∧ z ≤ (n1 : Int) - 1) = false) := decide_eq_false (by omega)
    clear hz hv
    go_enter Tryz.func23, Tryz.ntmps23
    go_wp2_with fail
    refine (specValidProgram0 ds fs _ _ _ _ _ _ _ _ _ (r0.k K0) (r1.k K0)).mono ?_
    rw [HV.out]
    rintro e w1 ⟨rfl, p1⟩
    have x1 := boxk p1 1
    simp at x1
    go_wp2_with fail
    refine (specInRange _ _ _ _).mono ?_
    rw [HZ.out]
    rintro e w2 ⟨rfl, rfl⟩
    go_wp2_with fail
    exact fin_ hQ ⟨none, 0, 0, rfl, by rw [V.out]; exact .nil 1 none 0, K0.trans p1⟩
  obtain ⟨x, rfl⟩ : ∃ x : Nat, z = (x : Int) := ⟨z.toNat, by omega⟩
  have hx : x < n1 := by omega
  have HX : Hid (x < fs.length) := by have := HL.out; show _ < _; omega
  have HB := Lib.hid (bodyOk_parts (progOk_parts hv).1 HX.out ((progOk_parts hv).2 x HX.out))
  have PT := sigF_at (progOk_parts hv).1 HX.out
  have PL := Lib.hid PT.1
  have HCAL := Lib.hid (progOk_cal hv HX.out)
  have VP : Hid (unusedL ds fs (x : Int) = idxL (unuB (fAt fs x))) := by show _ = _; rw [unusedL, if_pos ⟨hv, by omega, by have := HX.out; omega⟩, Int.toNat_natCast]
  obtain ⟨b, o, rfl, hd, a3, n3, c3, a4, n4, c4, d0, d1, d2, d3, d4, r3, r4⟩ := HA.out x hx
  have HZ : Hid (decide (0 ≤ (x : Int) ∧ (x : Int) ≤ (n1 : Int) - 1) = true) := decide_eq_true (by omega)
  clear hz hv PT d1
  go_enter Tryz.func23, Tryz.ntmps23
  go_wp2_with fail
  refine (specValidProgram0 ds fs _ _ _ _ _ _ _ _ _ (r0.k K0) (r1.k K0)).mono ?_
  rw [HV.out]
  rintro e w1 ⟨rfl, p1⟩
  have RW := row_ext R0 p1 (fun h => h)
  have x0 := RW.cell (i := 0) (by simp)
  have x1 := RW.cell (i := 1) (by simp)
  simp at x0 x1
  go_wp2_with fail
  refine (specInRange _ _ _ _).mono ?_
  rw [HZ.out]
  rintro e w2 ⟨rfl, rfl⟩
  have hKw := K0.trans p1
  have zw := hKw.size
  have g0 := (hKw.cell (World.block_lt_of_cell? w _ d0) (fun h => h)).trans d0
  have g2 := (hKw.cell (World.block_lt_of_cell? w _ d2) (fun h => h)).trans d2
  have g3 := (hKw.cell (World.block_lt_of_cell? w _ d3) (fun h => h)).trans d3
  have g4 := (hKw.cell (World.block_lt_of_cell? w _ d4) (fun h => h)).trans d4
  have q4 := (r4.lt.k hKw)
  clear d0 d2 d3 d4
  have hp3 := (ints_at r3).1
  have hn3 : n3 ≤ 3 := by have := PL.out; omega
  have HP3 := Lib.hid hp3
  have O0 := Lib.hid (ownEmpty w1)
  have KW := Lib.hid hKw
  have G0 := Lib.hid g0
  have G2 := Lib.hid g2
  have G3 := Lib.hid g3
  have G4 := Lib.hid g4
  have Q4 := Lib.hid q4
  clear r3 hp3 g2 g3 g4 q4 hKw
  go_wp2_with fail
  clear x0 x1 g0
  go_loopw [5, 6] (fun v i wr => ∃ (j : Nat) (out : List Int), j ≤ n3 ∧ i = .int .i64 j ∧ Hid (out = idxL ((unuB (fAt fs x)).take j)) ∧ out.length ≤ j ∧ Hid (wr.ownsRow w1.heap.size 3 1 v out.length (out.map (Value.int .i64))) ∧ Keep w1 wr) (fun _ i _ => n3 - (intOf i).toNat)
  case atStart => exact ⟨0, [], Nat.zero_le _, rfl, rfl, Nat.le_refl _, O0.out, Keep.al _ _⟩
  case round =>
    obtain ⟨j, out, hj, rfl, hO, hol, hown, hK⟩ := hrel
    have hbs : w1.heap.size ≤ wr.heap.size := hK.size
    have x1 := (row_ext RW hK (fun h => h)).cell (i := 1) (by simp)
    simp at x1
    have g0 := (hK.cell (World.block_lt_of_cell? _ _ G0.out) (fun h => h)).trans G0.out
    by_cases hlt : j < n3
    · have HJ : Hid (j < (fAt fs x).params.length) := by have := HP3.out; show _ < _; omega
      have HJB : Hid (j < (unuB (fAt fs x)).length) := by show _ < _; rw [unuB_len]; exact HJ.out
      have g2 := (hK.cell (World.block_lt_of_cell? _ _ G2.out) (fun h => h)).trans G2.out
      have g3 := (hK.cell (World.block_lt_of_cell? _ _ G3.out) (fun h => h)).trans G3.out
      have g4 := (hK.cell (World.block_lt_of_cell? _ _ G4.out) (fun h => h)).trans G4.out
      have q5 := Q4.out.k hK
      obtain ⟨m, hm⟩ : ∃ m, mE (j : Int) (.mk (fAt fs x).body.op (fAt fs x).body.num (fAt fs x).body.kids) = m := ⟨_, rfl⟩
      have HM := Lib.hid hm
      have HBA : Hid (bAtL (unuB (fAt fs x)) j = decide (m = 0)) := by show _ = _; rw [unuB_at HJ.out, ← hm, show ExprL.mk (fAt fs x).body.op (fAt fs x).body.num (fAt fs x).body.kids = (fAt fs x).body from by cases (fAt fs x).body; rfl]
      clear hm
      by_cases hm0 : m = 0
      · have HS : Hid (out ++ [(j : Int)] = idxL ((unuB (fAt fs x)).take (j + 1))) := by show _ = _; rw [idxL_take HJB.out, HBA.out, hO.out]; simp [hm0]
        subst hm0
        go_wp2_with (first
          | (go_at_call 61; refine (specMentions_n _ _ _ _ _ (Nat.lt_succ_self _) _ _ _ _ _ q5 HB.out.1).mono ?_; rw [HM.out]; rintro e w3 ⟨rfl, p3⟩; have hown3 := Lib.hid (own_keep hown.out p3 (fun _ _ h => h)); have z3 := p3.size; clear g0 g2 g3 g4 x1)
          | (at_builtin; refine wpList_appInt _ rfl (.tmp 40) (.tmp 42) rfl w1.heap.size u5 out.length out rfl (hown3.out.alloc _) w3.heap.size 1 (j : Int) rfl (by simp [go_sem]) (by omega) (by simp; omega) ?_; intro v' w' ho hg))
        go_roundw
        case rel => exact ⟨j + 1, out ++ [(j : Int)], by omega, by go_num, HS, by simp; omega, by rw [List.length_append]; exact ho, ((hK.trans p3).alloc _).grown hg (fun g hg' => .inl (hown3.out.lt g hg').1)⟩
        case measure => simp [intOf]; omega
      · have HS : Hid (out = idxL ((unuB (fAt fs x)).take (j + 1))) := by show _ = _; rw [idxL_take HJB.out, HBA.out, hO.out]; simp [hm0]
        have hm1 : ((m : Int) == 0) = false := by simpa using hm0
        go_wp2_with (first
          | (go_at_call 61; refine (specMentions_n _ _ _ _ _ (Nat.lt_succ_self _) _ _ _ _ _ q5 HB.out.1).mono ?_; rw [HM.out]; rintro e w3 ⟨rfl, p3⟩; have hown3 := Lib.hid (own_keep hown.out p3 (fun _ _ h => h)); have z3 := p3.size; clear g0 g2 g3 g4 x1))
        go_roundw
        case rel => exact ⟨j + 1, out, by omega, by go_num, HS, by omega, hown3, hK.trans p3⟩
        case measure => simp [intOf]; omega
    · have HJ : Hid ((unuB (fAt fs x)).length ≤ j) := by have := HP3.out; show _ ≤ _; rw [unuB_len]; omega
      go_wp2
      obtain ⟨a2, cc, rfl, hle, hoi⟩ := own_of_row hown.out
      refine fin_ hQ ⟨a2, _, cc, rfl, ?_, KW.out.trans hK⟩
      have e := hO.out
      rw [List.take_of_length_le HJ.out] at e
      rw [VP.out]
      subst e
      exact (hoi.read.toRd hle (by omega)).mono (fun q hq => by have := KW.out.size; change w1.heap.size ≤ q at hq; omega)

set_option maxRecDepth 100000 in
set_option maxHeartbeats 4000000 in
theorem implUnusedParams (ds : List DeclL) (fs : List FuncL) (a0 : Option Addr) (n0 c0 : Nat) (a1 : Option Addr) (n1 c1 : Nat) (z : Int) (D0 D1 : Nat → Prop) (w : World) (r0 : Rd w D0 (encDecls ds) (.slice a0 n0 c0)) (r1 : Rd w D1 (encFuncs fs) (.slice a1 n1 c1)) (hfit : fitP fs) :
    Calls Tryz.prog 21 #[.agg #[.slice a0 n0 c0, .slice a1 n1 c1], .int .i64 z] w fun e w' => ∃ a' n' c', e = .returned (.slice a' n' c') ∧ Own w' (fun q => w.heap.size ≤ q) (encInts (unusedL ds fs z)) (.slice a' n' c') ∧ Keep w w' := by
  refine calls_k fun Q hQ => ?_
  have HFT := Lib.hid hfit
  clear hfit
  have K0 := Keep.al w (.cells #[.slice a0 n0 c0, .slice a1 n1 c1] 44)
  have hp : PR w ds fs a0 n0 c0 a1 n1 c1 := ⟨r0.t, r1.t⟩
  have R0 := rowOf w #[.slice a0 n0 c0, .slice a1 n1 c1] 44
  obtain ⟨e1, hnc, hm, hat⟩ := funcs_at hp.2
  have HL := Lib.hid e1
  have HA := Lib.hid hat
  clear e1 hat
  by_cases hv : progOk ds fs = true
  case neg =>
    have HV : Hid (progOk ds fs = false) := by show _ = _; simpa using hv
    have V : Hid (unusedL ds fs z = []) := by show _ = _; rw [unusedL, if_neg (fun h => hv h.1)]
    clear hv
    go_enter Tryz.func21, Tryz.ntmps21
    go_wp2_with fail
    refine (implValidProgram ds fs _ _ _ _ _ _ _ _ _ (r0.k K0) (r1.k K0) HFT.out).mono ?_
    rw [HV.out]
    rintro e w1 ⟨rfl, p1⟩
    go_wp2_with fail
    exact fin_ hQ ⟨none, 0, 0, rfl, by rw [V.out]; exact .nil _ 1 none 0, K0.trans p1⟩
  have HV := Lib.hid hv
  have hl := progOk_len hv
  have HL4 := Lib.hid hl.2
  rw [HL.out] at hl
  obtain ⟨hl1, hl4⟩ := hl
  by_cases hz : 0 ≤ z ∧ z < (n1 : Int)
  case neg =>
    have V : Hid (unusedL ds fs z = []) := by show _ = _; rw [unusedL, if_neg (fun h => hz ⟨h.2.1, by have := h.2.2; have := HL.out; omega⟩)]
    by_cases hz0 : z < 0
    · have hz1 : decide (z < 0) = true := decide_eq_true hz0
      clear hz hv
      go_enter Tryz.func21, Tryz.ntmps21
      go_wp2_with fail
      refine (implValidProgram ds fs _ _ _ _ _ _ _ _ _ (r0.k K0) (r1.k K0) HFT.out).mono ?_
      rw [HV.out]
      rintro e w1 ⟨rfl, p1⟩
      have x1 := boxk p1 1
      simp at x1
      go_wp2_with fail
      exact fin_ hQ ⟨none, 0, 0, rfl, by rw [V.out]; exact .nil _ 1 none 0, K0.trans p1⟩
    have hz1 : decide (z < 0) = false := decide_eq_false hz0
    have hz2 : (n1 : Int) ≤ z := by omega
    clear hz hv
    go_enter Tryz.func21, Tryz.ntmps21
    go_wp2_with fail
    refine (implValidProgram ds fs _ _ _ _ _ _ _ _ _ (r0.k K0) (r1.k K0) HFT.out).mono ?_
    rw [HV.out]
    rintro e w1 ⟨rfl, p1⟩
    have x1 := boxk p1 1
    simp at x1
    go_wp2_with fail
    exact fin_ hQ ⟨none, 0, 0, rfl, by rw [V.out]; exact .nil _ 1 none 0, K0.trans p1⟩
  obtain ⟨x, rfl⟩ : ∃ x : Nat, z = (x : Int) := ⟨z.toNat, by omega⟩
  have hx : x < n1 := by omega
  have HX : Hid (x < fs.length) := by have := HL.out; show _ < _; omega
  have HB := Lib.hid (bodyOk_parts (progOk_parts hv).1 HX.out ((progOk_parts hv).2 x HX.out))
  have PT := sigF_at (progOk_parts hv).1 HX.out
  have PL := Lib.hid PT.1
  have HCAL := Lib.hid (progOk_cal hv HX.out)
  have VP : Hid (unusedL ds fs (x : Int) = idxL (unuB (fAt fs x))) := by show _ = _; rw [unusedL, if_pos ⟨hv, by omega, by have := HX.out; omega⟩, Int.toNat_natCast]
  obtain ⟨b, o, rfl, hd, a3, n3, c3, a4, n4, c4, d0, d1, d2, d3, d4, r3, r4⟩ := HA.out x hx
  have hz1 : decide ((x : Int) < 0) = false := decide_eq_false (by omega)
  clear hz hv PT d1
  go_enter Tryz.func21, Tryz.ntmps21
  go_wp2_with fail
  refine (implValidProgram ds fs _ _ _ _ _ _ _ _ _ (r0.k K0) (r1.k K0) HFT.out).mono ?_
  rw [HV.out]
  rintro e w1 ⟨rfl, p1⟩
  have RW := row_ext R0 p1 (fun h => h)
  have x0 := RW.cell (i := 0) (by simp)
  have x1 := RW.cell (i := 1) (by simp)
  simp at x0 x1
  have hKw := K0.trans p1
  have zw := hKw.size
  have g0 := (hKw.cell (World.block_lt_of_cell? w _ d0) (fun h => h)).trans d0
  have g2 := (hKw.cell (World.block_lt_of_cell? w _ d2) (fun h => h)).trans d2
  have g3 := (hKw.cell (World.block_lt_of_cell? w _ d3) (fun h => h)).trans d3
  have g4 := (hKw.cell (World.block_lt_of_cell? w _ d4) (fun h => h)).trans d4
  have q4 := (r4.lt.k hKw)
  clear d0 d2 d3 d4
  have hp3 := (ints_at r3).1
  have hn3 : n3 ≤ 3 := by have := PL.out; omega
  have HP3 := Lib.hid hp3
  have KW := Lib.hid hKw
  have G2 := Lib.hid g2
  have G3 := Lib.hid g3
  have G4 := Lib.hid g4
  have Q4 := Lib.hid q4
  clear r3 hp3 g2 g3 g4 q4 hKw
  go_wp2_with (at_make; refine wpList_makeN _ rfl _ _ 96 rfl 4 (.bool false) #[.bool false] 1 1 Tryz.underlying96 (by kernel_rfl) rfl rfl n3 rfl rfl (by omega) (by omega) ?_; intro w2 hr hk hsz; clear x0 x1 g0)
  have R1 := Lib.hid (show w2.rowIs w1.heap.size 4 n3 (fun i => .bool (decide (i < 0) && bAtL (unuB (fAt fs x)) i)) by
    rw [Nat.mul_one] at hr
    refine hr.congr (fun i hi => ?_)
    rw [Nat.mod_one]
    simp)
  have K2 := Lib.hid hk
  clear hr hk hsz
  go_loopw [31] (fun i wr => ∃ j : Nat, j ≤ n3 ∧ i = .int .i64 j ∧ Hid (wr.rowIs w1.heap.size 4 n3 (fun i => .bool (decide (i < j) && bAtL (unuB (fAt fs x)) i))) ∧ Ext (fun q => q = w1.heap.size) w2 wr) (fun i _ => n3 - (intOf i).toNat)
  case atStart => exact ⟨0, Nat.zero_le _, rfl, R1, Ext.refl _ _⟩
  case round =>
    obtain ⟨j, hj, rfl, hR, hK⟩ := hrel
    have K1 : Ext (fun q => q = w1.heap.size) w1 wr := (Keep.to K2.out).trans hK
    by_cases hlt : j < n3
    · have x1 := (row_ext RW K1 (fun h => by have h2 : w.heap.size = w1.heap.size := h; have := RW.lt; omega)).cell (i := 1) (by simp)
      simp at x1
      have HJ : Hid (j < (fAt fs x).params.length) := by have := HP3.out; show _ < _; omega
      have l2 := World.block_lt_of_cell? _ _ G2.out
      have l4 := World.block_lt_of_cell? _ _ G4.out
      change b < w1.heap.size at l2
      have g2 := (K1.cell (World.block_lt_of_cell? _ _ G2.out) (fun h => by simp at h; omega)).trans G2.out
      have g3 := (K1.cell (World.block_lt_of_cell? _ _ G3.out) (fun h => by simp at h; omega)).trans G3.out
      have g4 := (K1.cell (World.block_lt_of_cell? _ _ G4.out) (fun h => by simp at h; omega)).trans G4.out
      have q5 := Q4.out.ext K1 (fun q hq h => by have h1 := hq.2; have h2 := KW.out.size; omega)
      obtain ⟨m, hm⟩ : ∃ m, mE (j : Int) (.mk (fAt fs x).body.op (fAt fs x).body.num (fAt fs x).body.kids) = m := ⟨_, rfl⟩
      have HM : Hid (mentL (j : Int) (fAt fs x).body.op (fAt fs x).body.num (fAt fs x).body.kids = (m : Int)) := by show _ = _; rw [mentL_yes HB.out.1, hm]
      have HBA : Hid (bAtL (unuB (fAt fs x)) j = decide (m = 0)) := by show _ = _; rw [unuB_at HJ.out, ← hm, show ExprL.mk (fAt fs x).body.op (fAt fs x).body.num (fAt fs x).body.kids = (fAt fs x).body from by cases (fAt fs x).body; rfl]
      have hm1 : ((m : Int) == 0) = decide (m = 0) := by
        by_cases h : m = 0
        · subst h; rfl
        · rw [decide_eq_false h]; simpa using h
      obtain ⟨bb, hbb⟩ : ∃ bb, decide (m = 0) = bb := ⟨_, rfl⟩
      rw [hbb] at hm1
      have HBB : Hid (bAtL (unuB (fAt fs x)) j = bb) := by show _ = _; rw [HBA.out, hbb]
      clear hm hbb HBA l2 l4
      have hlg := hR.out.lt
      go_wp2_with (first
        | (go_at_call 58; refine (implMentionsOf _ _ _ _ _ _ _ _ _ q5).mono ?_; rw [HM.out]; rintro e w3 ⟨rfl, p3⟩; have R3 := Lib.hid (row_ext hR.out p3 (fun h => h)); have y3 := R3.out.cell hlt; have f3 := R3.out.frozen j; have hlg3 := R3.out.lt; clear g2 g3 g4 x1))
      have XX := Lib.hid ((hK.trans (Keep.to p3)).setCell (p := ⟨w1.heap.size, j, none⟩) (.inr rfl) (.bool bb))
      have R4 := Lib.hid ((R3.out.set j (.bool bb)).congr (g := fun i => .bool (decide (i < j + 1) && bAtL (unuB (fAt fs x)) i)) (fun i hi => by
        by_cases e : i = j
        · subst e
          rw [if_pos rfl, HBB.out]; simp
        · rw [if_neg e]
          congr 2
          by_cases h : i < j
          · rw [decide_eq_true h, decide_eq_true (by omega)]
          · rw [decide_eq_false h, decide_eq_false (by omega)]))
      go_roundw
      case rel => exact ⟨j + 1, by omega, by go_num, R4, XX.out⟩
      case measure => simp [intOf]; omega
    · have HJ : Hid (j = n3) := by show _ = _; omega
      have R5 := Lib.hid (hR.out.congr (g := fun i => .bool (bAtL (unuB (fAt fs x)) i)) (fun i hi => by rw [decide_eq_true (by have := HJ.out; omega)]; simp))
      go_wp2_with fail
      refine (implIndicesOf _ _ _ (unuB (fAt fs x)) _ R5.out (by rw [unuB_len]; exact HP3.out) (by omega)).mono ?_
      rintro e w3 ⟨a', n', c', rfl, hn', o3, p3⟩
      have O3 := Lib.hid o3
      clear o3
      go_wp2_with fail
      refine fin_ hQ ⟨a', n', c', rfl, ?_, (KW.out.then_ K1 (fun i hi h => by have := KW.out.size; omega)).trans p3⟩
      rw [VP.out]
      refine (O3.out.toOwn hn' ?_).mono (fun q hq => by have := K1.size; have := KW.out.size; omega)
      have h1 := O3.out.1
      have h2 := idxL_len (unuB (fAt fs x))
      rw [unuB_len] at h2
      have := HP3.out
      omega
end Go.Proofs.YtkapldpmjkdmcaaGreat
/- CalleesOf of both packages. -/
namespace Go.Proofs.YtkapldpmjkdmcaaGreat
open Go.RowKit

/-- What both functions CalleesOf return. -/
def calleesL (ds : List DeclL) (fs : List FuncL) (z : Int) : List Int := if progOk ds fs = true ∧ 0 ≤ z ∧ z < (fs.length : Int) then calL (fAt fs z.toNat).body else []
end Go.Proofs.YtkapldpmjkdmcaaGreat
/- The functions that are reached from one, plain: by rounds of insertion, and by a list of work. -/
namespace Go.Proofs.YtkapldpmjkdmcaaGreat
open Go.RowKit

/-- Reached from f. -/
inductive Rch (cal : Nat → List Int) (f : Int) : Int → Prop
  | base : Rch cal f f
  | step (i : Nat) (x : Int) : Rch cal f i → x ∈ cal i → Rch cal f x

theorem asc_sub : ∀ {xs ys : List Int}, Asc xs → Asc ys → (∀ x, x ∈ xs → x ∈ ys) → xs.length ≤ ys.length ∧ (ys.length ≤ xs.length → xs = ys)
  | [], ys, _, _, _ => ⟨Nat.zero_le _, fun h => (List.eq_nil_of_length_eq_zero (by simpa using h)).symm⟩
  | x :: xs, [], _, _, h => absurd (h x (by simp)) (by simp)
  | x :: xs, y :: ys, hx, hy, h => by
    obtain ⟨hx1, hx2⟩ := List.pairwise_cons.1 hx
    obtain ⟨hy1, hy2⟩ := List.pairwise_cons.1 hy
    by_cases e : x = y
    · subst e
      obtain ⟨h1, h2⟩ := asc_sub hx2 hy2 (fun z hz => by
        rcases List.mem_cons.1 (h z (by simp [hz])) with rfl | hm
        · have := hx1 z hz; omega
        · exact hm)
      exact ⟨by simpa using h1, fun hl => by rw [h2 (by simpa using hl)]⟩
    · have hxy : x ∈ ys := by
        rcases List.mem_cons.1 (h x (by simp)) with e' | hm
        · exact absurd e' e
        · exact hm
      have hgt := hy1 x hxy
      obtain ⟨h1, _⟩ := asc_sub hx hy2 (fun z hz => by
        rcases List.mem_cons.1 (h z hz) with rfl | hm
        · rcases List.mem_cons.1 hz with rfl | hz
          · omega
          · have := hx1 z hz; omega
        · exact hm)
      simp only [List.length_cons] at h1 ⊢
      exact ⟨by omega, fun hl => by omega⟩
theorem asc_upto (n : Nat) : Asc ((List.range n).map Int.ofNat) := by
  rw [Asc, List.pairwise_map]
  exact List.pairwise_lt_range.imp (fun h => by simpa using h)
theorem asc_len {xs : List Int} {n : Nat} (h : Asc xs) (hr : ∀ x, x ∈ xs → 0 ≤ x ∧ x < (n : Int)) : xs.length ≤ n := by
  have := (asc_sub h (asc_upto n) (fun x hx => by
    obtain ⟨h1, h2⟩ := hr x hx
    exact List.mem_map.2 ⟨x.toNat, List.mem_range.2 (by omega), by simp [Int.toNat_of_nonneg h1]⟩)).1
  simpa using this

def insAll (out : List Int) (xs : List Int) : List Int := xs.foldl insL out
theorem insAll_mem (xs : List Int) : ∀ (out : List Int) (x : Int), x ∈ insAll out xs ↔ x ∈ out ∨ x ∈ xs := by
  induction xs with
  | nil => intro out x; simp [insAll]
  | cons y ys ih =>
    intro out x
    have := ih (insL out y) x
    simp only [insAll, List.foldl_cons] at this ⊢
    rw [this, insL_mem, List.mem_cons]
    constructor
    · rintro ((h | h) | h)
      · exact .inr (.inl h)
      · exact .inl h
      · exact .inr (.inr h)
    · rintro (h | h | h)
      · exact .inl (.inr h)
      · exact .inl (.inl h)
      · exact .inr h
theorem insAll_asc (xs : List Int) : ∀ {out : List Int}, Asc out → Asc (insAll out xs) := by
  induction xs with
  | nil => intro out h; exact h
  | cons y ys ih => intro out h; exact ih (insL_asc h)
/-- What one round does up to a function. -/
def rndAt (cal : Nat → List Int) (out : List Int) (i : Nat) : List Int := if (i : Int) ∈ out then insAll out (cal i) else out
def rndTo (cal : Nat → List Int) (out : List Int) : Nat → List Int
  | 0 => out
  | i + 1 => rndAt cal (rndTo cal out i) i
/-- What all rounds do. -/
def rnds (cal : Nat → List Int) (n : Nat) (f : Int) : Nat → List Int
  | 0 => [f]
  | k + 1 => rndTo cal (rnds cal n f k) n
def reachL (cal : Nat → List Int) (n : Nat) (f : Int) : List Int := rnds cal n f n

section
variable {cal : Nat → List Int} {n : Nat} {f : Int}
theorem rndAt_asc {out : List Int} (h : Asc out) (i : Nat) : Asc (rndAt cal out i) := by
  unfold rndAt; split
  · exact insAll_asc _ h
  · exact h
theorem rndAt_sub {out : List Int} (i : Nat) {x : Int} (h : x ∈ out) : x ∈ rndAt cal out i := by
  unfold rndAt; split
  · exact (insAll_mem _ _ _).2 (.inl h)
  · exact h
theorem rndTo_asc {out : List Int} (h : Asc out) (i : Nat) : Asc (rndTo cal out i) := by
  induction i with
  | zero => exact h
  | succ i ih => exact rndAt_asc ih i
theorem rndTo_le {out : List Int} {i k : Nat} (hik : i ≤ k) {x : Int} (h : x ∈ rndTo cal out i) : x ∈ rndTo cal out k := by
  induction k with
  | zero => obtain rfl : i = 0 := by omega
            exact h
  | succ k ih =>
    by_cases e : i = k + 1
    · subst e; exact h
    · exact rndAt_sub k (ih (by omega))
theorem rndTo_cal {out : List Int} {i : Nat} (hi : i < n) (hm : (i : Int) ∈ out) {x : Int} (hx : x ∈ cal i) : x ∈ rndTo cal out n := by
  refine rndTo_le (i := i + 1) (by omega) ?_
  have hm2 : (i : Int) ∈ rndTo cal out i := rndTo_le (i := 0) (Nat.zero_le _) hm
  show x ∈ rndAt cal _ i
  rw [rndAt, if_pos hm2]
  exact (insAll_mem _ _ _).2 (.inr hx)
theorem rndTo_rch {out : List Int} (h : ∀ x, x ∈ out → Rch cal f x) (i : Nat) : ∀ x, x ∈ rndTo cal out i → Rch cal f x := by
  induction i with
  | zero => exact h
  | succ i ih =>
    intro x hx
    change x ∈ rndAt cal _ i at hx
    unfold rndAt at hx
    split at hx
    · next hm =>
      rcases (insAll_mem _ _ _).1 hx with h1 | h1
      · exact ih x h1
      · exact .step i x (ih _ hm) h1
    · exact ih x hx
theorem rnds_asc (k : Nat) : Asc (rnds cal n f k) := by
  induction k with
  | zero => simp [rnds, Asc]
  | succ k ih => exact rndTo_asc ih n
theorem rnds_rch (k : Nat) : ∀ x, x ∈ rnds cal n f k → Rch cal f x := by
  induction k with
  | zero => intro x hx; rw [rnds, List.mem_singleton] at hx; subst hx; exact .base
  | succ k ih => exact rndTo_rch ih n
theorem rnds_has (k : Nat) : f ∈ rnds cal n f k := by
  induction k with
  | zero => simp [rnds]
  | succ k ih => exact rndTo_le (i := 0) (Nat.zero_le _) ih
/-- Closed below n. -/
def Closed (cal : Nat → List Int) (n : Nat) (out : List Int) : Prop := ∀ i : Nat, i < n → (i : Int) ∈ out → ∀ x, x ∈ cal i → x ∈ out
theorem closed_same {out : List Int} (hA : Asc out) (h : Closed cal n out) (i : Nat) (hi : i ≤ n) : rndTo cal out i = out := by
  induction i with
  | zero => rfl
  | succ i ih =>
    rw [rndTo, ih (by omega), rndAt]
    split
    · next hm =>
      refine asc_ext (insAll_asc _ hA) hA (fun x => ?_)
      rw [insAll_mem]
      exact ⟨fun hx => hx.elim id (h i (by omega) hm x), .inl⟩
    · rfl
theorem rch_range (hf : 0 ≤ f ∧ f < (n : Int)) (hc : ∀ i, i < n → ∀ x, x ∈ cal i → 0 ≤ x ∧ x < (n : Int)) {x : Int} (h : Rch cal f x) : 0 ≤ x ∧ x < (n : Int) := by
  induction h with
  | base => exact hf
  | step i x _ hx ih => exact hc i (by omega) x hx
theorem rnds_closed (k : Nat) : Closed cal n (rnds cal n f k) ∨ k + 1 ≤ (rnds cal n f k).length := by
  induction k with
  | zero => right; simp [rnds]
  | succ k ih =>
    rcases ih with ih | ih
    · left
      rw [rnds, closed_same (rnds_asc k) ih n (Nat.le_refl _)]; exact ih
    · obtain ⟨h1, h2⟩ := asc_sub (rnds_asc (cal := cal) (n := n) (f := f) k) (rnds_asc (k + 1)) (fun x hx => rndTo_le (i := 0) (Nat.zero_le _) hx)
      by_cases hl : (rnds cal n f (k + 1)).length ≤ (rnds cal n f k).length
      · left
        have e := h2 hl
        intro i hi hm x hx
        rw [← e] at hm
        exact rndTo_cal hi hm hx
      · right; omega
theorem reachL_closed (hf : 0 ≤ f ∧ f < (n : Int)) (hc : ∀ i, i < n → ∀ x, x ∈ cal i → 0 ≤ x ∧ x < (n : Int)) : Closed cal n (reachL cal n f) := by
  rcases rnds_closed n with h | h
  · exact h
  · have := asc_len (rnds_asc n) (fun x hx => rch_range hf hc (rnds_rch (cal := cal) (n := n) n x hx))
    omega
theorem reachL_mem (hf : 0 ≤ f ∧ f < (n : Int)) (hc : ∀ i, i < n → ∀ x, x ∈ cal i → 0 ≤ x ∧ x < (n : Int)) (x : Int) : x ∈ reachL cal n f ↔ Rch cal f x := by
  refine ⟨rnds_rch n x, fun h => ?_⟩
  induction h with
  | base => exact rnds_has n
  | step i x h hx ih =>
    have := rch_range hf hc h
    exact reachL_closed hf hc i (by omega) ih x hx
theorem reachL_asc : Asc (reachL cal n f) := rnds_asc n
end

/-- How many are not marked. -/
def unm : List Bool → Nat
  | [] => 0
  | b :: bs => (if b = true then 0 else 1) + unm bs
theorem bAtL_set {bs : List Bool} {i j : Nat} (hi : i < bs.length) : bAtL (bs.set i true) j = (decide (i = j) || bAtL bs j) := by
  by_cases e : i = j
  · subst e
    rw [bAtL_eq (by simpa using hi)]; simp
  · simp [bAtL, e]

/-- What holds when the program looks at its list of work; `done`: callees of `cur` that were looked at. -/
structure WorkI (cal : Nat → List Int) (n : Nat) (f : Int) (bs : List Bool) (wk : List Int) : Prop where
  len : bs.length = n
  has : bAtL bs f.toNat = true
  rch : ∀ i, i < n → bAtL bs i = true → Rch cal f i
  work : ∀ x, x ∈ wk → 0 ≤ x ∧ x < (n : Int) ∧ bAtL bs x.toNat = true
  closed : ∀ i : Nat, i < n → bAtL bs i = true → (i : Int) ∈ wk ∨ ∀ x, x ∈ cal i → bAtL bs x.toNat = true
section
variable {cal : Nat → List Int} {n : Nat} {f : Int} {bs : List Bool} {wk : List Int}
theorem WorkI.start (hf : 0 ≤ f ∧ f < (n : Int)) : WorkI cal n f ((List.replicate n false).set f.toNat true) [f] := by
  have hl : f.toNat < (List.replicate n false).length := by simp; omega
  have h0 : ∀ j, bAtL (List.replicate n false) j = false := fun j => by
    by_cases h : j < n
    · simp [bAtL, h]
    · simp [bAtL, h]
  refine ⟨by simp, by rw [bAtL_set hl]; simp, fun i hi hb => ?_, fun x hx => ?_, fun i hi hb => ?_⟩
  · rw [bAtL_set hl, h0] at hb
    have : f.toNat = i := by simpa using hb
    have e : (i : Int) = f := by omega
    rw [e]; exact .base
  · rw [List.mem_singleton] at hx
    subst hx
    exact ⟨hf.1, hf.2, by rw [bAtL_set hl]; simp⟩
  · rw [bAtL_set hl, h0] at hb
    have : f.toNat = i := by simpa using hb
    left
    rw [List.mem_singleton]; omega
/-- One callee that is marked goes to the end. -/
theorem WorkI.push (h : WorkI cal n f bs wk) {i : Nat} (hi : i < n) (hb : bAtL bs i = true) {x : Int} (hx : x ∈ cal i) (hr : 0 ≤ x ∧ x < (n : Int)) : WorkI cal n f (bs.set x.toNat true) (wk ++ [x]) := by
  have hl : x.toNat < bs.length := by rw [h.len]; omega
  have mono : ∀ j, bAtL bs j = true → bAtL (bs.set x.toNat true) j = true := fun j hj => by rw [bAtL_set hl, hj]; simp
  refine ⟨by rw [List.length_set]; exact h.len, mono _ h.has, fun j hj hbj => ?_, fun y hy => ?_, fun j hj hbj => ?_⟩
  · rw [bAtL_set hl] at hbj
    simp only [Bool.or_eq_true, decide_eq_true_eq] at hbj
    rcases hbj with e | e
    · have e2 : (j : Int) = x := by omega
      rw [e2]; exact .step i x (h.rch i hi hb) hx
    · exact h.rch j hj e
  · rcases List.mem_append.1 hy with hy | hy
    · obtain ⟨h1, h2, h3⟩ := h.work y hy
      exact ⟨h1, h2, mono _ h3⟩
    · rw [List.mem_singleton] at hy
      subst hy
      exact ⟨hr.1, hr.2, by rw [bAtL_set hl]; simp⟩
  · rw [bAtL_set hl] at hbj
    simp only [Bool.or_eq_true, decide_eq_true_eq] at hbj
    rcases hbj with e | e
    · left
      rw [List.mem_append, List.mem_singleton]
      right; omega
    · rcases h.closed j hj e with h1 | h1
      · left; rw [List.mem_append]; exact .inl h1
      · right; exact fun y hy => mono _ (h1 y hy)
theorem WorkI.done (h : WorkI cal n f bs []) (hf : 0 ≤ f ∧ f < (n : Int)) (hc : ∀ i, i < n → ∀ x, x ∈ cal i → 0 ≤ x ∧ x < (n : Int)) : idxL bs = reachL cal n f := by
  refine asc_ext (idxL_asc _) reachL_asc (fun x => ?_)
  rw [idxL_mem, reachL_mem hf hc]
  constructor
  · rintro ⟨i, hi, rfl, hb⟩
    exact h.rch i (by have := h.len; omega) hb
  · intro hr
    have key : bAtL bs x.toNat = true := by
      induction hr with
      | base => exact h.has
      | step i x hr hx ih =>
        have hi := rch_range hf hc hr
        rcases h.closed i (by omega) (by simpa using ih) with h1 | h1
        · simp at h1
        · exact h1 x hx
    have hx := rch_range hf hc hr
    exact ⟨x.toNat, by have := h.len; omega, by omega, key⟩
end
end Go.Proofs.YtkapldpmjkdmcaaGreat
