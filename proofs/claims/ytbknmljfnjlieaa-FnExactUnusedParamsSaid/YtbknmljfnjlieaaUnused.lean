/- UnusedParams of both packages. -/
import Derived.Test.YtbknmljfnjlieaaValidProg
import Derived.Test.YtbknmljfnjlieaaGD
import Derived.Test.YtbknmljfnjlieaaMentions
namespace Go.Proofs.Ytbknmljfnjlieaa
open Go.RowKit

/-- Which parameters are not mentioned. -/
def unuB (f : FuncL) : List Bool := (List.range f.params.length).map fun (i : Nat) => decide (mE (i : Int) f.body = 0)
theorem unuB_len (f : FuncL) : (unuB f).length = f.params.length := by simp [unuB]
theorem unuB_at {f : FuncL} {i : Nat} (h : i < f.params.length) : bAtL (unuB f) i = decide (mE (i : Int) f.body = 0) := by
  rw [bAtL_eq (by rw [unuB_len]; exact h)]; simp [unuB]
/-- What both functions UnusedParams return. -/
def unusedL (ds : List DeclL) (fs : List FuncL) (z : Int) : List Int := if progOk ds fs = true ∧ 0 ≤ z ∧ z < (fs.length : Int) then idxL (unuB (fAt fs z.toNat)) else []
theorem unusedL_len (ds : List DeclL) (fs : List FuncL) (z : Int) : (unusedL ds fs z).length ≤ 3 := by
  unfold unusedL
  split
  · next h =>
    have hx : z.toNat < fs.length := by omega
    have := (sigF_at (progOk_parts h.1).1 hx).1
    have h2 := idxL_len (unuB (fAt fs z.toNat))
    rw [unuB_len] at h2
    omega
  · simp

set_option maxRecDepth 100000 in
set_option maxHeartbeats 4000000 in
theorem specUnusedParams (ds : List DeclL) (fs : List FuncL) (a0 : Option Addr) (n0 c0 : Nat) (a1 : Option Addr) (n1 c1 : Nat) (z : Int) (D0 D1 : Nat → Prop) (w : World) (r0 : Rd w D0 (encDecls ds) (.slice a0 n0 c0)) (r1 : Rd w D1 (encFuncs fs) (.slice a1 n1 c1)) :
    Calls Try.prog 22 #[.agg #[.slice a0 n0 c0, .slice a1 n1 c1], .int .i64 z] w fun e w' => ∃ a' n' c', e = .returned (.slice a' n' c') ∧ Rd w' (fun q => w.heap.size ≤ q) (encInts (unusedL ds fs z)) (.slice a' n' c') ∧ Keep w w' := by
  refine calls_k fun Q hQ => ?_
  have K0 := Keep.al w (.cells #[.slice a0 n0 c0, .slice a1 n1 c1] 36)
  have hp : PR w ds fs a0 n0 c0 a1 n1 c1 := ⟨r0.t, r1.t⟩
  have R0 := rowOf w #[.slice a0 n0 c0, .slice a1 n1 c1] 36
  obtain ⟨e1, hnc, hm, hat⟩ := funcs_at hp.2
  have HL := Lib.hid e1
  have HA := Lib.hid hat
  clear e1 hat
  by_cases hv : progOk ds fs = true
  case neg =>
    have HV : Hid (progOk ds fs = false) := by show _ = _; simpa using hv
    have V : Hid (unusedL ds fs z = []) := by show _ = _; rw [unusedL, if_neg (fun h => hv h.1)]
    clear hv
    go_enter Try.func22, Try.ntmps22
    go_wp2_with fail
    refine (specValidProgram0 ds fs _ _ _ _ _ _ _ _ _ (r0.k K0) (r1.k K0)).mono ?_
    rw [HV.out]
    rintro e w1 ⟨rfl, p1⟩
    go_wp2_with fail
    exact fin_ hQ ⟨none, 0, 0, rfl, by rw [V.out]; exact .nil 1 none 0, K0.trans p1⟩
  have HV := Lib.hid hv
  have hl := progOk_len hv
  have HL4 := Lib.hid hl.2
  rw [HL.out] at hl
  obtain ⟨hl1, hl4⟩ := hl
  by_cases hz : 0 ≤ z ∧ z < (n1 : Int)
  case neg =>
    have V : Hid (unusedL ds fs z = []) := by show _ = _; rw [unusedL, if_neg (fun h => hz ⟨h.2.1, by have := h.2.2; have := HL.out; omega⟩)]
    have HZ : Hid (decide (0 ≤ z ∧ z ≤ (n1 : Int) - 1) = false) := decide_eq_false (by omega)
    clear hz hv
    go_enter Try.func22, Try.ntmps22
    go_wp2_with fail
    refine (specValidProgram0 ds fs _ _ _ _ _ _ _ _ _ (r0.k K0) (r1.k K0)).mono ?_
    rw [HV.out]
    rintro e w1 ⟨rfl, p1⟩
    have x1 := boxk p1 1
    simp at x1
    go_wp2_with fail
    refine (specInRange _ _ _ _).mono ?_
    rw [HZ.out]
    rintro e w2 ⟨rfl, rfl⟩
    go_wp2_with fail
    exact fin_ hQ ⟨none, 0, 0, rfl, by rw [V.out]; exact .nil 1 none 0, K0.trans p1⟩
  obtain ⟨x, rfl⟩ : ∃ x : Nat, z = (x : Int) := ⟨z.toNat, by omega⟩
  have hx : x < n1 := by omega
  have HX : Hid (x < fs.length) := by have := HL.out; show _ < _; omega
  have HB := Lib.hid (bodyOk_parts (progOk_parts hv).1 HX.out ((progOk_parts hv).2 x HX.out))
  have PT := sigF_at (progOk_parts hv).1 HX.out
  have PL := Lib.hid PT.1
  have HCAL := Lib.hid (progOk_cal hv HX.out)
  have VP : Hid (unusedL ds fs (x : Int) = idxL (unuB (fAt fs x))) := by show _ = _; rw [unusedL, if_pos ⟨hv, by omega, by have := HX.out; omega⟩, Int.toNat_natCast]
  obtain ⟨b, o, rfl, hd, a3, n3, c3, a4, n4, c4, d0, d1, d2, d3, d4, r3, r4⟩ := HA.out x hx
  have HZ : Hid (decide (0 ≤ (x : Int) ∧ (x : Int) ≤ (n1 : Int) - 1) = true) := decide_eq_true (by omega)
  clear hz hv PT d1
  go_enter Try.func22, Try.ntmps22
  go_wp2_with fail
  refine (specValidProgram0 ds fs _ _ _ _ _ _ _ _ _ (r0.k K0) (r1.k K0)).mono ?_
  rw [HV.out]
  rintro e w1 ⟨rfl, p1⟩
  have RW := row_ext R0 p1 (fun h => h)
  have x0 := RW.cell (i := 0) (by simp)
  have x1 := RW.cell (i := 1) (by simp)
  simp at x0 x1
  go_wp2_with fail
  refine (specInRange _ _ _ _).mono ?_
  rw [HZ.out]
  rintro e w2 ⟨rfl, rfl⟩
  have hKw := K0.trans p1
  have zw := hKw.size
  have g0 := (hKw.cell (World.block_lt_of_cell? w _ d0) (fun h => h)).trans d0
  have g2 := (hKw.cell (World.block_lt_of_cell? w _ d2) (fun h => h)).trans d2
  have g3 := (hKw.cell (World.block_lt_of_cell? w _ d3) (fun h => h)).trans d3
  have g4 := (hKw.cell (World.block_lt_of_cell? w _ d4) (fun h => h)).trans d4
  have q4 := (r4.lt.k hKw)
  clear d0 d2 d3 d4
  have hp3 := (ints_at r3).1
  have hn3 : n3 ≤ 3 := by have := PL.out; omega
  have HP3 := Lib.hid hp3
  have O0 := Lib.hid (ownEmpty w1)
  have KW := Lib.hid hKw
  have G0 := Lib.hid g0
  have G2 := Lib.hid g2
  have G3 := Lib.hid g3
  have G4 := Lib.hid g4
  have Q4 := Lib.hid q4
  clear r3 hp3 g2 g3 g4 q4 hKw
  go_wp2_with fail
  clear x0 x1 g0
  go_loopw [5, 6] (fun v i wr => ∃ (j : Nat) (out : List Int), j ≤ n3 ∧ i = .int .i64 j ∧ Hid (out = idxL ((unuB (fAt fs x)).take j)) ∧ out.length ≤ j ∧ Hid (wr.ownsRow w1.heap.size 3 1 v out.length (out.map (Value.int .i64))) ∧ Keep w1 wr) (fun _ i _ => n3 - (intOf i).toNat)
  case atStart => exact ⟨0, [], Nat.zero_le _, rfl, rfl, Nat.le_refl _, O0.out, Keep.al _ _⟩
  case round =>
    obtain ⟨j, out, hj, rfl, hO, hol, hown, hK⟩ := hrel
    have hbs : w1.heap.size ≤ wr.heap.size := hK.size
    have x1 := (row_ext RW hK (fun h => h)).cell (i := 1) (by simp)
    simp at x1
    have g0 := (hK.cell (World.block_lt_of_cell? _ _ G0.out) (fun h => h)).trans G0.out
    by_cases hlt : j < n3
    · have HJ : Hid (j < (fAt fs x).params.length) := by have := HP3.out; show _ < _; omega
      have HJB : Hid (j < (unuB (fAt fs x)).length) := by show _ < _; rw [unuB_len]; exact HJ.out
      have g2 := (hK.cell (World.block_lt_of_cell? _ _ G2.out) (fun h => h)).trans G2.out
      have g3 := (hK.cell (World.block_lt_of_cell? _ _ G3.out) (fun h => h)).trans G3.out
      have g4 := (hK.cell (World.block_lt_of_cell? _ _ G4.out) (fun h => h)).trans G4.out
      have q5 := Q4.out.k hK
      obtain ⟨m, hm⟩ : ∃ m, mE (j : Int) (.mk (fAt fs x).body.op (fAt fs x).body.num (fAt fs x).body.kids) = m := ⟨_, rfl⟩
      have HM := Lib.hid hm
      have HBA : Hid (bAtL (unuB (fAt fs x)) j = decide (m = 0)) := by show _ = _; rw [unuB_at HJ.out, ← hm, show ExprL.mk (fAt fs x).body.op (fAt fs x).body.num (fAt fs x).body.kids = (fAt fs x).body from by cases (fAt fs x).body; rfl]
      clear hm
      by_cases hm0 : m = 0
      · have HS : Hid (out ++ [(j : Int)] = idxL ((unuB (fAt fs x)).take (j + 1))) := by show _ = _; rw [idxL_take HJB.out, HBA.out, hO.out]; simp [hm0]
        subst hm0
        go_wp2_with (first
          | (go_at_call 62; refine (specMentions_n _ _ _ _ _ (Nat.lt_succ_self _) _ _ _ _ _ q5 HB.out.1).mono ?_; rw [HM.out]; rintro e w3 ⟨rfl, p3⟩; have hown3 := Lib.hid (own_keep hown.out p3 (fun _ _ h => h)); have z3 := p3.size; clear g0 g2 g3 g4 x1)
          | (at_builtin; refine wpList_appInt _ rfl (.tmp 40) (.tmp 42) rfl w1.heap.size u5 out.length out rfl (hown3.out.alloc _) w3.heap.size 1 (j : Int) rfl (by simp [go_sem]) (by omega) (by simp; omega) ?_; intro v' w' ho hg))
        go_roundw
        case rel => exact ⟨j + 1, out ++ [(j : Int)], by omega, by go_num, HS, by simp; omega, by rw [List.length_append]; exact ho, ((hK.trans p3).alloc _).grown hg (fun g hg' => .inl (hown3.out.lt g hg').1)⟩
        case measure => simp [intOf]; omega
      · have HS : Hid (out = idxL ((unuB (fAt fs x)).take (j + 1))) := by show _ = _; rw [idxL_take HJB.out, HBA.out, hO.out]; simp [hm0]
        have hm1 : ((m : Int) == 0) = false := by simpa using hm0
        go_wp2_with (first
          | (go_at_call 62; refine (specMentions_n _ _ _ _ _ (Nat.lt_succ_self _) _ _ _ _ _ q5 HB.out.1).mono ?_; rw [HM.out]; rintro e w3 ⟨rfl, p3⟩; have hown3 := Lib.hid (own_keep hown.out p3 (fun _ _ h => h)); have z3 := p3.size; clear g0 g2 g3 g4 x1))
        go_roundw
        case rel => exact ⟨j + 1, out, by omega, by go_num, HS, by omega, hown3, hK.trans p3⟩
        case measure => simp [intOf]; omega
    · have HJ : Hid ((unuB (fAt fs x)).length ≤ j) := by have := HP3.out; show _ ≤ _; rw [unuB_len]; omega
      go_wp2
      obtain ⟨a2, cc, rfl, hle, hoi⟩ := own_of_row hown.out
      refine fin_ hQ ⟨a2, _, cc, rfl, ?_, KW.out.trans hK⟩
      have e := hO.out
      rw [List.take_of_length_le HJ.out] at e
      rw [VP.out]
      subst e
      exact (hoi.read.toRd hle (by omega)).mono (fun q hq => by have := KW.out.size; change w1.heap.size ≤ q at hq; omega)

set_option maxRecDepth 100000 in
set_option maxHeartbeats 4000000 in
theorem implUnusedParams (ds : List DeclL) (fs : List FuncL) (a0 : Option Addr) (n0 c0 : Nat) (a1 : Option Addr) (n1 c1 : Nat) (z : Int) (D0 D1 : Nat → Prop) (w : World) (r0 : Rd w D0 (encDecls ds) (.slice a0 n0 c0)) (r1 : Rd w D1 (encFuncs fs) (.slice a1 n1 c1)) (hfit : fitP fs) :
    Calls Try.prog 23 #[.agg #[.slice a0 n0 c0, .slice a1 n1 c1], .int .i64 z] w fun e w' => ∃ a' n' c', e = .returned (.slice a' n' c') ∧ Own w' (fun q => w.heap.size ≤ q) (encInts (unusedL ds fs z)) (.slice a' n' c') ∧ Keep w w' := by
  refine calls_k fun Q hQ => ?_
  have HFT := Lib.hid hfit
  clear hfit
  have K0 := Keep.al w (.cells #[.slice a0 n0 c0, .slice a1 n1 c1] 36)
  have hp : PR w ds fs a0 n0 c0 a1 n1 c1 := ⟨r0.t, r1.t⟩
  have R0 := rowOf w #[.slice a0 n0 c0, .slice a1 n1 c1] 36
  obtain ⟨e1, hnc, hm, hat⟩ := funcs_at hp.2
  have HL := Lib.hid e1
  have HA := Lib.hid hat
  clear e1 hat
  by_cases hv : progOk ds fs = true
  case neg =>
    have HV : Hid (progOk ds fs = false) := by show _ = _; simpa using hv
    have V : Hid (unusedL ds fs z = []) := by show _ = _; rw [unusedL, if_neg (fun h => hv h.1)]
    clear hv
    go_enter Try.func23, Try.ntmps23
    go_wp2_with fail
    refine (implValidProgram ds fs _ _ _ _ _ _ _ _ _ (r0.k K0) (r1.k K0) HFT.out).mono ?_
    rw [HV.out]
    rintro e w1 ⟨rfl, p1⟩
    go_wp2_with fail
    exact fin_ hQ ⟨none, 0, 0, rfl, by rw [V.out]; exact .nil _ 1 none 0, K0.trans p1⟩
  have HV := Lib.hid hv
  have hl := progOk_len hv
  have HL4 := Lib.hid hl.2
  rw [HL.out] at hl
  obtain ⟨hl1, hl4⟩ := hl
  by_cases hz : 0 ≤ z ∧ z < (n1 : Int)
  case neg =>
    have V : Hid (unusedL ds fs z = []) := by show _ = _; rw [unusedL, if_neg (fun h => hz ⟨h.2.1, by have := h.2.2; have := HL.out; omega⟩)]
    by_cases hz0 : z < 0
    · have hz1 : decide (z < 0) = true := decide_eq_true hz0
      clear hz hv
      go_enter Try.func23, Try.ntmps23
      go_wp2_with fail
      refine (implValidProgram ds fs _ _ _ _ _ _ _ _ _ (r0.k K0) (r1.k K0) HFT.out).mono ?_
      rw [HV.out]
      rintro e w1 ⟨rfl, p1⟩
      have x1 := boxk p1 1
      simp at x1
      go_wp2_with fail
      exact fin_ hQ ⟨none, 0, 0, rfl, by rw [V.out]; exact .nil _ 1 none 0, K0.trans p1⟩
    have hz1 : decide (z < 0) = false := decide_eq_false hz0
    have hz2 : (n1 : Int) ≤ z := by omega
    clear hz hv
    go_enter Try.func23, Try.ntmps23
    go_wp2_with fail
    refine (implValidProgram ds fs _ _ _ _ _ _ _ _ _ (r0.k K0) (r1.k K0) HFT.out).mono ?_
    rw [HV.out]
    rintro e w1 ⟨rfl, p1⟩
    have x1 := boxk p1 1
    simp at x1
    go_wp2_with fail
    exact fin_ hQ ⟨none, 0, 0, rfl, by rw [V.out]; exact .nil _ 1 none 0, K0.trans p1⟩
  obtain ⟨x, rfl⟩ : ∃ x : Nat, z = (x : Int) := ⟨z.toNat, by omega⟩
  have hx : x < n1 := by omega
  have HX : Hid (x < fs.length) := by have := HL.out; show _ < _; omega
  have HB := Lib.hid (bodyOk_parts (progOk_parts hv).1 HX.out ((progOk_parts hv).2 x HX.out))
  have PT := sigF_at (progOk_parts hv).1 HX.out
  have PL := Lib.hid PT.1
  have HCAL := Lib.hid (progOk_cal hv HX.out)
  have VP : Hid (unusedL ds fs (x : Int) = idxL (unuB (fAt fs x))) := by show _ = _; rw [unusedL, if_pos ⟨hv, by omega, by have := HX.out; omega⟩, Int.toNat_natCast]
  obtain ⟨b, o, rfl, hd, a3, n3, c3, a4, n4, c4, d0, d1, d2, d3, d4, r3, r4⟩ := HA.out x hx
  have hz1 : decide ((x : Int) < 0) = false := decide_eq_false (by omega)
  clear hz hv PT d1
  go_enter Try.func23, Try.ntmps23
  go_wp2_with fail
  refine (implValidProgram ds fs _ _ _ _ _ _ _ _ _ (r0.k K0) (r1.k K0) HFT.out).mono ?_
  rw [HV.out]
  rintro e w1 ⟨rfl, p1⟩
  have RW := row_ext R0 p1 (fun h => h)
  have x0 := RW.cell (i := 0) (by simp)
  have x1 := RW.cell (i := 1) (by simp)
  simp at x0 x1
  have hKw := K0.trans p1
  have zw := hKw.size
  have g0 := (hKw.cell (World.block_lt_of_cell? w _ d0) (fun h => h)).trans d0
  have g2 := (hKw.cell (World.block_lt_of_cell? w _ d2) (fun h => h)).trans d2
  have g3 := (hKw.cell (World.block_lt_of_cell? w _ d3) (fun h => h)).trans d3
  have g4 := (hKw.cell (World.block_lt_of_cell? w _ d4) (fun h => h)).trans d4
  have q4 := (r4.lt.k hKw)
  clear d0 d2 d3 d4
  have hp3 := (ints_at r3).1
  have hn3 : n3 ≤ 3 := by have := PL.out; omega
  have HP3 := Lib.hid hp3
  have KW := Lib.hid hKw
  have G2 := Lib.hid g2
  have G3 := Lib.hid g3
  have G4 := Lib.hid g4
  have Q4 := Lib.hid q4
  clear r3 hp3 g2 g3 g4 q4 hKw
  go_wp2_with (at_make; refine wpList_makeN _ rfl _ _ 95 rfl 4 (.bool false) #[.bool false] 1 1 Try.underlying95 (by kernel_rfl) rfl rfl n3 rfl rfl (by omega) (by omega) ?_; intro w2 hr hk hsz; clear x0 x1 g0)
  have R1 := Lib.hid (show w2.rowIs w1.heap.size 4 n3 (fun i => .bool (decide (i < 0) && bAtL (unuB (fAt fs x)) i)) by
    rw [Nat.mul_one] at hr
    refine hr.congr (fun i hi => ?_)
    rw [Nat.mod_one]
    simp)
  have K2 := Lib.hid hk
  clear hr hk hsz
  go_loopw [31] (fun i wr => ∃ j : Nat, j ≤ n3 ∧ i = .int .i64 j ∧ Hid (wr.rowIs w1.heap.size 4 n3 (fun i => .bool (decide (i < j) && bAtL (unuB (fAt fs x)) i))) ∧ Ext (fun q => q = w1.heap.size) w2 wr) (fun i _ => n3 - (intOf i).toNat)
  case atStart => exact ⟨0, Nat.zero_le _, rfl, R1, Ext.refl _ _⟩
  case round =>
    obtain ⟨j, hj, rfl, hR, hK⟩ := hrel
    have K1 : Ext (fun q => q = w1.heap.size) w1 wr := (Keep.to K2.out).trans hK
    by_cases hlt : j < n3
    · have x1 := (row_ext RW K1 (fun h => by have h2 : w.heap.size = w1.heap.size := h; have := RW.lt; omega)).cell (i := 1) (by simp)
      simp at x1
      have HJ : Hid (j < (fAt fs x).params.length) := by have := HP3.out; show _ < _; omega
      have l2 := World.block_lt_of_cell? _ _ G2.out
      have l4 := World.block_lt_of_cell? _ _ G4.out
      change b < w1.heap.size at l2
      have g2 := (K1.cell (World.block_lt_of_cell? _ _ G2.out) (fun h => by simp at h; omega)).trans G2.out
      have g3 := (K1.cell (World.block_lt_of_cell? _ _ G3.out) (fun h => by simp at h; omega)).trans G3.out
      have g4 := (K1.cell (World.block_lt_of_cell? _ _ G4.out) (fun h => by simp at h; omega)).trans G4.out
      have q5 := Q4.out.ext K1 (fun q hq h => by have h1 := hq.2; have h2 := KW.out.size; omega)
      obtain ⟨m, hm⟩ : ∃ m, mE (j : Int) (.mk (fAt fs x).body.op (fAt fs x).body.num (fAt fs x).body.kids) = m := ⟨_, rfl⟩
      have HM : Hid (mentL (j : Int) (fAt fs x).body.op (fAt fs x).body.num (fAt fs x).body.kids = (m : Int)) := by show _ = _; rw [mentL_yes HB.out.1, hm]
      have HBA : Hid (bAtL (unuB (fAt fs x)) j = decide (m = 0)) := by show _ = _; rw [unuB_at HJ.out, ← hm, show ExprL.mk (fAt fs x).body.op (fAt fs x).body.num (fAt fs x).body.kids = (fAt fs x).body from by cases (fAt fs x).body; rfl]
      have hm1 : ((m : Int) == 0) = decide (m = 0) := by
        by_cases h : m = 0
        · subst h; rfl
        · rw [decide_eq_false h]; simpa using h
      obtain ⟨bb, hbb⟩ : ∃ bb, decide (m = 0) = bb := ⟨_, rfl⟩
      rw [hbb] at hm1
      have HBB : Hid (bAtL (unuB (fAt fs x)) j = bb) := by show _ = _; rw [HBA.out, hbb]
      clear hm hbb HBA l2 l4
      have hlg := hR.out.lt
      go_wp2_with (first
        | (go_at_call 63; refine (implMentionsOf _ _ _ _ _ _ _ _ _ q5).mono ?_; rw [HM.out]; rintro e w3 ⟨rfl, p3⟩; have R3 := Lib.hid (row_ext hR.out p3 (fun h => h)); have y3 := R3.out.cell hlt; have f3 := R3.out.frozen j; have hlg3 := R3.out.lt; clear g2 g3 g4 x1))
      have XX := Lib.hid ((hK.trans (Keep.to p3)).setCell (p := ⟨w1.heap.size, j, none⟩) (.inr rfl) (.bool bb))
      have R4 := Lib.hid ((R3.out.set j (.bool bb)).congr (g := fun i => .bool (decide (i < j + 1) && bAtL (unuB (fAt fs x)) i)) (fun i hi => by
        by_cases e : i = j
        · subst e
          rw [if_pos rfl, HBB.out]; simp
        · rw [if_neg e]
          congr 2
          by_cases h : i < j
          · rw [decide_eq_true h, decide_eq_true (by omega)]
          · rw [decide_eq_false h, decide_eq_false (by omega)]))
      go_roundw
      case rel => exact ⟨j + 1, by omega, by go_num, R4, XX.out⟩
      case measure => simp [intOf]; omega
    · have HJ : Hid (j = n3) := by show _ = _; omega
      have R5 := Lib.hid (hR.out.congr (g := fun i => .bool (bAtL (unuB (fAt fs x)) i)) (fun i hi => by rw [decide_eq_true (by have := HJ.out; omega)]; simp))
      go_wp2_with fail
      refine (implIndicesOf _ _ _ (unuB (fAt fs x)) _ R5.out (by rw [unuB_len]; exact HP3.out) (by omega)).mono ?_
      rintro e w3 ⟨a', n', c', rfl, hn', o3, p3⟩
      have O3 := Lib.hid o3
      clear o3
      go_wp2_with fail
      refine fin_ hQ ⟨a', n', c', rfl, ?_, (KW.out.then_ K1 (fun i hi h => by have := KW.out.size; omega)).trans p3⟩
      rw [VP.out]
      refine (O3.out.toOwn hn' ?_).mono (fun q hq => by have := K1.size; have := KW.out.size; omega)
      have h1 := O3.out.1
      have h2 := idxL_len (unuB (fAt fs x))
      rw [unuB_len] at h2
      have := HP3.out
      omega
end Go.Proofs.Ytbknmljfnjlieaa
