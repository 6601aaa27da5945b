/- CalleesOf of both packages. -/
import Derived.Test.YtbknmljfnjlieaaValidProg
import Derived.Test.YtbknmljfnjlieaaCallees0
import Derived.Test.YtbknmljfnjlieaaMarks
import Derived.Test.YtbknmljfnjlieaaMentions
namespace Go.Proofs.Ytbknmljfnjlieaa
open Go.RowKit

/-- What both functions CalleesOf return. -/
def calleesL (ds : List DeclL) (fs : List FuncL) (z : Int) : List Int := if progOk ds fs = true ∧ 0 ≤ z ∧ z < (fs.length : Int) then calL (fAt fs z.toNat).body else []
theorem calleesL_len (ds : List DeclL) (fs : List FuncL) (z : Int) : (calleesL ds fs z).length ≤ 30 := by
  unfold calleesL
  split
  · next h =>
    have hx : z.toNat < fs.length := by omega
    have := (bodyOk_parts (progOk_parts h.1).1 hx ((progOk_parts h.1).2 _ hx)).1
    have h2 := calL_len (fAt fs z.toNat).body
    have h3 := nE_eq (fAt fs z.toNat).body
    omega
  · simp

set_option maxRecDepth 100000 in
set_option maxHeartbeats 2000000 in
theorem specCalleesOf (ds : List DeclL) (fs : List FuncL) (a0 : Option Addr) (n0 c0 : Nat) (a1 : Option Addr) (n1 c1 : Nat) (z : Int) (D0 D1 : Nat → Prop) (w : World) (r0 : Rd w D0 (encDecls ds) (.slice a0 n0 c0)) (r1 : Rd w D1 (encFuncs fs) (.slice a1 n1 c1)) :
    Calls Try.prog 27 #[.agg #[.slice a0 n0 c0, .slice a1 n1 c1], .int .i64 z] w fun e w' => ∃ a' n' c', e = .returned (.slice a' n' c') ∧ Rd w' (fun q => w.heap.size ≤ q) (encInts (calleesL ds fs z)) (.slice a' n' c') ∧ Keep w w' := by
  refine calls_k fun Q hQ => ?_
  have K0 := Keep.al w (.cells #[.slice a0 n0 c0, .slice a1 n1 c1] 36)
  have hp : PR w ds fs a0 n0 c0 a1 n1 c1 := ⟨r0.t, r1.t⟩
  have R0 := rowOf w #[.slice a0 n0 c0, .slice a1 n1 c1] 36
  obtain ⟨e1, hnc, hm, hat⟩ := funcs_at hp.2
  have HL := Lib.hid e1
  have HA := Lib.hid hat
  clear e1 hat
  by_cases hv : progOk ds fs = true
  case neg =>
    have HV : Hid (progOk ds fs = false) := by show _ = _; simpa using hv
    have V : Hid (calleesL ds fs z = []) := by show _ = _; rw [calleesL, if_neg (fun h => hv h.1)]
    clear hv
    go_enter Try.func27, Try.ntmps27
    go_wp2_with fail
    refine (specValidProgram0 ds fs _ _ _ _ _ _ _ _ _ (r0.k K0) (r1.k K0)).mono ?_
    rw [HV.out]
    rintro e w1 ⟨rfl, p1⟩
    go_wp2_with fail
    exact fin_ hQ ⟨none, 0, 0, rfl, by rw [V.out]; exact .nil 1 none 0, K0.trans p1⟩
  have HV := Lib.hid hv
  have hl := progOk_len hv
  have HL4 := Lib.hid hl.2
  rw [HL.out] at hl
  obtain ⟨hl1, hl4⟩ := hl
  by_cases hz : 0 ≤ z ∧ z < (n1 : Int)
  case neg =>
    have V : Hid (calleesL ds fs z = []) := by show _ = _; rw [calleesL, if_neg (fun h => hz ⟨h.2.1, by have := h.2.2; have := HL.out; omega⟩)]
    have HZ : Hid (decide (0 ≤ z ∧ z ≤ (n1 : Int) - 1) = false) := decide_eq_false (by omega)
    clear hz hv
    go_enter Try.func27, Try.ntmps27
    go_wp2_with fail
    refine (specValidProgram0 ds fs _ _ _ _ _ _ _ _ _ (r0.k K0) (r1.k K0)).mono ?_
    rw [HV.out]
    rintro e w1 ⟨rfl, p1⟩
    have x1 := boxk p1 1
    simp at x1
    go_wp2_with fail
    refine (specInRange _ _ _ _).mono ?_
    rw [HZ.out]
    rintro e w2 ⟨rfl, rfl⟩
    go_wp2_with fail
    exact fin_ hQ ⟨none, 0, 0, rfl, by rw [V.out]; exact .nil 1 none 0, K0.trans p1⟩
  obtain ⟨x, rfl⟩ : ∃ x : Nat, z = (x : Int) := ⟨z.toNat, by omega⟩
  have hx : x < n1 := by omega
  have HX : Hid (x < fs.length) := by have := HL.out; show _ < _; omega
  have HB := Lib.hid (bodyOk_parts (progOk_parts hv).1 HX.out ((progOk_parts hv).2 x HX.out))
  have PT := sigF_at (progOk_parts hv).1 HX.out
  have PL := Lib.hid PT.1
  have HCAL := Lib.hid (progOk_cal hv HX.out)
  have VP : Hid (calleesL ds fs (x : Int) = calL (fAt fs x).body) := by show _ = _; rw [calleesL, if_pos ⟨hv, by omega, by have := HX.out; omega⟩, Int.toNat_natCast]
  obtain ⟨b, o, rfl, hd, a3, n3, c3, a4, n4, c4, d0, d1, d2, d3, d4, r3, r4⟩ := HA.out x hx
  have HZ : Hid (decide (0 ≤ (x : Int) ∧ (x : Int) ≤ (n1 : Int) - 1) = true) := decide_eq_true (by omega)
  clear hz hv PT d1
  go_enter Try.func27, Try.ntmps27
  go_wp2_with fail
  refine (specValidProgram0 ds fs _ _ _ _ _ _ _ _ _ (r0.k K0) (r1.k K0)).mono ?_
  rw [HV.out]
  rintro e w1 ⟨rfl, p1⟩
  have RW := row_ext R0 p1 (fun h => h)
  have x0 := RW.cell (i := 0) (by simp)
  have x1 := RW.cell (i := 1) (by simp)
  simp at x0 x1
  go_wp2_with fail
  refine (specInRange _ _ _ _).mono ?_
  rw [HZ.out]
  rintro e w2 ⟨rfl, rfl⟩
  have hKw := K0.trans p1
  have zw := hKw.size
  have g0 := (hKw.cell (World.block_lt_of_cell? w _ d0) (fun h => h)).trans d0
  have g2 := (hKw.cell (World.block_lt_of_cell? w _ d2) (fun h => h)).trans d2
  have g3 := (hKw.cell (World.block_lt_of_cell? w _ d3) (fun h => h)).trans d3
  have g4 := (hKw.cell (World.block_lt_of_cell? w _ d4) (fun h => h)).trans d4
  have q4 := (r4.lt.k hKw)
  clear d0 d2 d3 d4
  have q5 := q4.k (Keep.al w1 (.cells #[] 3))
  have i0 : IntsL (w1.alloc (.cells #[] 3)) (fun q => w.heap.size ≤ q) (some ⟨w1.heap.size, 0, none⟩) 0 [] := ⟨rfl, fun h => absurd h (by omega)⟩
  have hB : w.heap.size ≤ (w1.alloc (.cells #[] 3)).heap.size := by simp; omega
  go_wp2_with fail
  refine (specCalleesIn_n _ (fAt fs x).body.op (fAt fs x).body.num (fAt fs x).body.kids (Nat.lt_succ_self _) _ _ _ _ _ 0 0 [] w.heap.size _ q5 i0 (Nat.le_refl _) hB (by have := HB.out.1; simp; omega)).mono ?_
  rintro e w3 ⟨a', n', c', rfl, hn', i2, p2⟩
  have I2 := Lib.hid i2
  clear i2 x0 x1 RW
  go_wp2_with fail
  refine fin_ hQ ⟨a', n', c', rfl, ?_, (hKw.trans (Keep.al _ _)).trans p2⟩
  have e9 : ExprL.mk (fAt fs x).body.op (fAt fs x).body.num (fAt fs x).body.kids = (fAt fs x).body := by cases (fAt fs x).body; rfl
  rw [VP.out, calL, ← e9]
  exact I2.out.toRd hn' (by
    have h1 := I2.out.1
    have h2 := calL_len (fAt fs x).body
    have h3 := nE_eq (fAt fs x).body
    have h4 := HB.out.1
    rw [calL] at h2
    rw [show ExprL.mk (fAt fs x).body.op (fAt fs x).body.num (fAt fs x).body.kids = (fAt fs x).body from by cases (fAt fs x).body; rfl] at h1
    omega)

set_option maxRecDepth 100000 in
set_option maxHeartbeats 2000000 in
theorem implCalleesOf (ds : List DeclL) (fs : List FuncL) (a0 : Option Addr) (n0 c0 : Nat) (a1 : Option Addr) (n1 c1 : Nat) (z : Int) (D0 D1 : Nat → Prop) (w : World) (r0 : Rd w D0 (encDecls ds) (.slice a0 n0 c0)) (r1 : Rd w D1 (encFuncs fs) (.slice a1 n1 c1)) (hfit : fitP fs) :
    Calls Try.prog 28 #[.agg #[.slice a0 n0 c0, .slice a1 n1 c1], .int .i64 z] w fun e w' => ∃ a' n' c', e = .returned (.slice a' n' c') ∧ Own w' (fun q => w.heap.size ≤ q) (encInts (calleesL ds fs z)) (.slice a' n' c') ∧ Keep w w' := by
  refine calls_k fun Q hQ => ?_
  have HFT := Lib.hid hfit
  clear hfit
  have K0 := Keep.al w (.cells #[.slice a0 n0 c0, .slice a1 n1 c1] 36)
  have hp : PR w ds fs a0 n0 c0 a1 n1 c1 := ⟨r0.t, r1.t⟩
  have R0 := rowOf w #[.slice a0 n0 c0, .slice a1 n1 c1] 36
  obtain ⟨e1, hnc, hm, hat⟩ := funcs_at hp.2
  have HL := Lib.hid e1
  have HA := Lib.hid hat
  clear e1 hat
  by_cases hv : progOk ds fs = true
  case neg =>
    have HV : Hid (progOk ds fs = false) := by show _ = _; simpa using hv
    have V : Hid (calleesL ds fs z = []) := by show _ = _; rw [calleesL, if_neg (fun h => hv h.1)]
    clear hv
    go_enter Try.func28, Try.ntmps28
    go_wp2_with fail
    refine (implValidProgram ds fs _ _ _ _ _ _ _ _ _ (r0.k K0) (r1.k K0) HFT.out).mono ?_
    rw [HV.out]
    rintro e w1 ⟨rfl, p1⟩
    go_wp2_with fail
    exact fin_ hQ ⟨none, 0, 0, rfl, by rw [V.out]; exact .nil _ 1 none 0, K0.trans p1⟩
  have HV := Lib.hid hv
  have hl := progOk_len hv
  have HL4 := Lib.hid hl.2
  rw [HL.out] at hl
  obtain ⟨hl1, hl4⟩ := hl
  by_cases hz : 0 ≤ z ∧ z < (n1 : Int)
  case neg =>
    have V : Hid (calleesL ds fs z = []) := by show _ = _; rw [calleesL, if_neg (fun h => hz ⟨h.2.1, by have := h.2.2; have := HL.out; omega⟩)]
    by_cases hz0 : z < 0
    · have hz1 : decide (z < 0) = true := decide_eq_true hz0
      clear hz hv
      go_enter Try.func28, Try.ntmps28
      go_wp2_with fail
      refine (implValidProgram ds fs _ _ _ _ _ _ _ _ _ (r0.k K0) (r1.k K0) HFT.out).mono ?_
      rw [HV.out]
      rintro e w1 ⟨rfl, p1⟩
      have x1 := boxk p1 1
      simp at x1
      go_wp2_with fail
      exact fin_ hQ ⟨none, 0, 0, rfl, by rw [V.out]; exact .nil _ 1 none 0, K0.trans p1⟩
    have hz1 : decide (z < 0) = false := decide_eq_false hz0
    have hz2 : (n1 : Int) ≤ z := by omega
    clear hz hv
    go_enter Try.func28, Try.ntmps28
    go_wp2_with fail
    refine (implValidProgram ds fs _ _ _ _ _ _ _ _ _ (r0.k K0) (r1.k K0) HFT.out).mono ?_
    rw [HV.out]
    rintro e w1 ⟨rfl, p1⟩
    have x1 := boxk p1 1
    simp at x1
    go_wp2_with fail
    exact fin_ hQ ⟨none, 0, 0, rfl, by rw [V.out]; exact .nil _ 1 none 0, K0.trans p1⟩
  obtain ⟨x, rfl⟩ : ∃ x : Nat, z = (x : Int) := ⟨z.toNat, by omega⟩
  have hx : x < n1 := by omega
  have HX : Hid (x < fs.length) := by have := HL.out; show _ < _; omega
  have HB := Lib.hid (bodyOk_parts (progOk_parts hv).1 HX.out ((progOk_parts hv).2 x HX.out))
  have PT := sigF_at (progOk_parts hv).1 HX.out
  have PL := Lib.hid PT.1
  have HCAL := Lib.hid (progOk_cal hv HX.out)
  have VP : Hid (calleesL ds fs (x : Int) = calL (fAt fs x).body) := by show _ = _; rw [calleesL, if_pos ⟨hv, by omega, by have := HX.out; omega⟩, Int.toNat_natCast]
  obtain ⟨b, o, rfl, hd, a3, n3, c3, a4, n4, c4, d0, d1, d2, d3, d4, r3, r4⟩ := HA.out x hx
  have hz1 : decide ((x : Int) < 0) = false := decide_eq_false (by omega)
  clear hz hv PT d1
  go_enter Try.func28, Try.ntmps28
  go_wp2_with fail
  refine (implValidProgram ds fs _ _ _ _ _ _ _ _ _ (r0.k K0) (r1.k K0) HFT.out).mono ?_
  rw [HV.out]
  rintro e w1 ⟨rfl, p1⟩
  have RW := row_ext R0 p1 (fun h => h)
  have x0 := RW.cell (i := 0) (by simp)
  have x1 := RW.cell (i := 1) (by simp)
  simp at x0 x1
  have hKw := K0.trans p1
  have zw := hKw.size
  have g0 := (hKw.cell (World.block_lt_of_cell? w _ d0) (fun h => h)).trans d0
  have g2 := (hKw.cell (World.block_lt_of_cell? w _ d2) (fun h => h)).trans d2
  have g3 := (hKw.cell (World.block_lt_of_cell? w _ d3) (fun h => h)).trans d3
  have g4 := (hKw.cell (World.block_lt_of_cell? w _ d4) (fun h => h)).trans d4
  have q4 := (r4.lt.k hKw)
  clear d0 d2 d3 d4
  have h4' : fs.length ≤ 4 := HL4.out
  have q1 := hp.2.k hKw
  go_wp2_with fail
  refine (implCalleesOf0 fs _ _ _ _ _ _ _ _ q1 x HX.out h4' HCAL.out HB.out.1).mono ?_
  rintro e w2 ⟨g, rfl, hg, hr, p2⟩
  have HR := Lib.hid hr
  clear hr x0 x1 g0 g2 g3 g4 RW
  go_wp2_with fail
  refine (implIndicesOf g _ _ _ _ HR.out (by rw [bvisE_len, List.length_replicate]) (by omega)).mono ?_
  rintro e w3 ⟨a', n', c', rfl, hn', o3, p3⟩
  have O3 := Lib.hid o3
  clear o3
  go_wp2_with fail
  refine fin_ hQ ⟨a', n', c', rfl, ?_, (hKw.trans p2).trans p3⟩
  have e0 := calL_marks HCAL.out
  rw [HL.out] at e0
  rw [VP.out, ← e0]
  refine (O3.out.toOwn hn' ?_).mono (fun q hq => by have := p2.size; omega)
  have h1 := O3.out.1
  have h2 := idxL_len (visE bvis (fAt fs x).body (List.replicate n1 false))
  rw [bvisE_len, List.length_replicate] at h2
  omega
end Go.Proofs.Ytbknmljfnjlieaa
