/- CalleesOf of both packages. -/
import Derived.Test.YtaeddcnakilnlaaWValidProg
import Derived.Test.YtaeddcnakilnlaaWGD
import Derived.Test.YtaeddcnakilnlaaWMentions
import Derived.Test.YtaeddcnakilnlaaMX
import Derived.Test.YtaeddcnakilnlaaMY
import Derived.Deep.LoopGhost
namespace Go.Proofs.Ytaeddcnakilnlaa
open Go.RowKit

/-- What both functions CalleesOf return. -/
def calleesL (ds : List DeclL) (fs : List FuncL) (z : Int) : List Int := if progOk ds fs = true ∧ 0 ≤ z ∧ z < (fs.length : Int) then calL (fAt fs z.toNat).body else []
theorem calleesL_len (ds : List DeclL) (fs : List FuncL) (z : Int) : (calleesL ds fs z).length ≤ 30 := by
  unfold calleesL
  split
  · next h =>
    have hx : z.toNat < fs.length := by omega
    have := (bodyOk_parts (progOk_parts h.1).1 hx ((progOk_parts h.1).2 _ hx)).1
    have h2 := calL_len (fAt fs z.toNat).body
    have h3 := nE_eq (fAt fs z.toNat).body
    omega
  · simp

set_option maxRecDepth 100000 in
set_option maxHeartbeats 2000000 in
theorem specCalleesOf (ds : List DeclL) (fs : List FuncL) (a0 : Option Addr) (n0 c0 : Nat) (a1 : Option Addr) (n1 c1 : Nat) (z : Int) (D0 D1 : Nat → Prop) (w : World) (r0 : Rd w D0 (encDecls ds) (.slice a0 n0 c0)) (r1 : Rd w D1 (encFuncs fs) (.slice a1 n1 c1)) :
    Calls Try.prog 40 #[.agg #[.slice a0 n0 c0, .slice a1 n1 c1], .int .i64 z] w fun e w' => ∃ a' n' c', e = .returned (.slice a' n' c') ∧ Rd w' (fun q => w.heap.size ≤ q) (encInts (calleesL ds fs z)) (.slice a' n' c') ∧ Keep w w' := by
  refine calls_k fun Q hQ => ?_
  have K0 := Keep.al w (.cells #[.slice a0 n0 c0, .slice a1 n1 c1] 50)
  have hp : PR w ds fs a0 n0 c0 a1 n1 c1 := ⟨r0.t, r1.t⟩
  have R0 := rowOf w #[.slice a0 n0 c0, .slice a1 n1 c1] 50
  obtain ⟨e1, hnc, hm, hat⟩ := funcs_at hp.2
  have HL := Lib.hid e1
  have HA := Lib.hid hat
  clear e1 hat
  by_cases hv : progOk ds fs = true
  case neg =>
    have HV : Hid (progOk ds fs = false) := by show _ = _; simpa using hv
    have V : Hid (calleesL ds fs z = []) := by show _ = _; rw [calleesL, if_neg (fun h => hv h.1)]
    clear hv
    go_enter Try.func40, Try.ntmps40
    go_wp2_with fail
    refine (specValidProgram0 ds fs _ _ _ _ _ _ _ _ _ (r0.k K0) (r1.k K0)).mono ?_
    rw [HV.out]
    rintro e w1 ⟨rfl, p1⟩
    go_wp2_with fail
    exact fin_ hQ ⟨none, 0, 0, rfl, by rw [V.out]; exact .nil 1 none 0, K0.trans p1⟩
  have HV := Lib.hid hv
  have hl := progOk_len hv
  have HL4 := Lib.hid hl.2
  rw [HL.out] at hl
  obtain ⟨hl1, hl4⟩ := hl
  by_cases hz : 0 ≤ z ∧ z < (n1 : Int)
  case neg =>
    have V : Hid (calleesL ds fs z = []) := by show _ = _; rw [calleesL, if_neg (fun h => hz ⟨h.2.1, by have := h.2.2; have := HL.out; omega⟩)]
    have HZ : Hid (decide (0 ≤ z ∧ z ≤ (n1 : Int) - 1) = false) := decide_eq_false (by omega)
    clear hz hv
    go_enter Try.func40, Try.ntmps40
    go_wp2_with fail
    refine (specValidProgram0 ds fs _ _ _ _ _ _ _ _ _ (r0.k K0) (r1.k K0)).mono ?_
    rw [HV.out]
    rintro e w1 ⟨rfl, p1⟩
    have x1 := boxk p1 1
    simp at x1
    go_wp2_with fail
    refine (specInRange _ _ _ _).mono ?_
    rw [HZ.out]
    rintro e w2 ⟨rfl, rfl⟩
    go_wp2_with fail
    exact fin_ hQ ⟨none, 0, 0, rfl, by rw [V.out]; exact .nil 1 none 0, K0.trans p1⟩
  obtain ⟨x, rfl⟩ : ∃ x : Nat, z = (x : Int) := ⟨z.toNat, by omega⟩
  have hx : x < n1 := by omega
  have HX : Hid (x < fs.length) := by have := HL.out; show _ < _; omega
  have HB := Lib.hid (bodyOk_parts (progOk_parts hv).1 HX.out ((progOk_parts hv).2 x HX.out))
  have PT := sigF_at (progOk_parts hv).1 HX.out
  have PL := Lib.hid PT.1
  have HCAL := Lib.hid (progOk_cal hv HX.out)
  have VP : Hid (calleesL ds fs (x : Int) = calL (fAt fs x).body) := by show _ = _; rw [calleesL, if_pos ⟨hv, by omega, by have := HX.out; omega⟩, Int.toNat_natCast]
  obtain ⟨b, o, rfl, hd, a3, n3, c3, a4, n4, c4, d0, d1, d2, d3, d4, r3, r4⟩ := HA.out x hx
  have HZ : Hid (decide (0 ≤ (x : Int) ∧ (x : Int) ≤ (n1 : Int) - 1) = true) := decide_eq_true (by omega)
  clear hz hv PT d1
  go_enter Try.func40, Try.ntmps40
  go_wp2_with fail
  refine (specValidProgram0 ds fs _ _ _ _ _ _ _ _ _ (r0.k K0) (r1.k K0)).mono ?_
  rw [HV.out]
  rintro e w1 ⟨rfl, p1⟩
  have RW := row_ext R0 p1 (fun h => h)
  have x0 := RW.cell (i := 0) (by simp)
  have x1 := RW.cell (i := 1) (by simp)
  simp at x0 x1
  go_wp2_with fail
  refine (specInRange _ _ _ _).mono ?_
  rw [HZ.out]
  rintro e w2 ⟨rfl, rfl⟩
  have hKw := K0.trans p1
  have zw := hKw.size
  have g0 := (hKw.cell (World.block_lt_of_cell? w _ d0) (fun h => h)).trans d0
  have g2 := (hKw.cell (World.block_lt_of_cell? w _ d2) (fun h => h)).trans d2
  have g3 := (hKw.cell (World.block_lt_of_cell? w _ d3) (fun h => h)).trans d3
  have g4 := (hKw.cell (World.block_lt_of_cell? w _ d4) (fun h => h)).trans d4
  have q4 := (r4.lt.k hKw)
  clear d0 d2 d3 d4
  have q5 := q4.k (Keep.al w1 (.cells #[] 3))
  have i0 : IntsL (w1.alloc (.cells #[] 3)) (fun q => w.heap.size ≤ q) (some ⟨w1.heap.size, 0, none⟩) 0 [] := ⟨rfl, fun h => absurd h (by omega)⟩
  have hB : w.heap.size ≤ (w1.alloc (.cells #[] 3)).heap.size := by simp; omega
  go_wp2_with fail
  refine (specCalleesIn_n _ (fAt fs x).body.op (fAt fs x).body.num (fAt fs x).body.kids (Nat.lt_succ_self _) _ _ _ _ _ 0 0 [] w.heap.size _ q5 i0 (Nat.le_refl _) hB (by have := HB.out.1; simp; omega)).mono ?_
  rintro e w3 ⟨a', n', c', rfl, hn', i2, p2⟩
  have I2 := Lib.hid i2
  clear i2 x0 x1 RW
  go_wp2_with fail
  refine fin_ hQ ⟨a', n', c', rfl, ?_, (hKw.trans (Keep.al _ _)).trans p2⟩
  have e9 : ExprL.mk (fAt fs x).body.op (fAt fs x).body.num (fAt fs x).body.kids = (fAt fs x).body := by cases (fAt fs x).body; rfl
  rw [VP.out, calL, ← e9]
  exact I2.out.toRd hn' (by
    have h1 := I2.out.1
    have h2 := calL_len (fAt fs x).body
    have h3 := nE_eq (fAt fs x).body
    have h4 := HB.out.1
    rw [calL] at h2
    rw [show ExprL.mk (fAt fs x).body.op (fAt fs x).body.num (fAt fs x).body.kids = (fAt fs x).body from by cases (fAt fs x).body; rfl] at h1
    omega)

set_option maxRecDepth 100000 in
set_option maxHeartbeats 2000000 in
theorem implCalleesOf (ds : List DeclL) (fs : List FuncL) (a0 : Option Addr) (n0 c0 : Nat) (a1 : Option Addr) (n1 c1 : Nat) (z : Int) (D0 D1 : Nat → Prop) (w : World) (r0 : Rd w D0 (encDecls ds) (.slice a0 n0 c0)) (r1 : Rd w D1 (encFuncs fs) (.slice a1 n1 c1)) (hfit : fitP fs) :
    Calls Try.prog 38 #[.agg #[.slice a0 n0 c0, .slice a1 n1 c1], .int .i64 z] w fun e w' => ∃ a' n' c', e = .returned (.slice a' n' c') ∧ Own w' (fun q => w.heap.size ≤ q) (encInts (calleesL ds fs z)) (.slice a' n' c') ∧ Keep w w' := by
  refine calls_k fun Q hQ => ?_
  have HFT := Lib.hid hfit
  clear hfit
  have K0 := Keep.al w (.cells #[.slice a0 n0 c0, .slice a1 n1 c1] 50)
  have hp : PR w ds fs a0 n0 c0 a1 n1 c1 := ⟨r0.t, r1.t⟩
  have R0 := rowOf w #[.slice a0 n0 c0, .slice a1 n1 c1] 50
  obtain ⟨e1, hnc, hm, hat⟩ := funcs_at hp.2
  have HL := Lib.hid e1
  have HA := Lib.hid hat
  clear e1 hat
  by_cases hv : progOk ds fs = true
  case neg =>
    have HV : Hid (progOk ds fs = false) := by show _ = _; simpa using hv
    have V : Hid (calleesL ds fs z = []) := by show _ = _; rw [calleesL, if_neg (fun h => hv h.1)]
    clear hv
    go_enter Try.func38, Try.ntmps38
    go_wp2_with fail
    refine (implValidProgram ds fs _ _ _ _ _ _ _ _ _ (r0.k K0) (r1.k K0) HFT.out).mono ?_
    rw [HV.out]
    rintro e w1 ⟨rfl, p1⟩
    go_wp2_with fail
    exact fin_ hQ ⟨none, 0, 0, rfl, by rw [V.out]; exact .nil _ 1 none 0, K0.trans p1⟩
  have HV := Lib.hid hv
  have hl := progOk_len hv
  have HL4 := Lib.hid hl.2
  rw [HL.out] at hl
  obtain ⟨hl1, hl4⟩ := hl
  by_cases hz : 0 ≤ z ∧ z < (n1 : Int)
  case neg =>
    have V : Hid (calleesL ds fs z = []) := by show _ = _; rw [calleesL, if_neg (fun h => hz ⟨h.2.1, by have := h.2.2; have := HL.out; omega⟩)]
    by_cases hz0 : z < 0
    · have hz1 : decide (z < 0) = true := decide_eq_true hz0
      clear hz hv
      go_enter Try.func38, Try.ntmps38
      go_wp2_with fail
      refine (implValidProgram ds fs _ _ _ _ _ _ _ _ _ (r0.k K0) (r1.k K0) HFT.out).mono ?_
      rw [HV.out]
      rintro e w1 ⟨rfl, p1⟩
      have x1 := boxk p1 1
      simp at x1
      go_wp2_with fail
      exact fin_ hQ ⟨none, 0, 0, rfl, by rw [V.out]; exact .nil _ 1 none 0, K0.trans p1⟩
    have hz1 : decide (z < 0) = false := decide_eq_false hz0
    have hz2 : (n1 : Int) ≤ z := by omega
    clear hz hv
    go_enter Try.func38, Try.ntmps38
    go_wp2_with fail
    refine (implValidProgram ds fs _ _ _ _ _ _ _ _ _ (r0.k K0) (r1.k K0) HFT.out).mono ?_
    rw [HV.out]
    rintro e w1 ⟨rfl, p1⟩
    have x1 := boxk p1 1
    simp at x1
    go_wp2_with fail
    exact fin_ hQ ⟨none, 0, 0, rfl, by rw [V.out]; exact .nil _ 1 none 0, K0.trans p1⟩
  obtain ⟨x, rfl⟩ : ∃ x : Nat, z = (x : Int) := ⟨z.toNat, by omega⟩
  have hx : x < n1 := by omega
  have HX : Hid (x < fs.length) := by have := HL.out; show _ < _; omega
  have HB := Lib.hid (bodyOk_parts (progOk_parts hv).1 HX.out ((progOk_parts hv).2 x HX.out))
  have PT := sigF_at (progOk_parts hv).1 HX.out
  have PL := Lib.hid PT.1
  have HCAL := Lib.hid (progOk_cal hv HX.out)
  have VP : Hid (calleesL ds fs (x : Int) = calL (fAt fs x).body) := by show _ = _; rw [calleesL, if_pos ⟨hv, by omega, by have := HX.out; omega⟩, Int.toNat_natCast]
  obtain ⟨b, o, rfl, hd, a3, n3, c3, a4, n4, c4, d0, d1, d2, d3, d4, r3, r4⟩ := HA.out x hx
  have hz1 : decide ((x : Int) < 0) = false := decide_eq_false (by omega)
  clear hz hv PT d1
  go_enter Try.func38, Try.ntmps38
  go_wp2_with fail
  refine (implValidProgram ds fs _ _ _ _ _ _ _ _ _ (r0.k K0) (r1.k K0) HFT.out).mono ?_
  rw [HV.out]
  rintro e w1 ⟨rfl, p1⟩
  have RW := row_ext R0 p1 (fun h => h)
  have x0 := RW.cell (i := 0) (by simp)
  have x1 := RW.cell (i := 1) (by simp)
  simp at x0 x1
  have hKw := K0.trans p1
  have zw := hKw.size
  have g0 := (hKw.cell (World.block_lt_of_cell? w _ d0) (fun h => h)).trans d0
  have g2 := (hKw.cell (World.block_lt_of_cell? w _ d2) (fun h => h)).trans d2
  have g3 := (hKw.cell (World.block_lt_of_cell? w _ d3) (fun h => h)).trans d3
  have g4 := (hKw.cell (World.block_lt_of_cell? w _ d4) (fun h => h)).trans d4
  have q4 := (r4.lt.k hKw)
  clear d0 d2 d3 d4
  have h4' : fs.length ≤ 4 := HL4.out
  have q1 := hp.2.k hKw
  go_wp2_with fail
  refine (implCalleesOf0 fs _ _ _ _ _ _ _ _ q1 x HX.out h4' HCAL.out HB.out.1).mono ?_
  rintro e w2 ⟨g, rfl, hg, hr, p2⟩
  have HR := Lib.hid hr
  clear hr x0 x1 g0 g2 g3 g4 RW
  go_wp2_with fail
  refine (implIndicesOf g _ _ _ _ HR.out (by rw [bvisE_len, List.length_replicate]) (by omega)).mono ?_
  rintro e w3 ⟨a', n', c', rfl, hn', o3, p3⟩
  have O3 := Lib.hid o3
  clear o3
  go_wp2_with fail
  refine fin_ hQ ⟨a', n', c', rfl, ?_, (hKw.trans p2).trans p3⟩
  have e0 := calL_marks HCAL.out
  rw [HL.out] at e0
  rw [VP.out, ← e0]
  refine (O3.out.toOwn hn' ?_).mono (fun q hq => by have := p2.size; omega)
  have h1 := O3.out.1
  have h2 := idxL_len (visE bvis (fAt fs x).body (List.replicate n1 false))
  rw [bvisE_len, List.length_replicate] at h2
  omega
end Go.Proofs.Ytaeddcnakilnlaa
/- UnusedParams of both packages. -/
namespace Go.Proofs.Ytaeddcnakilnlaa
open Go.RowKit

/-- Which parameters are not mentioned. -/
def unuB (f : FuncL) : List Bool := (List.range f.params.length).map fun (i : Nat) => decide (mE (i : Int) f.body = 0)
theorem unuB_len (f : FuncL) : (unuB f).length = f.params.length := by simp [unuB]
theorem unuB_at {f : FuncL} {i : Nat} (h : i < f.params.length) : bAtL (unuB f) i = decide (mE (i : Int) f.body = 0) := by
  rw [bAtL_eq (by rw [unuB_len]; exact h)]; simp [unuB]
/-- What both functions UnusedParams return. -/
def unusedL (ds : List DeclL) (fs : List FuncL) (z : Int) : List Int := if progOk ds fs = true ∧ 0 ≤ z ∧ z < (fs.length : Int) then idxL (unuB (fAt fs z.toNat)) else []
end Go.Proofs.Ytaeddcnakilnlaa
/- ReachedFrom of both packages. -/
namespace Go.Proofs.Ytaeddcnakilnlaa
open Go.RowKit

/-- The functions that the body of a function names. -/
def calF (fs : List FuncL) (i : Nat) : List Int := calL (fAt fs i).body
/-- What both functions ReachedFrom return. -/
def reachedL (ds : List DeclL) (fs : List FuncL) (z : Int) : List Int := if progOk ds fs = true ∧ 0 ≤ z ∧ z < (fs.length : Int) then reachL (calF fs) fs.length z else []
theorem progOk_calF {ds : List DeclL} {fs : List FuncL} (h : progOk ds fs = true) : ∀ i, i < fs.length → ∀ y, y ∈ calF fs i → 0 ≤ y ∧ y < (fs.length : Int) := fun _ hi _ hy => calL_range (progOk_cal h hi) hy
theorem reachedL_len (ds : List DeclL) (fs : List FuncL) (z : Int) : (reachedL ds fs z).length ≤ 4 := by
  unfold reachedL
  split
  · next h =>
    have h1 := reachL_len (n := fs.length) ⟨h.2.1, h.2.2⟩ (progOk_calF h.1)
    have h2 := progOk_len h.1
    omega
  · simp
theorem insAll_len (xs : List Int) : ∀ out : List Int, (insAll out xs).length ≤ out.length + xs.length := by
  induction xs with
  | nil => intro out; simp [insAll]
  | cons x xs ih =>
    intro out
    have h1 := ih (insL out x)
    have h2 := insL_len out x
    simp only [insAll, List.foldl_cons, List.length_cons] at h1 ⊢
    omega
theorem unm_le (bs : List Bool) : unm bs ≤ bs.length := by
  induction bs with
  | nil => simp [unm]
  | cons b bs ih => simp only [unm, List.length_cons]; split <;> omega


set_option maxRecDepth 100000 in
set_option maxHeartbeats 8000000 in
theorem specReachedFrom0 (fs : List FuncL) (a0 : Option Addr) (n0 c0 : Nat) (a1 : Option Addr) (n1 c1 : Nat) (f : Int) (D1 : Nat → Prop) (w : World) (r1 : Rd w D1 (encFuncs fs) (.slice a1 n1 c1))
    (h4 : fs.length ≤ 4) (hf : 0 ≤ f ∧ f < (fs.length : Int)) (hcal : ∀ i, i < fs.length → ∀ y, y ∈ calF fs i → 0 ≤ y ∧ y < (fs.length : Int)) (hne : ∀ i, i < fs.length → nEs (fAt fs i).body.kids + 1 ≤ 30) :
    Calls Try.prog 90 #[.agg #[.slice a0 n0 c0, .slice a1 n1 c1], .int .i64 f] w fun e w' => ∃ a' n' c', e = .returned (.slice a' n' c') ∧ n' ≤ c' ∧ IntsL w' (fun q => w.heap.size ≤ q) a' n' (reachL (calF fs) fs.length f) ∧ Keep w w' := by
  refine calls_k fun Q hQ => ?_
  have K0 := Keep.al w (.cells #[.slice a0 n0 c0, .slice a1 n1 c1] 50)
  obtain ⟨e1, hnc, hm, hat⟩ := funcs_at r1
  rw [e1] at h4 hf hcal hne
  have HL := Lib.hid e1
  have HA := Lib.hid hat
  have HCAL := Lib.hid hcal
  have HNE := Lib.hid hne
  have HF := Lib.hid hf
  have LEN1 := Lib.hid (fun k => rnds_len (cal := calF fs) hf hcal k)
  have LEN2 := Lib.hid (fun k i => rndTo_len (cal := calF fs) hf hcal k i)
  clear e1 hat hcal hne hf r1
  go_enter Try.func90, Try.ntmps90
  go_wp2_with fail
  have KB : Keep (w.alloc (.cells #[.slice a0 n0 c0, .slice a1 n1 c1] 50)) ((w.alloc (.cells #[.slice a0 n0 c0, .slice a1 n1 c1] 50)).alloc (.cells #[.int .i64 f] 3)) := Keep.al _ _
  have I0 : Hid (IntsL ((w.alloc (.cells #[.slice a0 n0 c0, .slice a1 n1 c1] 50)).alloc (.cells #[.int .i64 f] 3)) (fun q => w.heap.size ≤ q) (some ⟨w.heap.size + 1, 0, none⟩) 1 (rnds (calF fs) n1 f 0)) := by
    refine ⟨rfl, fun _ => ⟨_, 0, rfl, by simp, fun j hj => ?_⟩⟩
    obtain rfl : j = 0 := by omega
    simp [rnds, iAt]
  go_loopw [5, 6] (fun v iv wr => ∃ (k : Nat) (a' : Option Addr) (n' c' : Nat), k ≤ n1 ∧ iv = .int .i64 k ∧ v = .slice a' n' c' ∧ n' ≤ c' ∧ Hid (IntsL wr (fun q => w.heap.size ≤ q) a' n' (rnds (calF fs) n1 f k)) ∧ Keep (w.alloc (.cells #[.slice a0 n0 c0, .slice a1 n1 c1] 50)) wr) (fun _ iv _ => n1 - (intOf iv).toNat)
  case atStart => exact ⟨0, _, _, _, Nat.zero_le _, rfl, rfl, Nat.le_refl _, I0, KB⟩
  case round =>
    obtain ⟨wo, rfl⟩ : ∃ wo : World, wo = wr := ⟨_, rfl⟩
    obtain ⟨k, a', n', c', hk, rfl, rfl, hnc', hI, hK⟩ := hrel
    have x1 := boxk hK 1
    simp at x1
    by_cases hlt : k < n1
    case neg =>
      have HK1 : Hid (k = fs.length) := by have := HL.out; show _ = _; omega
      go_wp2_with fail
      refine fin_ hQ ⟨a', n', c', rfl, hnc', ?_, K0.trans hK⟩
      have e := HK1.out
      rw [reachL, ← e]
      have e2 := HL.out
      rw [show n1 = k by omega] at hI
      exact hI.out
    go_wp2_with fail
    clear x1
    have I1 : Hid (IntsL wo (fun q => w.heap.size ≤ q) a' n' (rndTo (calF fs) (rnds (calF fs) n1 f k) 0)) := hI
    go_loopw [5, 7] (fun v iv wr => ∃ (i : Nat) (a' : Option Addr) (n' c' : Nat), i ≤ n1 ∧ iv = .int .i64 i ∧ v = .slice a' n' c' ∧ n' ≤ c' ∧ Hid (IntsL wr (fun q => w.heap.size ≤ q) a' n' (rndTo (calF fs) (rnds (calF fs) n1 f k) i)) ∧ Keep (w.alloc (.cells #[.slice a0 n0 c0, .slice a1 n1 c1] 50)) wr) (fun _ iv _ => n1 - (intOf iv).toNat)
    case atStart => exact ⟨0, _, _, _, Nat.zero_le _, rfl, rfl, hnc', I1, hK⟩
    case round =>
      obtain ⟨wo2, rfl⟩ : ∃ wo2 : World, wo2 = wr := ⟨_, rfl⟩
      obtain ⟨i, a2, n2, c2, hi, rfl, rfl, hnc2, hI2, hK2⟩ := hrel
      have x1 := boxk hK2 1
      simp at x1
      by_cases hlt2 : i < n1
      case neg =>
        have I3 : Hid (IntsL wo2 (fun q => w.heap.size ≤ q) a2 n2 (rnds (calF fs) n1 f (k + 1))) := by
          show IntsL _ _ _ _ _
          rw [rnds]
          have e : i = n1 := by omega
          have h := hI2.out
          rw [e] at h
          exact h
        go_wp2_with fail
        go_roundw
        case rel => exact ⟨k + 1, a2, n2, c2, by omega, by go_num, rfl, hnc2, I3, hK2⟩
        case measure => simp [intOf]; omega
      have hn2 : n2 ≤ 4 := by have h1 := hI2.out.1; have h2 := LEN2.out k i; omega
      by_cases hm2 : (i : Int) ∈ rndTo (calF fs) (rnds (calF fs) n1 f k) i
      case neg =>
        have HM2 : Hid (decide ((i : Int) ∈ rndTo (calF fs) (rnds (calF fs) n1 f k) i) = false) := decide_eq_false hm2
        have I3 : Hid (IntsL wo2 (fun q => w.heap.size ≤ q) a2 n2 (rndTo (calF fs) (rnds (calF fs) n1 f k) (i + 1))) := by
          show IntsL _ _ _ _ _
          rw [rndTo, rndAt, if_neg hm2]
          exact hI2.out
        clear hm2
        go_wp2_with fail
        refine (specIsIn _ _ _ _ _ _ _ hI2.out (by omega)).mono ?_
        rw [HM2.out]
        rintro e w3 ⟨rfl, rfl⟩
        go_wp2_with fail
        go_roundw
        case rel => exact ⟨i + 1, a2, n2, c2, by omega, by go_num, rfl, hnc2, I3, hK2⟩
        case measure => simp [intOf]; omega
      have HM2 : Hid (decide ((i : Int) ∈ rndTo (calF fs) (rnds (calF fs) n1 f k) i) = true) := decide_eq_true hm2
      have HMM := Lib.hid hm2
      clear hm2
      obtain ⟨b, o, rfl, hd, a3, n3, c3, a4, n4, c4, d0, d1, d2, d3, d4, r3, r4⟩ := HA.out i hlt2
      have hKw := K0.trans hK2
      have g2 := (hKw.cell (World.block_lt_of_cell? w _ d2) (fun h => h)).trans d2
      have g3 := (hKw.cell (World.block_lt_of_cell? w _ d3) (fun h => h)).trans d3
      have g4 := (hKw.cell (World.block_lt_of_cell? w _ d4) (fun h => h)).trans d4
      have q4 := ((r4.t).k hKw).k (Keep.al wo2 (.cells #[] 3))
      have i0 : IntsL (wo2.alloc (.cells #[] 3)) (fun q => w.heap.size ≤ q) (some ⟨wo2.heap.size, 0, none⟩) 0 [] := ⟨rfl, fun h => absurd h (by omega)⟩
      have hB : w.heap.size ≤ (wo2.alloc (.cells #[] 3)).heap.size := by have := hKw.size; simp; omega
      have HI : Hid (i < fs.length) := by have := HL.out; show _ < _; omega
      clear d0 d1 d2 d3 d4 r3 r4 hd
      go_wp2_with fail
      refine (specIsIn _ _ _ _ _ _ _ hI2.out (by omega)).mono ?_
      rw [HM2.out]
      rintro e w3 ⟨rfl, rfl⟩
      go_wp2_with fail
      refine (specCalleesIn_n _ (fAt fs i).body.op (fAt fs i).body.num (fAt fs i).body.kids (Nat.lt_succ_self _) _ _ _ _ _ 0 0 [] w.heap.size _ q4 i0 (Nat.le_refl _) hB (by have := HNE.out i hlt2; simp; omega)).mono ?_
      rintro e w4 ⟨an, nn, cn, rfl, hnn, in_, p4⟩
      have HN : Hid (IntsL w4 (fun q => w.heap.size ≤ q) an nn (calF fs i)) := by
        show IntsL _ _ _ _ _
        rw [calF, calL, ← show ExprL.mk (fAt fs i).body.op (fAt fs i).body.num (fAt fs i).body.kids = (fAt fs i).body from by cases (fAt fs i).body; rfl]
        exact in_
      have hnl : nn ≤ 30 := by
        have h1 := HN.out.1
        have h2 := calL_len (fAt fs i).body
        have h3 := nE_eq (fAt fs i).body
        have h4 := HNE.out i hlt2
        rw [calF] at h1
        omega
      have p5 := (Keep.al wo2 (.cells #[] 3)).trans p4
      have I4 : Hid (IntsL w4 (fun q => w.heap.size ≤ q) a2 n2 (insAll (rndTo (calF fs) (rnds (calF fs) n1 f k) i) ((calF fs i).take 0))) := by
        show IntsL _ _ _ _ _
        rw [List.take_zero]
        exact hI2.out.ext p5 (fun _ _ h => h)
      have K4 := hK2.trans p5
      clear in_ g2 g3 g4 x1 i0 q4 hB
      go_wp2_with fail
      go_loopw [5, 9] (fun v iv wr => ∃ (m : Nat) (a' : Option Addr) (n' c' : Nat), m ≤ nn ∧ iv = .int .i64 m ∧ v = .slice a' n' c' ∧ n' ≤ c' ∧ Hid (IntsL wr (fun q => w.heap.size ≤ q) a' n' (insAll (rndTo (calF fs) (rnds (calF fs) n1 f k) i) ((calF fs i).take m))) ∧ Keep w4 wr) (fun _ iv _ => nn - (intOf iv).toNat)
      case atStart => exact ⟨0, _, _, _, Nat.zero_le _, rfl, rfl, hnc2, I4, Ext.refl _ _⟩
      case round =>
        obtain ⟨wo3, rfl⟩ : ∃ wo3 : World, wo3 = wr := ⟨_, rfl⟩
        obtain ⟨m, a5, n5, c5, hm', rfl, rfl, hnc5, hI5, hK5⟩ := hrel
        have hn5 : n5 ≤ 100 := by
          have h1 := hI5.out.1
          have h2 := insAll_len ((calF fs i).take m) (rndTo (calF fs) (rnds (calF fs) n1 f k) i)
          have h3 := LEN2.out k i
          rw [List.length_take] at h2
          have h4 := HN.out.1
          omega
        by_cases hlt3 : m < nn
        case neg =>
          have I6 : Hid (IntsL wo3 (fun q => w.heap.size ≤ q) a5 n5 (rndTo (calF fs) (rnds (calF fs) n1 f k) (i + 1))) := by
            show IntsL _ _ _ _ _
            rw [rndTo, rndAt, if_pos HMM.out]
            have h := hI5.out
            rw [List.take_of_length_le (by have := HN.out.1; omega)] at h
            exact h
          go_wp2_with fail
          go_roundw
          case rel => exact ⟨i + 1, a5, n5, c5, by omega, by go_num, rfl, hnc5, I6, K4.trans hK5⟩
          case measure => simp [intOf]; omega
        obtain ⟨bn, on, rfl, hdn, hcn⟩ := HN.out.2 (by omega)
        have y0 := (hK5.cell (World.block_lt_of_cell? _ _ (hcn m hlt3)) (fun h => h)).trans (hcn m hlt3)
        have HJ : Hid (m < (calF fs i).length) := by have := HN.out.1; show _ < _; omega
        clear hcn
        go_wp2_with fail
        refine (specInsert _ _ _ _ _ _ _ hI5.out (by omega)).mono ?_
        rintro e w6 ⟨a6, n6, c6, rfl, hn6, o6, p6⟩
        have I6 : Hid (IntsL w6 (fun q => w.heap.size ≤ q) a6 n6 (insAll (rndTo (calF fs) (rnds (calF fs) n1 f k) i) ((calF fs i).take (m + 1)))) := by
          show IntsL _ _ _ _ _
          rw [insAll_take HJ.out]
          have z1 := hK5.size
          have z2 := K4.size
          simp at z2
          exact (o6.read).mono (fun q hq => by have h : wo3.heap.size ≤ q := hq; omega)
        clear o6 y0
        go_wp2_with fail
        go_roundw
        case rel => exact ⟨m + 1, a6, n6, c6, by omega, by go_num, rfl, hn6, I6, hK5.trans p6⟩
        case measure => simp [intOf]; omega

set_option maxRecDepth 100000 in
set_option maxHeartbeats 2000000 in
theorem specReachedFrom (ds : List DeclL) (fs : List FuncL) (a0 : Option Addr) (n0 c0 : Nat) (a1 : Option Addr) (n1 c1 : Nat) (z : Int) (D0 D1 : Nat → Prop) (w : World) (r0 : Rd w D0 (encDecls ds) (.slice a0 n0 c0)) (r1 : Rd w D1 (encFuncs fs) (.slice a1 n1 c1)) :
    Calls Try.prog 45 #[.agg #[.slice a0 n0 c0, .slice a1 n1 c1], .int .i64 z] w fun e w' => ∃ a' n' c', e = .returned (.slice a' n' c') ∧ Rd w' (fun q => w.heap.size ≤ q) (encInts (reachedL ds fs z)) (.slice a' n' c') ∧ Keep w w' := by
  refine calls_k fun Q hQ => ?_
  have K0 := Keep.al w (.cells #[.slice a0 n0 c0, .slice a1 n1 c1] 50)
  have hp : PR w ds fs a0 n0 c0 a1 n1 c1 := ⟨r0.t, r1.t⟩
  have R0 := rowOf w #[.slice a0 n0 c0, .slice a1 n1 c1] 50
  obtain ⟨e1, hnc, hm, hat⟩ := funcs_at hp.2
  have HL := Lib.hid e1
  have HA := Lib.hid hat
  clear e1 hat
  by_cases hv : progOk ds fs = true
  case neg =>
    have HV : Hid (progOk ds fs = false) := by show _ = _; simpa using hv
    have V : Hid (reachedL ds fs z = []) := by show _ = _; rw [reachedL, if_neg (fun h => hv h.1)]
    clear hv
    go_enter Try.func45, Try.ntmps45
    go_wp2_with fail
    refine (specValidProgram0 ds fs _ _ _ _ _ _ _ _ _ (r0.k K0) (r1.k K0)).mono ?_
    rw [HV.out]
    rintro e w1 ⟨rfl, p1⟩
    go_wp2_with fail
    exact fin_ hQ ⟨none, 0, 0, rfl, by rw [V.out]; exact .nil 1 none 0, K0.trans p1⟩
  have HV := Lib.hid hv
  have hl := progOk_len hv
  have HL4 := Lib.hid hl.2
  rw [HL.out] at hl
  obtain ⟨hl1, hl4⟩ := hl
  by_cases hz : 0 ≤ z ∧ z < (n1 : Int)
  case neg =>
    have V : Hid (reachedL ds fs z = []) := by show _ = _; rw [reachedL, if_neg (fun h => hz ⟨h.2.1, by have := h.2.2; have := HL.out; omega⟩)]
    have HZ : Hid (decide (0 ≤ z ∧ z ≤ (n1 : Int) - 1) = false) := decide_eq_false (by omega)
    clear hz hv
    go_enter Try.func45, Try.ntmps45
    go_wp2_with fail
    refine (specValidProgram0 ds fs _ _ _ _ _ _ _ _ _ (r0.k K0) (r1.k K0)).mono ?_
    rw [HV.out]
    rintro e w1 ⟨rfl, p1⟩
    have x1 := boxk p1 1
    simp at x1
    go_wp2_with fail
    refine (specInRange _ _ _ _).mono ?_
    rw [HZ.out]
    rintro e w2 ⟨rfl, rfl⟩
    go_wp2_with fail
    exact fin_ hQ ⟨none, 0, 0, rfl, by rw [V.out]; exact .nil 1 none 0, K0.trans p1⟩
  obtain ⟨x, rfl⟩ : ∃ x : Nat, z = (x : Int) := ⟨z.toNat, by omega⟩
  have hx : x < n1 := by omega
  have HX : Hid (x < fs.length) := by have := HL.out; show _ < _; omega
  have HB := Lib.hid (bodyOk_parts (progOk_parts hv).1 HX.out ((progOk_parts hv).2 x HX.out))
  have PT := sigF_at (progOk_parts hv).1 HX.out
  have PL := Lib.hid PT.1
  have HCAL := Lib.hid (progOk_cal hv HX.out)
  have VP : Hid (reachedL ds fs (x : Int) = reachL (calF fs) fs.length (x : Int)) := by show _ = _; rw [reachedL, if_pos ⟨hv, by omega, by have := HX.out; omega⟩]
  obtain ⟨b, o, rfl, hd, a3, n3, c3, a4, n4, c4, d0, d1, d2, d3, d4, r3, r4⟩ := HA.out x hx
  have HZ : Hid (decide (0 ≤ (x : Int) ∧ (x : Int) ≤ (n1 : Int) - 1) = true) := decide_eq_true (by omega)
  clear hz hv PT d1
  go_enter Try.func45, Try.ntmps45
  go_wp2_with fail
  refine (specValidProgram0 ds fs _ _ _ _ _ _ _ _ _ (r0.k K0) (r1.k K0)).mono ?_
  rw [HV.out]
  rintro e w1 ⟨rfl, p1⟩
  have RW := row_ext R0 p1 (fun h => h)
  have x0 := RW.cell (i := 0) (by simp)
  have x1 := RW.cell (i := 1) (by simp)
  simp at x0 x1
  go_wp2_with fail
  refine (specInRange _ _ _ _).mono ?_
  rw [HZ.out]
  rintro e w2 ⟨rfl, rfl⟩
  have hKw := K0.trans p1
  have zw := hKw.size
  have g0 := (hKw.cell (World.block_lt_of_cell? w _ d0) (fun h => h)).trans d0
  have g2 := (hKw.cell (World.block_lt_of_cell? w _ d2) (fun h => h)).trans d2
  have g3 := (hKw.cell (World.block_lt_of_cell? w _ d3) (fun h => h)).trans d3
  have g4 := (hKw.cell (World.block_lt_of_cell? w _ d4) (fun h => h)).trans d4
  have q4 := (r4.lt.k hKw)
  clear d0 d2 d3 d4
  have HV2 := HV
  have q1 := hp.2.k hKw
  clear g0 g2 g3 g4 q4
  go_wp2_with fail
  refine (specReachedFrom0 fs _ _ _ _ _ _ (x : Int) _ _ q1 HL4.out ⟨by omega, by have := HX.out; omega⟩ (progOk_calF HV2.out) (fun i hi => (bodyOk_parts (progOk_parts HV2.out).1 hi ((progOk_parts HV2.out).2 i hi)).1)).mono ?_
  rintro e w3 ⟨a', n', c', rfl, hn', i3, p3⟩
  have I3 := Lib.hid i3
  clear i3 x0 x1
  go_wp2_with fail
  refine fin_ hQ ⟨a', n', c', rfl, ?_, hKw.trans p3⟩
  rw [VP.out]
  refine (I3.out.toRd hn' ?_).mono (fun q hq => by have := hKw.size; change w1.heap.size ≤ q at hq; omega)
  have h1 := I3.out.1
  have h2 := reachL_len (cal := calF fs) (n := fs.length) (f := (x : Int)) ⟨by omega, by have := HX.out; omega⟩ (progOk_calF HV2.out)
  have h3 := HL4.out
  omega

set_option maxRecDepth 100000 in
set_option maxHeartbeats 8000000 in
theorem implReachedFrom (ds : List DeclL) (fs : List FuncL) (a0 : Option Addr) (n0 c0 : Nat) (a1 : Option Addr) (n1 c1 : Nat) (z : Int) (D0 D1 : Nat → Prop) (w : World) (r0 : Rd w D0 (encDecls ds) (.slice a0 n0 c0)) (r1 : Rd w D1 (encFuncs fs) (.slice a1 n1 c1)) (hfit : fitP fs) :
    Calls Try.prog 43 #[.agg #[.slice a0 n0 c0, .slice a1 n1 c1], .int .i64 z] w fun e w' => ∃ a' n' c', e = .returned (.slice a' n' c') ∧ Own w' (fun q => w.heap.size ≤ q) (encInts (reachedL ds fs z)) (.slice a' n' c') ∧ Keep w w' := by
  refine calls_k fun Q hQ => ?_
  have HFT := Lib.hid hfit
  clear hfit
  have K0 := Keep.al w (.cells #[.slice a0 n0 c0, .slice a1 n1 c1] 50)
  have hp : PR w ds fs a0 n0 c0 a1 n1 c1 := ⟨r0.t, r1.t⟩
  have R0 := rowOf w #[.slice a0 n0 c0, .slice a1 n1 c1] 50
  obtain ⟨e1, hnc, hm, hat⟩ := funcs_at hp.2
  have HL := Lib.hid e1
  have HA := Lib.hid hat
  clear e1 hat
  by_cases hv : progOk ds fs = true
  case neg =>
    have HV : Hid (progOk ds fs = false) := by show _ = _; simpa using hv
    have V : Hid (reachedL ds fs z = []) := by show _ = _; rw [reachedL, if_neg (fun h => hv h.1)]
    clear hv
    go_enter Try.func43, Try.ntmps43
    go_wp2_with fail
    refine (implValidProgram ds fs _ _ _ _ _ _ _ _ _ (r0.k K0) (r1.k K0) HFT.out).mono ?_
    rw [HV.out]
    rintro e w1 ⟨rfl, p1⟩
    go_wp2_with fail
    exact fin_ hQ ⟨none, 0, 0, rfl, by rw [V.out]; exact .nil _ 1 none 0, K0.trans p1⟩
  have HV := Lib.hid hv
  have hl := progOk_len hv
  have HL4 := Lib.hid hl.2
  rw [HL.out] at hl
  obtain ⟨hl1, hl4⟩ := hl
  by_cases hz : 0 ≤ z ∧ z < (n1 : Int)
  case neg =>
    have V : Hid (reachedL ds fs z = []) := by show _ = _; rw [reachedL, if_neg (fun h => hz ⟨h.2.1, by have := h.2.2; have := HL.out; omega⟩)]
    by_cases hz0 : z < 0
    · have hz1 : decide (z < 0) = true := decide_eq_true hz0
      clear hz hv
      go_enter Try.func43, Try.ntmps43
      go_wp2_with fail
      refine (implValidProgram ds fs _ _ _ _ _ _ _ _ _ (r0.k K0) (r1.k K0) HFT.out).mono ?_
      rw [HV.out]
      rintro e w1 ⟨rfl, p1⟩
      have x1 := boxk p1 1
      simp at x1
      go_wp2_with fail
      exact fin_ hQ ⟨none, 0, 0, rfl, by rw [V.out]; exact .nil _ 1 none 0, K0.trans p1⟩
    have hz1 : decide (z < 0) = false := decide_eq_false hz0
    have hz2 : (n1 : Int) ≤ z := by omega
    clear hz hv
    go_enter Try.func43, Try.ntmps43
    go_wp2_with fail
    refine (implValidProgram ds fs _ _ _ _ _ _ _ _ _ (r0.k K0) (r1.k K0) HFT.out).mono ?_
    rw [HV.out]
    rintro e w1 ⟨rfl, p1⟩
    have x1 := boxk p1 1
    simp at x1
    go_wp2_with fail
    exact fin_ hQ ⟨none, 0, 0, rfl, by rw [V.out]; exact .nil _ 1 none 0, K0.trans p1⟩
  obtain ⟨x, rfl⟩ : ∃ x : Nat, z = (x : Int) := ⟨z.toNat, by omega⟩
  have hx : x < n1 := by omega
  have HX : Hid (x < fs.length) := by have := HL.out; show _ < _; omega
  have HB := Lib.hid (bodyOk_parts (progOk_parts hv).1 HX.out ((progOk_parts hv).2 x HX.out))
  have PT := sigF_at (progOk_parts hv).1 HX.out
  have PL := Lib.hid PT.1
  have HCAL := Lib.hid (progOk_cal hv HX.out)
  have VP : Hid (reachedL ds fs (x : Int) = reachL (calF fs) fs.length (x : Int)) := by show _ = _; rw [reachedL, if_pos ⟨hv, by omega, by have := HX.out; omega⟩]
  obtain ⟨b, o, rfl, hd, a3, n3, c3, a4, n4, c4, d0, d1, d2, d3, d4, r3, r4⟩ := HA.out x hx
  have hz1 : decide ((x : Int) < 0) = false := decide_eq_false (by omega)
  clear hz hv PT d1
  go_enter Try.func43, Try.ntmps43
  go_wp2_with fail
  refine (implValidProgram ds fs _ _ _ _ _ _ _ _ _ (r0.k K0) (r1.k K0) HFT.out).mono ?_
  rw [HV.out]
  rintro e w1 ⟨rfl, p1⟩
  have RW := row_ext R0 p1 (fun h => h)
  have x0 := RW.cell (i := 0) (by simp)
  have x1 := RW.cell (i := 1) (by simp)
  simp at x0 x1
  have hKw := K0.trans p1
  have zw := hKw.size
  have g0 := (hKw.cell (World.block_lt_of_cell? w _ d0) (fun h => h)).trans d0
  have g2 := (hKw.cell (World.block_lt_of_cell? w _ d2) (fun h => h)).trans d2
  have g3 := (hKw.cell (World.block_lt_of_cell? w _ d3) (fun h => h)).trans d3
  have g4 := (hKw.cell (World.block_lt_of_cell? w _ d4) (fun h => h)).trans d4
  have q4 := (r4.lt.k hKw)
  clear d0 d2 d3 d4
  have KW := Lib.hid hKw
  have h4' : fs.length ≤ 4 := HL4.out
  have H44 := Lib.hid h4'
  have q1 := Lib.hid (hp.2.k hKw)
  have HCR : Hid (∀ i, i < n1 → ∀ y, y ∈ calF fs i → 0 ≤ y ∧ y < (n1 : Int)) := by
    have := progOk_calF HV.out
    rw [HL.out] at this
    exact this
  have HCI : Hid (∀ i, i < n1 → i < fs.length ∧ allE (calIn fs.length) (fAt fs i).body ∧ nEs (fAt fs i).body.kids + 1 ≤ 30) := fun i hi => by
    have h1 : i < fs.length := by have := HL.out; omega
    exact ⟨h1, progOk_cal HV.out h1, (bodyOk_parts (progOk_parts HV.out).1 h1 ((progOk_parts HV.out).2 i h1)).1⟩
  clear g0 g2 g3 g4 q4 hKw h4' hl1 zw
  go_wp2_with (at_make; refine wpList_makeN _ rfl _ _ 114 rfl 4 (.bool false) #[.bool false] 1 1 Try.underlying114 (by kernel_rfl) rfl rfl n1 rfl rfl (by omega) (by omega) ?_; intro w2 hr hk hsz; have R1 := Lib.hid ((show w2.rowIs w1.heap.size 4 n1 (fun i => .bool (bAtL (List.replicate n1 false) i)) by (rw [Nat.mul_one] at hr; refine hr.congr (fun i hi => ?_); rw [Nat.mod_one]; simp [bAtL, hi]))); have y0 := R1.out.cell hx; have f0 := R1.out.frozen x; have lg := R1.out.lt; clear hr x0 x1)
  have HSZ := Lib.hid hsz
  have K2 := Lib.hid hk
  have R2 : Hid ((w2.setCell ⟨w1.heap.size, x, none⟩ (.bool true)).rowIs w1.heap.size 4 n1 (fun i => .bool (bAtL ((List.replicate n1 false).set (x : Int).toNat true) i))) := by
    refine (R1.out.set x (.bool true)).congr (fun i hi => ?_)
    rw [Int.toNat_natCast, bAtL_setN (by simpa using hx)]
    by_cases e : i = x
    · subst e; simp
    · rw [if_neg e]; simp [show ¬ x = i from fun h => e h.symm]
  have E2 : Hid (Keep w1 (w2.setCell ⟨w1.heap.size, x, none⟩ (.bool true))) := (K2.out).setCell (p := ⟨w1.heap.size, x, none⟩) (.inl (Nat.le_refl _)) _
  have S2 : Hid ((w2.setCell ⟨w1.heap.size, x, none⟩ (.bool true)).heap.size = w1.heap.size + 1) := by show _ = _; simp [World.setCell]; exact HSZ.out
  generalize hW2 : w2.setCell ⟨w1.heap.size, x, none⟩ (.bool true) = W2 at *
  clear hW2 R1 y0 f0 hsz hk lg K2 HSZ w2
  have Q0 : Hid (QRow (W2.alloc (.cells #[.int .i64 (x : Int)] 3)) (w1.heap.size + 1) (.slice (some ⟨w1.heap.size + 1, 0, none⟩) 1 1) [(x : Int)]) := by
    show QRow _ _ _ _
    rw [← S2.out]
    exact QRow.lit W2 (x : Int) (Nat.le_refl _)
  have WI : Hid (WorkI (calF fs) n1 (x : Int) ((List.replicate n1 false).set (x : Int).toNat true) [(x : Int)]) := WorkI.start ⟨by omega, by omega⟩
  go_loopg [6] (unm ((List.replicate n1 false).set (x : Int).toNat true) + 1) (fun gk v wr => ∃ (bs : List Bool) (wk : List Int), Hid (gk = unm bs + wk.length) ∧ Hid (WorkI (calF fs) n1 (x : Int) bs wk) ∧ Hid (wr.rowIs w1.heap.size 4 n1 (fun i => .bool (bAtL bs i))) ∧ Hid (QRow wr (w1.heap.size + 1) v wk) ∧ wk.length + unm bs ≤ 1000 ∧ Keep w1 wr)
  case atStart => exact ⟨(List.replicate n1 false).set (x : Int).toNat true, [(x : Int)], (by show unm _ + 1 = unm _ + 1; rfl), WI, R2.out.alloc _, Q0, by have h := unm_le ((List.replicate n1 false).set (x : Int).toNat true); simp only [List.length_set, List.length_replicate] at h; simp only [List.length_cons, List.length_nil]; omega, E2.out.alloc _⟩
  case round =>
    obtain ⟨wo, rfl⟩ : ∃ wo : World, wo = wr := ⟨_, rfl⟩
    obtain ⟨bs, wk, hG, hW, hR, hQr, hWL, hK⟩ := hrel
    obtain ⟨q, oq, cq, rfl, hbq, hlq, hlc, hcq⟩ := hQr.out.form
    have HCQ := Lib.hid hcq
    clear hcq
    have RWo := Lib.hid (row_ext RW hK (fun h => h))
    rcases wk with _ | ⟨y, wk⟩
    · have VF : Hid (idxL bs = reachL (calF fs) fs.length (x : Int)) := by
        show _ = _
        rw [HL.out]
        exact hW.out.done ⟨by omega, by omega⟩ HCR.out
      go_wp2_with fail
      refine (implIndicesOf _ _ _ bs _ hR.out hW.out.len (by omega)).mono ?_
      rintro e w3 ⟨a', n', c', rfl, hn', o3, p3⟩
      have O3 := Lib.hid o3
      clear o3
      go_wp2_with fail
      refine fin_ hQ ⟨a', n', c', rfl, ?_, (KW.out.trans hK).trans p3⟩
      rw [VP.out, ← VF.out]
      refine (O3.out.toOwn hn' ?_).mono (fun q hq => by have := hK.size; have := KW.out.size; omega)
      have h1 := O3.out.1
      have h2 := idxL_len bs
      have h3 := hW.out.len
      omega
    obtain ⟨hy0, hy1, hyb⟩ := hW.out.work y (by simp)
    obtain ⟨Y, rfl⟩ : ∃ Y : Nat, y = (Y : Int) := ⟨y.toNat, by omega⟩
    have hY : Y < n1 := by omega
    have HYB : Hid (bAtL bs Y = true) := by rw [Int.toNat_natCast] at hyb; exact hyb
    clear hyb
    have y0 := HCQ.out 0 (by simp)
    have x0 := RWo.out.cell (i := 0) (by simp)
    have x1 := RWo.out.cell (i := 1) (by simp)
    simp only [List.length_cons, Nat.add_zero] at hlc y0
    rw [show iAt ((Y : Int) :: wk) 0 = (Y : Int) from rfl] at y0
    simp at x0 x1
    have CI := Lib.hid (HCI.out Y hY)
    have qq := (q1.out.k hK).kd
    have pc := Ext.refl0 wo
    have hlw : (0 : Int) < ((wk.length + 1 : Nat) : Int) := by omega
    have HBASE : Hid (w1.heap.size < wo.heap.size) := hR.out.lt
    have HWL := Lib.hid hWL
    simp only [List.length_cons]
    go_wp2_with fail
    go_region_held3 (fun w' => w'.cell? ⟨w.heap.size, 0, none⟩ = some (.slice a0 n0 c0) ∧ w'.cell? ⟨w.heap.size, 1, none⟩ = some (.slice (some ⟨b, o, none⟩) n1 c1) ∧ w'.cell? ⟨q, oq, none⟩ = some (.int .i64 (Y : Int)))
      (first | exact ⟨Keep.at pc x0, Keep.at pc x1, Keep.at pc y0⟩ | exact ⟨Keep.at (Ext.trans pc (Keep.al _ _)) x0, Keep.at (Ext.trans pc (Keep.al _ _)) x1, Keep.at (Ext.trans pc (Keep.al _ _)) y0⟩ | go_keep)
      (first
        | (go_at_call 87; refine (implCalleesOf0 fs _ _ _ _ _ _ _ _ (qq.k pc) Y CI.out.1 H44.out CI.out.2.1 CI.out.2.2).mono ?_; rintro e wa ⟨gg, rfl, hgg, hrr, pa⟩; replace pc := Ext.trans pc pa; have HRR := Lib.hid hrr; clear hrr)
        | (go_at_call 86; refine (implIndicesOf gg _ _ _ _ HRR.out (by rw [bvisE_len, List.length_replicate]) (by omega)).mono ?_; rintro e wb ⟨ac, nc, cc, rfl, hcc, oc, pb⟩; replace pc := Ext.trans pc pb; have OC := Lib.hid oc; have HCC := Lib.hid hcc; have PA := Lib.hid pa; have PB := Lib.hid pb; clear oc pa pb hcc))
    have KC := Keep.dt pc
    have CE : Hid (idxL (visE bvis (fAt fs Y).body (List.replicate n1 false)) = calF fs Y) := by
      have h := calL_marks CI.out.2.1
      rw [HL.out] at h
      exact h
    have C0 : Hid (IntsL wb (fun q => wo.heap.size ≤ q ∧ q < wb.heap.size) ac nc (calF fs Y)) := by
      show IntsL _ _ _ _ _
      rw [← CE.out]
      exact ((OC.out.toOwn HCC.out (by have h1 := OC.out.1; have h2 := idxL_len (visE bvis (fAt fs Y).body (List.replicate n1 false)); rw [bvisE_len, List.length_replicate] at h2; omega)).lt.read.toInts).mono (fun q hq => by
        have z1 := PA.out.size
        have z2 := hq.1
        have z3 := hq.2
        have z4 := (Keep.dt (Ext.trans (Ext.refl0 wo) PA.out)).size
        simp only [World.drew] at z1 z2 z3 z4
        omega)
    have RC := row_ext RWo.out KC (fun h => h)
    have R3 := Lib.hid (row_ext hR.out KC (fun h => h))
    have Q3 := Lib.hid (hQr.out.ext KC (fun _ _ h => h))
    have K3 := Lib.hid (hK.trans KC)
    have zo := Lib.hid KC.size
    have hnc4 : nc ≤ 4 := by
      have h1 := C0.out.1
      have h2 := asc_len (n := n1) (xs := calF fs Y) (by rw [← CE.out]; exact idxL_asc _) (fun x hx => HCR.out Y hY x hx)
      omega
    have HG := Lib.hid (show gk = unm bs + (wk.length + 1) from hG.out)
    have HW := Lib.hid hW.out
    have HFA : Hid (∀ i, i < 0 → bAtL bs (iAt (calF fs Y) i).toNat = true) := fun i hi => absurd hi (by omega)
    have HOB : Hid (∀ k, (Value.slice (some ⟨q, oq, none⟩) (wk.length + 1) cq).ownBlock = some k → k < wo.heap.size ∨ wb.heap.size ≤ k) := fun k hk => .inl ((hQr.out.lt k hk).2)
    clear pc x0 x1 y0 qq KC RWo hR hQr hG hW HRR OC PA PB CE R0 RW hK
    go_wp2_with fail
    go_loopw [6, 44] (fun v iv wr => ∃ (j : Nat) (bs2 : List Bool) (wk2 : List Int), j ≤ nc ∧ iv = .int .i64 j ∧ Hid (WorkI (calF fs) n1 (x : Int) bs2 ((Y : Int) :: wk2)) ∧ Hid (∀ i, i < j → bAtL bs2 (iAt (calF fs Y) i).toNat = true) ∧ Hid (unm bs2 + wk2.length = unm bs + wk.length) ∧ Hid (bAtL bs2 Y = true) ∧ Hid (wr.rowIs w1.heap.size 4 n1 (fun i => .bool (bAtL bs2 i))) ∧ Hid (QRow wr (w1.heap.size + 1) v ((Y : Int) :: wk2)) ∧ Hid (∀ k, v.ownBlock = some k → k < wo.heap.size ∨ wb.heap.size ≤ k) ∧ Keep w1 wr ∧ Hid (wb.heap.size ≤ wr.heap.size) ∧ Hid (IntsL wr (fun q => wo.heap.size ≤ q ∧ q < wb.heap.size) ac nc (calF fs Y))) (fun _ iv _ => nc - (intOf iv).toNat)
    case atStart => exact ⟨0, bs, wk, Nat.zero_le _, rfl, HW, HFA, rfl, HYB, R3, by have h := Q3.out; simp only [List.length_cons] at h; exact h, HOB, K3.out, Nat.le_refl _, C0⟩
    case round =>
      obtain ⟨wo2, rfl⟩ : ∃ wo2 : World, wo2 = wr := ⟨_, rfl⟩
      obtain ⟨j, bs2, wk2, hj, rfl, hW2, hF2, hU2, hY2, hR2, hQ2, hO2, hK2, hZ2, hC2⟩ := hrel
      obtain ⟨q2, o2, cq2, rfl, hb2, hl2, hlc2, hcq2⟩ := hQ2.out.form
      clear hcq2
      simp only [List.length_cons] at hlc2
      by_cases hlt : j < nc
      case neg =>
        have HD : Hid (∀ y, y ∈ calF fs (Y : Int).toNat → bAtL bs2 y.toNat = true) := fun y hy => by
          rw [Int.toNat_natCast] at hy
          obtain ⟨i, hi, rfl⟩ := mem_iAt hy
          exact hF2.out i (by have := hC2.out.1; omega)
        have W3 := Lib.hid (hW2.out.pop HD.out)
        by_cases hcq : cq2 = 1
        · have hw0 : wk2.length = 0 := by omega
          obtain rfl : wk2 = [] := List.eq_nil_of_length_eq_zero hw0
          have Q4 := Lib.hid hQ2.out.tail0
          subst hcq
          simp only [List.length_cons, List.length_nil]
          go_wp2_with fail
          go_roundg (unm bs2 + 0)
          case measure => have h1 := HG.out; have h2 := hU2.out; simp only [List.length_nil] at h2; omega
          case rel => exact ⟨bs2, [], (by show unm bs2 + 0 = unm bs2 + 0; rfl), W3, hR2, Q4, by have h1 := hU2.out; have h2 := HWL.out; simp only [List.length_cons, List.length_nil] at h1 h2 ⊢; omega, hK2⟩
        · have Q4 := Lib.hid hQ2.out.tail
          simp only [List.length_cons]
          go_wp2_with fail
          go_roundg (unm bs2 + wk2.length)
          case measure => have h1 := HG.out; have h2 := hU2.out; omega
          case rel => exact ⟨bs2, wk2, (by show _ = _; rfl), W3, hR2, by have h := Q4.out; simp only [List.length_cons, Nat.add_sub_cancel] at h; exact h, by have h1 := hU2.out; have h2 := HWL.out; simp only [List.length_cons] at h2; omega, hK2⟩
      obtain ⟨bc, oc2, rfl, hdc, hcc2⟩ := hC2.out.2 (by omega)
      have y0 := hcc2 j hlt
      have HJ : Hid (j < (calF fs Y).length) := by have := hC2.out.1; show _ < _; omega
      obtain ⟨y, hy⟩ : ∃ y, iAt (calF fs Y) j = y := ⟨_, rfl⟩
      have HYM : Hid (y ∈ calF fs Y) := by show _ ∈ _; rw [← hy]; exact iAt_mem HJ.out
      rw [hy] at y0
      have HIY := Lib.hid hy
      have hyr := HCR.out Y hY y HYM.out
      obtain ⟨Z, rfl⟩ : ∃ Z : Nat, y = (Z : Int) := ⟨y.toNat, by omega⟩
      have hZ : Z < n1 := by omega
      have r0 := hR2.out.cell hZ
      have f0 := hR2.out.frozen Z
      have lg := hR2.out.lt
      clear hcc2 hy hyr
      simp only [List.length_cons]
      cases hb : bAtL bs2 Z
      case true =>
        rw [hb] at r0
        have HF3 : Hid (∀ i, i < j + 1 → bAtL bs2 (iAt (calF fs Y) i).toNat = true) := fun i hi => by
          rcases Nat.lt_succ_iff_lt_or_eq.1 hi with h | rfl
          · exact hF2.out i h
          · rw [HIY.out, Int.toNat_natCast]; exact hb
        clear hb
        go_wp2_with fail
        go_roundw
        case rel => exact ⟨j + 1, bs2, wk2, by omega, by go_num, hW2, HF3, hU2, hY2, hR2, by have h := hQ2.out; simp only [List.length_cons] at h; exact h, by have h := hO2.out; simp only [List.length_cons] at h; exact h, hK2, hZ2, hC2⟩
        case measure => simp [intOf]; omega
      rw [hb] at r0
      have hlb : Z < bs2.length := by have := hW2.out.len; omega
      have W4 := Lib.hid (hW2.out.push hY hY2.out HYM.out ⟨by omega, by omega⟩)
      have U4 := Lib.hid (unm_set hlb hb)
      have R4 : Hid ((wo2.setCell ⟨w1.heap.size, Z, none⟩ (.bool true)).rowIs w1.heap.size 4 n1 (fun i => .bool (bAtL (bs2.set Z true) i))) := by
        refine (hR2.out.set Z (.bool true)).congr (fun i hi => ?_)
        rw [bAtL_setN hlb]
        by_cases e : i = Z
        · subst e; simp
        · rw [if_neg e]; simp [show ¬ Z = i from fun h => e h.symm]
      have E4 : Ext (fun k => k = w1.heap.size) wo2 (wo2.setCell ⟨w1.heap.size, Z, none⟩ (.bool true)) := (Ext.refl (fun k => k = w1.heap.size) wo2).setCell (p := ⟨w1.heap.size, Z, none⟩) (.inr rfl) _
      have F4 : Hid (∀ i, i < j + 1 → bAtL (bs2.set Z true) (iAt (calF fs Y) i).toNat = true) := fun i hi => by
        rw [bAtL_setN hlb]
        rcases Nat.lt_succ_iff_lt_or_eq.1 hi with h | rfl
        · rw [hF2.out i h]; simp
        · rw [HIY.out, Int.toNat_natCast]; simp
      have Y4 : Hid (bAtL (bs2.set Z true) Y = true) := by show _ = _; rw [bAtL_setN hlb, hY2.out]; simp
      have C4 := hC2.out.ext E4 (fun k hk e => by have h1 := hk.1; have h2 := K3.out.size; have h3 := zo.out; subst e; have h4 := HBASE.out; omega)
      have Q4 := hQ2.out.ext E4 (fun k hk e => by have h1 := (hQ2.out.lt k hk).1; omega)
      have K4 : Keep w1 (wo2.setCell ⟨w1.heap.size, Z, none⟩ (.bool true)) := hK2.setCell (p := ⟨w1.heap.size, Z, none⟩) (.inl (Nat.le_refl _)) _
      have Z4 : (wo2.setCell ⟨w1.heap.size, Z, none⟩ (.bool true)).heap.size = wo2.heap.size := by simp [World.setCell]
      have hwl : ((Y : Int) :: wk2).length ≤ 1000000 := by
        have h1 := hU2.out
        have h4 := HWL.out
        simp only [List.length_cons] at h4 ⊢; omega
      have HQ4 := Lib.hid Q4
      have HC4 := Lib.hid C4
      have HK4 := Lib.hid K4
      have HR4 := R4
      have HZ4 := Lib.hid Z4
      have HWL2 := Lib.hid hwl
      clear hb Q4 C4 K4 Z4 E4 hwl
      go_wp2_with (at_builtin; refine wpList_appQ _ rfl (.tmp 56) (.tmp 58) rfl (w1.heap.size + 1) (.slice (some ⟨q2, o2, none⟩) (wk2.length + 1) cq2) ((Y : Int) :: wk2) rfl (HQ4.out.ext (Keep.al _ _) (fun _ _ h => h)) wo2.heap.size 1 (Z : Int) rfl (by simp [go_sem]) HWL2.out (by simp; have := hb2; omega) ?_; intro v' w' hq' hx' hv'; have HQ5 := Lib.hid hq'; have HX5 := Lib.hid hx'; have HV5 := Lib.hid hv'; clear hq' hx' hv')
      have X5 := (Keep.to (Keep.al (wo2.setCell ⟨w1.heap.size, Z, none⟩ (.bool true)) (.cells #[.int .i64 (Z : Int)] 3))).trans HX5.out
      have B2 : Hid (∀ k, (Value.slice (some ⟨q2, o2, none⟩) (wk2.length + 1) cq2).ownBlock = some k → w1.heap.size + 1 ≤ k ∧ k < wo2.heap.size) := fun k hk => hQ2.out.lt k (by simpa [Value.ownBlock] using hk)
      have O2 : Hid (∀ k, (Value.slice (some ⟨q2, o2, none⟩) (wk2.length + 1) cq2).ownBlock = some k → k < wo.heap.size ∨ wb.heap.size ≤ k) := fun k hk => hO2.out k (by simpa [Value.ownBlock] using hk)
      have HX := Lib.hid X5
      clear X5
      go_roundw
      case rel => exact ⟨j + 1, bs2.set Z true, wk2 ++ [(Z : Int)], by omega, by go_num, by have h := W4.out; rw [Int.toNat_natCast] at h; exact h, F4, by have h1 := U4.out; have h2 := hU2.out; show _ = _; simp only [List.length_append, List.length_cons, List.length_nil]; omega, Y4, row_ext HR4.out HX.out (fun h => by have := (B2.out _ h).1; omega), HQ5.out, fun k hk => by
          rcases HV5.out with e | e
          · exact O2.out k (by rw [← e]; exact hk)
          · rw [hk] at e
            injection e with e
            have h1 := hZ2.out
            have h2 := HZ4.out
            simp at e
            right; omega, HK4.out.then_ HX.out (fun i hi h => by have := (B2.out _ h).1; omega), by have h1 := hZ2.out; have h2 := HX.out.size; have h3 := HZ4.out; show _ ≤ _; omega, HC4.out.ext HX.out (fun k hk h => by
            have h1 := hk.1; have h2 := hk.2
            rcases O2.out k h with h3 | h3 <;> omega)⟩
      case measure => simp [intOf]; omega
end Go.Proofs.Ytaeddcnakilnlaa
