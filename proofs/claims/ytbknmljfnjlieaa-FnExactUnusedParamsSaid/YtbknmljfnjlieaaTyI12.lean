/- TypeOf of both packages. -/
import Derived.Test.YtbknmljfnjlieaaTyI11
import Derived.Test.YtbknmljfnjlieaaTyI10
import Derived.Test.YtbknmljfnjlieaaTyS5
import Derived.Test.YtbknmljfnjlieaaNodes
import Derived.Test.YtbknmljfnjlieaaSigs3
import Derived.Test.YtbknmljfnjlieaaShelf
namespace Go.Proofs.Ytbknmljfnjlieaa
open Go.RowKit

/-- What both functions TypeOf return. -/
def typeTop (ds : List DeclL) (fs : List FuncL) (vars : List Int) (e : ExprL) : Int :=
  if sigsOk ds (fs.map sigF) = true ∧ ¬ nodesL e.kids < 0 ∧ allT ds.length vars = true then tyE ds (fs.map sigF) vars e else -1

theorem cloneInts (a : Option Addr) (n c : Nat) (xs : List Int) (D : Nat → Prop) (w : World) (h : IntsL w D a n xs) (hn : n ≤ 1048576) :
    Calls Try.prog 56 #[.slice a n c] w fun e w' => ∃ v', e = .returned v' ∧ VR w' w.heap.size v' xs ∧ Keep w w' := by
  obtain ⟨h1, h2⟩ := h
  rcases Nat.eq_zero_or_pos n with h0 | h0
  · subst h0
    have hx : xs = [] := List.eq_nil_of_length_eq_zero h1
    subst hx
    rcases a with _ | a
    · refine (Try.slices_Clone_int_nil 0 c w).mono ?_
      rintro e w' ⟨rfl, rfl⟩
      exact ⟨_, rfl, World.ownsRow_nil _ _ _ _, Ext.refl _ _⟩
    · refine (Try.slices_Clone_int_zero a c w).mono ?_
      rintro e w' ⟨v', rfl, ho, _, hb⟩
      exact ⟨_, rfl, ho, Ext.of_below hb⟩
  · obtain ⟨b, o, rfl, _, hc⟩ := h2 h0
    refine (Try.slices_Clone_int b o n c xs w (by omega) (by omega) (fun j hj => hc j (by omega))).mono ?_
    rintro e w' ⟨v', rfl, ho, _, hb⟩
    rw [← h1, List.take_length] at ho
    exact ⟨_, rfl, ho, Ext.of_below hb⟩
/- BY gen_tyi12 -/

set_option maxRecDepth 100000 in
set_option maxHeartbeats 4000000 in
theorem specTypeOfTop (ds : List DeclL) (fs : List FuncL) (a0 : Option Addr) (n0 c0 : Nat) (a1 : Option Addr) (n1 c1 : Nat) (av : Option Addr) (nv cv : Nat) (vars : List Int) (op num : Int) (es : List ExprL) (a : Option Addr) (n c : Nat) (D0 D1 D2 D3 : Nat → Prop) (w : World)
    (r0 : Rd w D0 (encDecls ds) (.slice a0 n0 c0)) (r1 : Rd w D1 (encFuncs fs) (.slice a1 n1 c1)) (hv : Rd w D2 (encInts vars) (.slice av nv cv)) (hnv : nv ≤ 1048576) (h : Rd w D3 (encExprs es) (.slice a n c)) :
    Calls Try.prog 12 #[.agg #[.slice a0 n0 c0, .slice a1 n1 c1], .slice av nv cv, .agg #[.int .i64 op, .int .i64 num, .slice a n c]] w fun r w' => r = .returned (.int .i64 (typeTop ds fs vars (.mk op num es))) ∧ Keep w w' := by
  refine calls_k fun Q hQ => ?_
  have K0 := Lib.hid ((Keep.al w (.cells #[.slice a0 n0 c0, .slice a1 n1 c1] 36)).trans (Keep.al _ (.cells #[.int .i64 op, .int .i64 num, .slice a n c] 41)))
  have R0 := Lib.hid ((rowOf w #[.slice a0 n0 c0, .slice a1 n1 c1] 36).alloc (.cells #[.int .i64 op, .int .i64 num, .slice a n c] 41))
  have R1 := rowOf (w.alloc (.cells #[.slice a0 n0 c0, .slice a1 n1 c1] 36)) #[.int .i64 op, .int .i64 num, .slice a n c] 41
  simp only [World.size_alloc] at R1
  replace R1 := Lib.hid R1
  have hvl : nv = vars.length := (ints_at hv).1.symm
  have HVL := Lib.hid hvl
  have V0 : Hid (typeTop ds fs vars (.mk op num es) = if sigsOk ds (fs.map sigF) = true ∧ ¬ nodesL es < 0 ∧ allT n0 vars = true then tyE ds (fs.map sigF) vars (.mk op num es) else -1) := by show _ = _; rw [typeTop, (decls_at r0).1]; rfl
  clear hvl
  by_cases hs : sigsOk ds (fs.map sigF) = true
  case neg =>
    have HS : Hid (sigsOk ds (fs.map sigF) = false) := by show _ = _; simpa using hs
    have V : Hid (typeTop ds fs vars (.mk op num es) = -1) := by show _ = _; rw [V0.out, if_neg (fun h => hs h.1)]
    clear hs
    go_enter Try.func12, Try.ntmps12
    go_wp2_with fail
    refine (specValidSigs0 ds fs _ _ _ _ _ _ _ _ _ (r0.k K0.out) (r1.k K0.out)).mono ?_
    rw [HS.out]
    rintro e w1 ⟨rfl, p1⟩
    have KX := Lib.hid p1
    have x0 := (row_ext R0.out KX.out (fun h => h)).cell (i := 0) (by simp)
    have x1 := (row_ext R0.out KX.out (fun h => h)).cell (i := 1) (by simp)
    have y0 := (row_ext R1.out KX.out (fun h => h)).cell (i := 0) (by simp)
    have y1 := (row_ext R1.out KX.out (fun h => h)).cell (i := 1) (by simp)
    have y2 := (row_ext R1.out KX.out (fun h => h)).cell (i := 2) (by simp)
    simp at x0 x1 y0 y1 y2
    have KE := Lib.hid (K0.out.trans p1)
    clear p1
    go_wp2_with fail
    exact fin_ hQ ⟨ret_i V.out.symm, KE.out⟩
  have HS := Lib.hid hs
  by_cases hl : nodesL es < 0
  case pos =>
    have V : Hid (typeTop ds fs vars (.mk op num es) = -1) := by show _ = _; rw [V0.out, if_neg (fun h => h.2.1 hl)]
    clear hs
    go_enter Try.func12, Try.ntmps12
    go_wp2_with fail
    refine (specValidSigs0 ds fs _ _ _ _ _ _ _ _ _ (r0.k K0.out) (r1.k K0.out)).mono ?_
    rw [HS.out]
    rintro e w1 ⟨rfl, p1⟩
    have KX := Lib.hid p1
    have x0 := (row_ext R0.out KX.out (fun h => h)).cell (i := 0) (by simp)
    have x1 := (row_ext R0.out KX.out (fun h => h)).cell (i := 1) (by simp)
    have y0 := (row_ext R1.out KX.out (fun h => h)).cell (i := 0) (by simp)
    have y1 := (row_ext R1.out KX.out (fun h => h)).cell (i := 1) (by simp)
    have y2 := (row_ext R1.out KX.out (fun h => h)).cell (i := 2) (by simp)
    simp at x0 x1 y0 y1 y2
    have KE := Lib.hid (K0.out.trans p1)
    clear p1
    go_wp2_with fail
    refine (specNodesOf0 op num es _ _ _ _ _ (h.k KE.out)).mono ?_
    rintro e w2 ⟨rfl, p2⟩
    clear x0 x1 y0 y1 y2
    have KE2 := Lib.hid (KE.out.trans p2)
    replace KX := Lib.hid (KX.out.trans p2)
    clear p2
    have x0 := (row_ext R0.out KX.out (fun h => h)).cell (i := 0) (by simp)
    have x1 := (row_ext R0.out KX.out (fun h => h)).cell (i := 1) (by simp)
    have y0 := (row_ext R1.out KX.out (fun h => h)).cell (i := 0) (by simp)
    have y1 := (row_ext R1.out KX.out (fun h => h)).cell (i := 1) (by simp)
    have y2 := (row_ext R1.out KX.out (fun h => h)).cell (i := 2) (by simp)
    simp at x0 x1 y0 y1 y2
    go_wp2_with fail
    exact fin_ hQ ⟨ret_i V.out.symm, KE2.out⟩
  have HNE : Hid (nEs es + 1 ≤ 30) := by
    show _ ≤ _
    refine Decidable.byContradiction fun hc => hl ?_
    rw [nodesL_no hc]; omega
  by_cases hat : allT n0 vars = true
  case neg =>
    have HAT : Hid (allT n0 vars = false) := by show _ = _; simpa using hat
    have V : Hid (typeTop ds fs vars (.mk op num es) = -1) := by show _ = _; rw [V0.out, if_neg (fun h => hat h.2.2)]
    clear hs hat
    go_enter Try.func12, Try.ntmps12
    go_wp2_with fail
    refine (specValidSigs0 ds fs _ _ _ _ _ _ _ _ _ (r0.k K0.out) (r1.k K0.out)).mono ?_
    rw [HS.out]
    rintro e w1 ⟨rfl, p1⟩
    have KX := Lib.hid p1
    have x0 := (row_ext R0.out KX.out (fun h => h)).cell (i := 0) (by simp)
    have x1 := (row_ext R0.out KX.out (fun h => h)).cell (i := 1) (by simp)
    have y0 := (row_ext R1.out KX.out (fun h => h)).cell (i := 0) (by simp)
    have y1 := (row_ext R1.out KX.out (fun h => h)).cell (i := 1) (by simp)
    have y2 := (row_ext R1.out KX.out (fun h => h)).cell (i := 2) (by simp)
    simp at x0 x1 y0 y1 y2
    have KE := Lib.hid (K0.out.trans p1)
    clear p1
    go_wp2_with fail
    refine (specNodesOf0 op num es _ _ _ _ _ (h.k KE.out)).mono ?_
    rintro e w2 ⟨rfl, p2⟩
    clear x0 x1 y0 y1 y2
    have KE2 := Lib.hid (KE.out.trans p2)
    replace KX := Lib.hid (KX.out.trans p2)
    clear p2
    have x0 := (row_ext R0.out KX.out (fun h => h)).cell (i := 0) (by simp)
    have x1 := (row_ext R0.out KX.out (fun h => h)).cell (i := 1) (by simp)
    have y0 := (row_ext R1.out KX.out (fun h => h)).cell (i := 0) (by simp)
    have y1 := (row_ext R1.out KX.out (fun h => h)).cell (i := 1) (by simp)
    have y2 := (row_ext R1.out KX.out (fun h => h)).cell (i := 2) (by simp)
    simp at x0 x1 y0 y1 y2
    go_wp2_with fail
    refine (specAllTypes _ _ _ _ _ _ vars _ _ (Rd.toInts (hv.k KE2.out)) (by omega)).mono ?_
    rw [HAT.out]
    rintro e w3 ⟨rfl, rfl⟩
    go_wp2_with fail
    exact fin_ hQ ⟨ret_i V.out.symm, KE2.out⟩
  have HAT := Lib.hid hat
  have HALL : Hid (allT ds.length vars = true) := by show _ = _; rw [(decls_at r0).1]; exact hat
  obtain ⟨z, hz⟩ : ∃ z, tyE ds (fs.map sigF) vars (.mk op num es) = z := ⟨_, rfl⟩
  have HZ := Lib.hid hz
  have V : Hid (typeTop ds fs vars (.mk op num es) = z) := by show _ = _; rw [V0.out, if_pos ⟨hs, hl, hat⟩, hz]
  clear hs hat hz
  go_enter Try.func12, Try.ntmps12
  go_wp2_with fail
  refine (specValidSigs0 ds fs _ _ _ _ _ _ _ _ _ (r0.k K0.out) (r1.k K0.out)).mono ?_
  rw [HS.out]
  rintro e w1 ⟨rfl, p1⟩
  have KX := Lib.hid p1
  have x0 := (row_ext R0.out KX.out (fun h => h)).cell (i := 0) (by simp)
  have x1 := (row_ext R0.out KX.out (fun h => h)).cell (i := 1) (by simp)
  have y0 := (row_ext R1.out KX.out (fun h => h)).cell (i := 0) (by simp)
  have y1 := (row_ext R1.out KX.out (fun h => h)).cell (i := 1) (by simp)
  have y2 := (row_ext R1.out KX.out (fun h => h)).cell (i := 2) (by simp)
  simp at x0 x1 y0 y1 y2
  have KE := Lib.hid (K0.out.trans p1)
  clear p1
  go_wp2_with fail
  refine (specNodesOf0 op num es _ _ _ _ _ (h.k KE.out)).mono ?_
  rintro e w2 ⟨rfl, p2⟩
  clear x0 x1 y0 y1 y2
  have KE2 := Lib.hid (KE.out.trans p2)
  replace KX := Lib.hid (KX.out.trans p2)
  clear p2
  have x0 := (row_ext R0.out KX.out (fun h => h)).cell (i := 0) (by simp)
  have x1 := (row_ext R0.out KX.out (fun h => h)).cell (i := 1) (by simp)
  have y0 := (row_ext R1.out KX.out (fun h => h)).cell (i := 0) (by simp)
  have y1 := (row_ext R1.out KX.out (fun h => h)).cell (i := 1) (by simp)
  have y2 := (row_ext R1.out KX.out (fun h => h)).cell (i := 2) (by simp)
  simp at x0 x1 y0 y1 y2
  go_wp2_with fail
  refine (specAllTypes _ _ _ _ _ _ vars _ _ (Rd.toInts (hv.k KE2.out)) (by omega)).mono ?_
  rw [HAT.out]
  rintro e w3 ⟨rfl, rfl⟩
  go_wp2_with fail
  refine (specTypeOf0 ds fs HS.out (.mk op num es) _ _ _ _ _ _ _ _ _ vars _ _ _ _ ⟨(r0.k KE2.out).t, (r1.k KE2.out).t⟩ (hv.k KE2.out).t (h.k KE2.out).t (by rw [nE]; have := HNE.out; have := HVL.out; omega) HALL.out).mono ?_
  rw [HZ.out]
  rintro e w4 ⟨rfl, p4⟩
  go_wp2_with fail
  exact fin_ hQ ⟨ret_i V.out.symm, KE2.out.trans p4⟩

set_option maxRecDepth 100000 in
set_option maxHeartbeats 4000000 in
theorem implTypeOfTop (ds : List DeclL) (fs : List FuncL) (a0 : Option Addr) (n0 c0 : Nat) (a1 : Option Addr) (n1 c1 : Nat) (av : Option Addr) (nv cv : Nat) (vars : List Int) (op num : Int) (es : List ExprL) (a : Option Addr) (n c : Nat) (D0 D1 D2 D3 : Nat → Prop) (w : World)
    (r0 : Rd w D0 (encDecls ds) (.slice a0 n0 c0)) (r1 : Rd w D1 (encFuncs fs) (.slice a1 n1 c1)) (hv : Rd w D2 (encInts vars) (.slice av nv cv)) (hnv : nv ≤ 1048576) (h : Rd w D3 (encExprs es) (.slice a n c)) (ha : allE fitN (.mk op num es)) :
    Calls Try.prog 16 #[.agg #[.slice a0 n0 c0, .slice a1 n1 c1], .slice av nv cv, .agg #[.int .i64 op, .int .i64 num, .slice a n c]] w fun r w' => r = .returned (.int .i64 (typeTop ds fs vars (.mk op num es))) ∧ Keep w w' := by
  refine calls_k fun Q hQ => ?_
  have K0 := Lib.hid ((Keep.al w (.cells #[.slice a0 n0 c0, .slice a1 n1 c1] 36)).trans (Keep.al _ (.cells #[.int .i64 op, .int .i64 num, .slice a n c] 41)))
  have R0 := Lib.hid ((rowOf w #[.slice a0 n0 c0, .slice a1 n1 c1] 36).alloc (.cells #[.int .i64 op, .int .i64 num, .slice a n c] 41))
  have R1 := rowOf (w.alloc (.cells #[.slice a0 n0 c0, .slice a1 n1 c1] 36)) #[.int .i64 op, .int .i64 num, .slice a n c] 41
  simp only [World.size_alloc] at R1
  replace R1 := Lib.hid R1
  have hvl : nv = vars.length := (ints_at hv).1.symm
  have HVL := Lib.hid hvl
  have V0 : Hid (typeTop ds fs vars (.mk op num es) = if sigsOk ds (fs.map sigF) = true ∧ ¬ nodesL es < 0 ∧ allT n0 vars = true then tyE ds (fs.map sigF) vars (.mk op num es) else -1) := by show _ = _; rw [typeTop, (decls_at r0).1]; rfl
  clear hvl
  by_cases hs : sigsOk ds (fs.map sigF) = true
  case neg =>
    have HS : Hid (sigsOk ds (fs.map sigF) = false) := by show _ = _; simpa using hs
    have V : Hid (typeTop ds fs vars (.mk op num es) = -1) := by show _ = _; rw [V0.out, if_neg (fun h => hs h.1)]
    clear hs
    go_enter Try.func16, Try.ntmps16
    go_wp2_with fail
    refine (implValidSigs ds fs _ _ _ _ _ _ _ _ _ (r0.k K0.out) (r1.k K0.out)).mono ?_
    rw [HS.out]
    rintro e w1 ⟨rfl, p1⟩
    have KX := Lib.hid p1
    have x0 := (row_ext R0.out KX.out (fun h => h)).cell (i := 0) (by simp)
    have x1 := (row_ext R0.out KX.out (fun h => h)).cell (i := 1) (by simp)
    have y0 := (row_ext R1.out KX.out (fun h => h)).cell (i := 0) (by simp)
    have y1 := (row_ext R1.out KX.out (fun h => h)).cell (i := 1) (by simp)
    have y2 := (row_ext R1.out KX.out (fun h => h)).cell (i := 2) (by simp)
    simp at x0 x1 y0 y1 y2
    have KE := Lib.hid (K0.out.trans p1)
    clear p1
    go_wp2_with fail
    exact fin_ hQ ⟨ret_i V.out.symm, KE.out⟩
  have HS := Lib.hid hs
  by_cases hl : nodesL es < 0
  case pos =>
    have V : Hid (typeTop ds fs vars (.mk op num es) = -1) := by show _ = _; rw [V0.out, if_neg (fun h => h.2.1 hl)]
    clear hs
    go_enter Try.func16, Try.ntmps16
    go_wp2_with fail
    refine (implValidSigs ds fs _ _ _ _ _ _ _ _ _ (r0.k K0.out) (r1.k K0.out)).mono ?_
    rw [HS.out]
    rintro e w1 ⟨rfl, p1⟩
    have KX := Lib.hid p1
    have x0 := (row_ext R0.out KX.out (fun h => h)).cell (i := 0) (by simp)
    have x1 := (row_ext R0.out KX.out (fun h => h)).cell (i := 1) (by simp)
    have y0 := (row_ext R1.out KX.out (fun h => h)).cell (i := 0) (by simp)
    have y1 := (row_ext R1.out KX.out (fun h => h)).cell (i := 1) (by simp)
    have y2 := (row_ext R1.out KX.out (fun h => h)).cell (i := 2) (by simp)
    simp at x0 x1 y0 y1 y2
    have KE := Lib.hid (K0.out.trans p1)
    clear p1
    go_wp2_with fail
    refine (implNodesOf op num es _ _ _ _ _ (h.k KE.out)).mono ?_
    rintro e w2 ⟨rfl, p2⟩
    clear x0 x1 y0 y1 y2
    have KE2 := Lib.hid (KE.out.trans p2)
    replace KX := Lib.hid (KX.out.trans p2)
    clear p2
    have x0 := (row_ext R0.out KX.out (fun h => h)).cell (i := 0) (by simp)
    have x1 := (row_ext R0.out KX.out (fun h => h)).cell (i := 1) (by simp)
    have y0 := (row_ext R1.out KX.out (fun h => h)).cell (i := 0) (by simp)
    have y1 := (row_ext R1.out KX.out (fun h => h)).cell (i := 1) (by simp)
    have y2 := (row_ext R1.out KX.out (fun h => h)).cell (i := 2) (by simp)
    simp at x0 x1 y0 y1 y2
    go_wp2_with fail
    exact fin_ hQ ⟨ret_i V.out.symm, KE2.out⟩
  have HNE : Hid (nEs es + 1 ≤ 30) := by
    show _ ≤ _
    refine Decidable.byContradiction fun hc => hl ?_
    rw [nodesL_no hc]; omega
  by_cases hat : allT n0 vars = true
  case neg =>
    have HAT : Hid (allT n0 vars = false) := by show _ = _; simpa using hat
    have V : Hid (typeTop ds fs vars (.mk op num es) = -1) := by show _ = _; rw [V0.out, if_neg (fun h => hat h.2.2)]
    clear hs hat
    go_enter Try.func16, Try.ntmps16
    go_wp2_with fail
    refine (implValidSigs ds fs _ _ _ _ _ _ _ _ _ (r0.k K0.out) (r1.k K0.out)).mono ?_
    rw [HS.out]
    rintro e w1 ⟨rfl, p1⟩
    have KX := Lib.hid p1
    have x0 := (row_ext R0.out KX.out (fun h => h)).cell (i := 0) (by simp)
    have x1 := (row_ext R0.out KX.out (fun h => h)).cell (i := 1) (by simp)
    have y0 := (row_ext R1.out KX.out (fun h => h)).cell (i := 0) (by simp)
    have y1 := (row_ext R1.out KX.out (fun h => h)).cell (i := 1) (by simp)
    have y2 := (row_ext R1.out KX.out (fun h => h)).cell (i := 2) (by simp)
    simp at x0 x1 y0 y1 y2
    have KE := Lib.hid (K0.out.trans p1)
    clear p1
    go_wp2_with fail
    refine (implNodesOf op num es _ _ _ _ _ (h.k KE.out)).mono ?_
    rintro e w2 ⟨rfl, p2⟩
    clear x0 x1 y0 y1 y2
    have KE2 := Lib.hid (KE.out.trans p2)
    replace KX := Lib.hid (KX.out.trans p2)
    clear p2
    have x0 := (row_ext R0.out KX.out (fun h => h)).cell (i := 0) (by simp)
    have x1 := (row_ext R0.out KX.out (fun h => h)).cell (i := 1) (by simp)
    have y0 := (row_ext R1.out KX.out (fun h => h)).cell (i := 0) (by simp)
    have y1 := (row_ext R1.out KX.out (fun h => h)).cell (i := 1) (by simp)
    have y2 := (row_ext R1.out KX.out (fun h => h)).cell (i := 2) (by simp)
    simp at x0 x1 y0 y1 y2
    go_wp2_with fail
    refine (implAllTypes _ _ _ _ _ _ vars _ _ (Rd.toInts (hv.k KE2.out)) (by omega)).mono ?_
    rw [HAT.out]
    rintro e w3 ⟨rfl, rfl⟩
    go_wp2_with fail
    exact fin_ hQ ⟨ret_i V.out.symm, KE2.out⟩
  have HAT := Lib.hid hat
  have HALL : Hid (allT ds.length vars = true) := by show _ = _; rw [(decls_at r0).1]; exact hat
  obtain ⟨z, hz⟩ : ∃ z, tyE ds (fs.map sigF) vars (.mk op num es) = z := ⟨_, rfl⟩
  have HZ := Lib.hid hz
  have V : Hid (typeTop ds fs vars (.mk op num es) = z) := by show _ = _; rw [V0.out, if_pos ⟨hs, hl, hat⟩, hz]
  clear hs hat hz
  have HA := Lib.hid ha
  have hn4 : n1 ≤ 4 := by have h1 := (sigsOk_parts HS.out).2.2.1; have h2 := (funcs_at r1).1; simp at h1; omega
  go_enter Try.func16, Try.ntmps16
  go_wp2_with fail
  refine (implValidSigs ds fs _ _ _ _ _ _ _ _ _ (r0.k K0.out) (r1.k K0.out)).mono ?_
  rw [HS.out]
  rintro e w1 ⟨rfl, p1⟩
  have KX := Lib.hid p1
  have x0 := (row_ext R0.out KX.out (fun h => h)).cell (i := 0) (by simp)
  have x1 := (row_ext R0.out KX.out (fun h => h)).cell (i := 1) (by simp)
  have y0 := (row_ext R1.out KX.out (fun h => h)).cell (i := 0) (by simp)
  have y1 := (row_ext R1.out KX.out (fun h => h)).cell (i := 1) (by simp)
  have y2 := (row_ext R1.out KX.out (fun h => h)).cell (i := 2) (by simp)
  simp at x0 x1 y0 y1 y2
  have KE := Lib.hid (K0.out.trans p1)
  clear p1
  go_wp2_with fail
  refine (implNodesOf op num es _ _ _ _ _ (h.k KE.out)).mono ?_
  rintro e w2 ⟨rfl, p2⟩
  clear x0 x1 y0 y1 y2
  have KE2 := Lib.hid (KE.out.trans p2)
  replace KX := Lib.hid (KX.out.trans p2)
  clear p2
  have x0 := (row_ext R0.out KX.out (fun h => h)).cell (i := 0) (by simp)
  have x1 := (row_ext R0.out KX.out (fun h => h)).cell (i := 1) (by simp)
  have y0 := (row_ext R1.out KX.out (fun h => h)).cell (i := 0) (by simp)
  have y1 := (row_ext R1.out KX.out (fun h => h)).cell (i := 1) (by simp)
  have y2 := (row_ext R1.out KX.out (fun h => h)).cell (i := 2) (by simp)
  simp at x0 x1 y0 y1 y2
  go_wp2_with fail
  refine (implAllTypes _ _ _ _ _ _ vars _ _ (Rd.toInts (hv.k KE2.out)) (by omega)).mono ?_
  rw [HAT.out]
  rintro e w3 ⟨rfl, rfl⟩
  have qr0 := (r0.k KE2.out).kd
  have qr1 := (r1.k KE2.out).kd
  have qv := (hv.k KE2.out).kd
  have qh := (h.k KE2.out).kd
  have pc := Ext.refl0 w2
  go_wp2_with fail
  go_region_held3 (fun w' => w'.cell? ⟨w.heap.size, 0, none⟩ = some (.slice a0 n0 c0) ∧ w'.cell? ⟨w.heap.size, 1, none⟩ = some (.slice a1 n1 c1) ∧ w'.cell? ⟨w.heap.size + 1, 0, none⟩ = some (.int .i64 op) ∧ w'.cell? ⟨w.heap.size + 1, 1, none⟩ = some (.int .i64 num) ∧ w'.cell? ⟨w.heap.size + 1, 2, none⟩ = some (.slice a n c))
    (first | exact ⟨Keep.at pc x0, Keep.at pc x1, Keep.at pc y0, Keep.at pc y1, Keep.at pc y2⟩ | go_keep)
    (first
      | (go_at_call 54; refine (implSigsOf fs a0 n0 c0 a1 n1 c1 _ _ (qr1.k pc) hn4).mono ?_; rintro e wa ⟨asg, csg, rfl, hsg, pa⟩; replace pc := Ext.trans pc pa)
      | (go_at_call 56; refine (cloneInts av nv cv vars _ _ (Rd.toInts (qv.k pc)) hnv).mono ?_; rintro e wb ⟨v2, rfl, hv2, pb⟩; have qa := (((qr0.k pc).lt.mono (fun k hk => hk.2)).k pb); have qs := ((hsg.lt.mono (fun k hk => hk.2)).k pb); have qe := (((qh.k pc).lt.mono (fun k hk => hk.2)).k pb); have hbs := pb.size; have hbs0 := pc.size; replace pc := Ext.trans pc pb)
      | (go_at_call 55; refine (implTypeOf0 ds (fs.map sigF) HS.out (.mk op num es) HA.out a0 n0 c0 asg n1 csg v2 vars a n c _ wa.heap.size (fun k => k < wa.heap.size) ⟨qa, qs⟩ hv2 qe (fun _ h => h) hbs (by rw [nE]; have := HNE.out; have := HVL.out; omega) HALL.out).mono ?_; rw [HZ.out]; rintro e wc ⟨rfl, _, xc⟩; have hv3 := Lib.hid hv2.lt; replace pc := Ext.then_ pc xc (fun i hi e => by have h1 := (hv3.out i e).1; omega)))
  have KF := Lib.hid (KE2.out.trans (Keep.dt pc))
  go_wp2_with fail
  exact fin_ hQ ⟨ret_i V.out.symm, KF.out⟩
end Go.Proofs.Ytbknmljfnjlieaa
