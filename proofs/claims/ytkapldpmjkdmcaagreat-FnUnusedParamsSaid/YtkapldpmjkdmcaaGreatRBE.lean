/- TypeOf of both packages. -/
import Derived.Test.YtkapldpmjkdmcaaGreatRBD
import Derived.Test.YtkapldpmjkdmcaaGreatRBA
import Derived.Test.YtkapldpmjkdmcaaGreatRAM
import Derived.Test.YtkapldpmjkdmcaaGreatShelf
import Derived.Test.YtkapldpmjkdmcaaGreatRAZ
import Derived.Test.YtkapldpmjkdmcaaGreatRAF
import Derived.Test.YtkapldpmjkdmcaaGreatRAE
import Derived.Test.YtkapldpmjkdmcaaGreatRAU
import Derived.Deep.RegionHeld3
import Derived.Test.YtkapldpmjkdmcaaGreatRAH
namespace Go.Proofs.YtkapldpmjkdmcaaGreat
open Go.RowKit

/-- What both functions TypeOf return. -/
def typeTop (ds : List DeclL) (fs : List FuncL) (vars : List Int) (e : ExprL) : Int :=
  if sigsOk ds (fs.map sigF) = true ∧ ¬ nodesL e.kids < 0 ∧ allT ds.length vars = true then tyE ds (fs.map sigF) vars e else -1

theorem cloneInts (a : Option Addr) (n c : Nat) (xs : List Int) (D : Nat → Prop) (w : World) (h : IntsL w D a n xs) (hn : n ≤ 1052000) :
    Calls Tryz.prog 54 #[.slice a n c] w fun e w' => ∃ v', e = .returned v' ∧ VR w' w.heap.size v' xs ∧ Keep w w' := by
  obtain ⟨h1, h2⟩ := h
  rcases Nat.eq_zero_or_pos n with h0 | h0
  · subst h0
    have hx : xs = [] := List.eq_nil_of_length_eq_zero h1
    subst hx
    rcases a with _ | a
    · refine (Tryz.slices_Clone_int_nil 0 c w).mono ?_
      rintro e w' ⟨rfl, rfl⟩
      exact ⟨_, rfl, World.ownsRow_nil _ _ _ _, Ext.refl _ _⟩
    · refine (Tryz.slices_Clone_int_zero a c w).mono ?_
      rintro e w' ⟨v', rfl, ho, _, hb⟩
      exact ⟨_, rfl, ho, Ext.of_below hb⟩
  · obtain ⟨b, o, rfl, _, hc⟩ := h2 h0
    refine (Tryz.slices_Clone_int b o n c xs w (by omega) (by omega) (fun j hj => hc j (by omega))).mono ?_
    rintro e w' ⟨v', rfl, ho, _, hb⟩
    rw [← h1, List.take_length] at ho
    exact ⟨_, rfl, ho, Ext.of_below hb⟩
/- BY gen_tyi12 -/

set_option maxRecDepth 100000 in
set_option maxHeartbeats 4000000 in
theorem implTypeOfTop (ds : List DeclL) (fs : List FuncL) (a0 : Option Addr) (n0 c0 : Nat) (a1 : Option Addr) (n1 c1 : Nat) (av : Option Addr) (nv cv : Nat) (vars : List Int) (op num : Int) (es : List ExprL) (a : Option Addr) (n c : Nat) (D0 D1 D2 D3 : Nat → Prop) (w : World)
    (r0 : Rd w D0 (encDecls ds) (.slice a0 n0 c0)) (r1 : Rd w D1 (encFuncs fs) (.slice a1 n1 c1)) (hv : Rd w D2 (encInts vars) (.slice av nv cv)) (hnv : nv ≤ 1048576) (h : Rd w D3 (encExprs es) (.slice a n c)) (ha : allE fitN (.mk op num es)) :
    Calls Tryz.prog 63 #[.agg #[.slice a0 n0 c0, .slice a1 n1 c1], .slice av nv cv, .agg #[.int .i64 op, .int .i64 num, .slice a n c]] w fun r w' => r = .returned (.int .i64 (typeTop ds fs vars (.mk op num es))) ∧ Keep w w' := by
  refine calls_k fun Q hQ => ?_
  have K0 := Lib.hid ((Keep.al w (.cells #[.slice a0 n0 c0, .slice a1 n1 c1] 44)).trans (Keep.al _ (.cells #[.int .i64 op, .int .i64 num, .slice a n c] 58)))
  have R0 := Lib.hid ((rowOf w #[.slice a0 n0 c0, .slice a1 n1 c1] 44).alloc (.cells #[.int .i64 op, .int .i64 num, .slice a n c] 58))
  have R1 := rowOf (w.alloc (.cells #[.slice a0 n0 c0, .slice a1 n1 c1] 44)) #[.int .i64 op, .int .i64 num, .slice a n c] 58
  simp only [World.size_alloc] at R1
  replace R1 := Lib.hid R1
  have hvl : nv = vars.length := (ints_at hv).1.symm
  have HVL := Lib.hid hvl
  have V0 : Hid (typeTop ds fs vars (.mk op num es) = if sigsOk ds (fs.map sigF) = true ∧ ¬ nodesL es < 0 ∧ allT n0 vars = true then tyE ds (fs.map sigF) vars (.mk op num es) else -1) := by show _ = _; rw [typeTop, (decls_at r0).1]; rfl
  clear hvl
  by_cases hs : sigsOk ds (fs.map sigF) = true
  case neg =>
    have HS : Hid (sigsOk ds (fs.map sigF) = false) := by show _ = _; simpa using hs
    have V : Hid (typeTop ds fs vars (.mk op num es) = -1) := by show _ = _; rw [V0.out, if_neg (fun h => hs h.1)]
    clear hs
    go_enter Tryz.func63, Tryz.ntmps63
    go_wp2_with fail
    refine (implValidSigs ds fs _ _ _ _ _ _ _ _ _ (r0.k K0.out) (r1.k K0.out)).mono ?_
    rw [HS.out]
    rintro e w1 ⟨rfl, p1⟩
    have KX := Lib.hid p1
    have x0 := (row_ext R0.out KX.out (fun h => h)).cell (i := 0) (by simp)
    have x1 := (row_ext R0.out KX.out (fun h => h)).cell (i := 1) (by simp)
    have y0 := (row_ext R1.out KX.out (fun h => h)).cell (i := 0) (by simp)
    have y1 := (row_ext R1.out KX.out (fun h => h)).cell (i := 1) (by simp)
    have y2 := (row_ext R1.out KX.out (fun h => h)).cell (i := 2) (by simp)
    simp at x0 x1 y0 y1 y2
    have KE := Lib.hid (K0.out.trans p1)
    clear p1
    go_wp2_with fail
    exact fin_ hQ ⟨ret_i V.out.symm, KE.out⟩
  have HS := Lib.hid hs
  by_cases hl : nodesL es < 0
  case pos =>
    have V : Hid (typeTop ds fs vars (.mk op num es) = -1) := by show _ = _; rw [V0.out, if_neg (fun h => h.2.1 hl)]
    clear hs
    go_enter Tryz.func63, Tryz.ntmps63
    go_wp2_with fail
    refine (implValidSigs ds fs _ _ _ _ _ _ _ _ _ (r0.k K0.out) (r1.k K0.out)).mono ?_
    rw [HS.out]
    rintro e w1 ⟨rfl, p1⟩
    have KX := Lib.hid p1
    have x0 := (row_ext R0.out KX.out (fun h => h)).cell (i := 0) (by simp)
    have x1 := (row_ext R0.out KX.out (fun h => h)).cell (i := 1) (by simp)
    have y0 := (row_ext R1.out KX.out (fun h => h)).cell (i := 0) (by simp)
    have y1 := (row_ext R1.out KX.out (fun h => h)).cell (i := 1) (by simp)
    have y2 := (row_ext R1.out KX.out (fun h => h)).cell (i := 2) (by simp)
    simp at x0 x1 y0 y1 y2
    have KE := Lib.hid (K0.out.trans p1)
    clear p1
    go_wp2_with fail
    refine (implNodesOf op num es _ _ _ _ _ (h.k KE.out)).mono ?_
    rintro e w2 ⟨rfl, p2⟩
    clear x0 x1 y0 y1 y2
    have KE2 := Lib.hid (KE.out.trans p2)
    replace KX := Lib.hid (KX.out.trans p2)
    clear p2
    have x0 := (row_ext R0.out KX.out (fun h => h)).cell (i := 0) (by simp)
    have x1 := (row_ext R0.out KX.out (fun h => h)).cell (i := 1) (by simp)
    have y0 := (row_ext R1.out KX.out (fun h => h)).cell (i := 0) (by simp)
    have y1 := (row_ext R1.out KX.out (fun h => h)).cell (i := 1) (by simp)
    have y2 := (row_ext R1.out KX.out (fun h => h)).cell (i := 2) (by simp)
    simp at x0 x1 y0 y1 y2
    go_wp2_with fail
    exact fin_ hQ ⟨ret_i V.out.symm, KE2.out⟩
  have HNE : Hid (nEs es + 1 ≤ 30) := by
    show _ ≤ _
    refine Decidable.byContradiction fun hc => hl ?_
    rw [nodesL_no hc]; omega
  by_cases hat : allT n0 vars = true
  case neg =>
    have HAT : Hid (allT n0 vars = false) := by show _ = _; simpa using hat
    have V : Hid (typeTop ds fs vars (.mk op num es) = -1) := by show _ = _; rw [V0.out, if_neg (fun h => hat h.2.2)]
    clear hs hat
    go_enter Tryz.func63, Tryz.ntmps63
    go_wp2_with fail
    refine (implValidSigs ds fs _ _ _ _ _ _ _ _ _ (r0.k K0.out) (r1.k K0.out)).mono ?_
    rw [HS.out]
    rintro e w1 ⟨rfl, p1⟩
    have KX := Lib.hid p1
    have x0 := (row_ext R0.out KX.out (fun h => h)).cell (i := 0) (by simp)
    have x1 := (row_ext R0.out KX.out (fun h => h)).cell (i := 1) (by simp)
    have y0 := (row_ext R1.out KX.out (fun h => h)).cell (i := 0) (by simp)
    have y1 := (row_ext R1.out KX.out (fun h => h)).cell (i := 1) (by simp)
    have y2 := (row_ext R1.out KX.out (fun h => h)).cell (i := 2) (by simp)
    simp at x0 x1 y0 y1 y2
    have KE := Lib.hid (K0.out.trans p1)
    clear p1
    go_wp2_with fail
    refine (implNodesOf op num es _ _ _ _ _ (h.k KE.out)).mono ?_
    rintro e w2 ⟨rfl, p2⟩
    clear x0 x1 y0 y1 y2
    have KE2 := Lib.hid (KE.out.trans p2)
    replace KX := Lib.hid (KX.out.trans p2)
    clear p2
    have x0 := (row_ext R0.out KX.out (fun h => h)).cell (i := 0) (by simp)
    have x1 := (row_ext R0.out KX.out (fun h => h)).cell (i := 1) (by simp)
    have y0 := (row_ext R1.out KX.out (fun h => h)).cell (i := 0) (by simp)
    have y1 := (row_ext R1.out KX.out (fun h => h)).cell (i := 1) (by simp)
    have y2 := (row_ext R1.out KX.out (fun h => h)).cell (i := 2) (by simp)
    simp at x0 x1 y0 y1 y2
    go_wp2_with fail
    refine (implAllTypes _ _ _ _ _ _ vars _ _ (Rd.toInts (hv.k KE2.out)) (by omega)).mono ?_
    rw [HAT.out]
    rintro e w3 ⟨rfl, rfl⟩
    go_wp2_with fail
    exact fin_ hQ ⟨ret_i V.out.symm, KE2.out⟩
  have HAT := Lib.hid hat
  have HALL : Hid (allT ds.length vars = true) := by show _ = _; rw [(decls_at r0).1]; exact hat
  obtain ⟨z, hz⟩ : ∃ z, tyE ds (fs.map sigF) vars (.mk op num es) = z := ⟨_, rfl⟩
  have HZ := Lib.hid hz
  have V : Hid (typeTop ds fs vars (.mk op num es) = z) := by show _ = _; rw [V0.out, if_pos ⟨hs, hl, hat⟩, hz]
  clear hs hat hz
  have HA := Lib.hid ha
  have hn4 : n1 ≤ 4 := by have h1 := (sigsOk_parts HS.out).2.2.1; have h2 := (funcs_at r1).1; simp at h1; omega
  go_enter Tryz.func63, Tryz.ntmps63
  go_wp2_with fail
  refine (implValidSigs ds fs _ _ _ _ _ _ _ _ _ (r0.k K0.out) (r1.k K0.out)).mono ?_
  rw [HS.out]
  rintro e w1 ⟨rfl, p1⟩
  have KX := Lib.hid p1
  have x0 := (row_ext R0.out KX.out (fun h => h)).cell (i := 0) (by simp)
  have x1 := (row_ext R0.out KX.out (fun h => h)).cell (i := 1) (by simp)
  have y0 := (row_ext R1.out KX.out (fun h => h)).cell (i := 0) (by simp)
  have y1 := (row_ext R1.out KX.out (fun h => h)).cell (i := 1) (by simp)
  have y2 := (row_ext R1.out KX.out (fun h => h)).cell (i := 2) (by simp)
  simp at x0 x1 y0 y1 y2
  have KE := Lib.hid (K0.out.trans p1)
  clear p1
  go_wp2_with fail
  refine (implNodesOf op num es _ _ _ _ _ (h.k KE.out)).mono ?_
  rintro e w2 ⟨rfl, p2⟩
  clear x0 x1 y0 y1 y2
  have KE2 := Lib.hid (KE.out.trans p2)
  replace KX := Lib.hid (KX.out.trans p2)
  clear p2
  have x0 := (row_ext R0.out KX.out (fun h => h)).cell (i := 0) (by simp)
  have x1 := (row_ext R0.out KX.out (fun h => h)).cell (i := 1) (by simp)
  have y0 := (row_ext R1.out KX.out (fun h => h)).cell (i := 0) (by simp)
  have y1 := (row_ext R1.out KX.out (fun h => h)).cell (i := 1) (by simp)
  have y2 := (row_ext R1.out KX.out (fun h => h)).cell (i := 2) (by simp)
  simp at x0 x1 y0 y1 y2
  go_wp2_with fail
  refine (implAllTypes _ _ _ _ _ _ vars _ _ (Rd.toInts (hv.k KE2.out)) (by omega)).mono ?_
  rw [HAT.out]
  rintro e w3 ⟨rfl, rfl⟩
  have qr0 := (r0.k KE2.out).kd
  have qr1 := (r1.k KE2.out).kd
  have qv := (hv.k KE2.out).kd
  have qh := (h.k KE2.out).kd
  have pc := Ext.refl0 w2
  go_wp2_with fail
  go_region_held3 (fun w' => w'.cell? ⟨w.heap.size, 0, none⟩ = some (.slice a0 n0 c0) ∧ w'.cell? ⟨w.heap.size, 1, none⟩ = some (.slice a1 n1 c1) ∧ w'.cell? ⟨w.heap.size + 1, 0, none⟩ = some (.int .i64 op) ∧ w'.cell? ⟨w.heap.size + 1, 1, none⟩ = some (.int .i64 num) ∧ w'.cell? ⟨w.heap.size + 1, 2, none⟩ = some (.slice a n c))
    (first | exact ⟨Keep.at pc x0, Keep.at pc x1, Keep.at pc y0, Keep.at pc y1, Keep.at pc y2⟩ | go_keep)
    (first
      | (go_at_call 116; refine (implSigsOf fs a0 n0 c0 a1 n1 c1 _ _ (qr1.k pc) hn4).mono ?_; rintro e wa ⟨asg, csg, rfl, hsg, pa⟩; replace pc := Ext.trans pc pa)
      | (go_at_call 54; refine (cloneInts av nv cv vars _ _ (Rd.toInts (qv.k pc)) (by omega)).mono ?_; rintro e wb ⟨v2, rfl, hv2, pb⟩; have qa := (((qr0.k pc).lt.mono (fun k hk => hk.2)).k pb); have qs := ((hsg.lt.mono (fun k hk => hk.2)).k pb); have qe := (((qh.k pc).lt.mono (fun k hk => hk.2)).k pb); have hbs := pb.size; have hbs0 := pc.size; replace pc := Ext.trans pc pb)
      | (go_at_call 117; refine (implTypeOf0 ds (fs.map sigF) HS.out (.mk op num es) HA.out a0 n0 c0 asg n1 csg v2 vars a n c _ wa.heap.size (fun k => k < wa.heap.size) ⟨qa, qs⟩ hv2 qe (fun _ h => h) hbs (by rw [nE]; have := HNE.out; have := HVL.out; omega) HALL.out).mono ?_; rw [HZ.out]; rintro e wc ⟨rfl, _, xc⟩; have hv3 := Lib.hid hv2.lt; replace pc := Ext.then_ pc xc (fun i hi e => by have h1 := (hv3.out i e).1; omega)))
  have KF := Lib.hid (KE2.out.trans (Keep.dt pc))
  go_wp2_with fail
  exact fin_ hQ ⟨ret_i V.out.symm, KF.out⟩
end Go.Proofs.YtkapldpmjkdmcaaGreat
/- The functions that an expression names, plain: by insertion, and by marks; and that what has a type names functions that there are. -/
namespace Go.Proofs.YtkapldpmjkdmcaaGreat
open Go.RowKit

theorem allEs_mk {P : Int → Int → Prop} {es : List ExprL} (h : ∀ j, j < es.length → allE P (eAt es j)) : allEs P es := by
  induction es with
  | nil => trivial
  | cons e es ih => exact ⟨h 0 (by simp), ih (fun j hj => by have := h (j + 1) (by simpa using hj); simpa [eAt] using this)⟩

/-- A node names a function. -/
def isCal (op : Int) : Bool := decide (op = 9) || decide (op = 10)
/-- The reference's visits: insertion. -/
def cvis (op num : Int) (s : List Int) : List Int := if isCal op then insL s num else s
/-- The program's visits: a mark is set. -/
def bvis (op num : Int) (s : List Bool) : List Bool := if isCal op then s.set num.toNat true else s
def calL (e : ExprL) : List Int := visE cvis e []
/-- A node that names a function names one of n. -/
def calIn (n : Nat) (op num : Int) : Prop := isCal op = true → 0 ≤ num ∧ num < (n : Int)

theorem cvis_len1 (op num : Int) (s : List Int) : (cvis op num s).length ≤ s.length + 1 := by
  unfold cvis; split
  · exact insL_len s num
  · omega
mutual
theorem cvisE_len : ∀ (e : ExprL) (s : List Int), (visE cvis e s).length ≤ s.length + nE e
  | .mk op num ks, s => by
    have h := cvisEs_len ks (cvis op num s)
    have h1 := cvis_len1 op num s
    simp only [visE, nE]; omega
theorem cvisEs_len : ∀ (es : List ExprL) (s : List Int), (visEs cvis es s).length ≤ s.length + nEs es
  | [], s => by simp [visEs]
  | e :: es, s => by
    have h1 := cvisE_len e s
    have h2 := cvisEs_len es (visE cvis e s)
    simp only [visEs, nEs]; omega
end
theorem bvis_len (op num : Int) (s : List Bool) : (bvis op num s).length = s.length := by unfold bvis; split <;> simp
mutual
theorem bvisE_len : ∀ (e : ExprL) (s : List Bool), (visE bvis e s).length = s.length
  | .mk op num ks, s => by rw [visE, bvisEs_len ks, bvis_len]
theorem bvisEs_len : ∀ (es : List ExprL) (s : List Bool), (visEs bvis es s).length = s.length
  | [], s => rfl
  | e :: es, s => by rw [visEs, bvisEs_len es, bvisE_len e]
end
theorem idxL_set {s : List Bool} {x : Int} (h0 : 0 ≤ x) (h1 : x < (s.length : Int)) : idxL (s.set x.toNat true) = insL (idxL s) x := by
  refine asc_ext (idxL_asc _) (insL_asc (idxL_asc _)) (fun y => ?_)
  rw [idxL_mem, insL_mem, idxL_mem]
  constructor
  · rintro ⟨i, hi, rfl, hb⟩
    rw [List.length_set] at hi
    by_cases e : x.toNat = i
    · left; omega
    · right
      refine ⟨i, hi, rfl, ?_⟩
      simpa [bAtL, List.getElem?_set, e] using hb
  · rintro (rfl | ⟨i, hi, rfl, hb⟩)
    · refine ⟨y.toNat, by rw [List.length_set]; omega, by omega, ?_⟩
      rw [bAtL_eq (by rw [List.length_set]; omega)]
      simp
    · refine ⟨i, by rw [List.length_set]; exact hi, rfl, ?_⟩
      by_cases e : x.toNat = i
      · subst e
        rw [bAtL_eq (by rw [List.length_set]; exact hi)]
        simp
      · simpa [bAtL, List.getElem?_set, e] using hb
theorem idxL_bvis {op num : Int} {s : List Bool} (h : calIn s.length op num) : idxL (bvis op num s) = cvis op num (idxL s) := by
  unfold bvis cvis
  split
  · next hc => exact idxL_set (h hc).1 (h hc).2
  · rfl
mutual
theorem idxL_visE : ∀ (e : ExprL) (s : List Bool), allE (calIn s.length) e → idxL (visE bvis e s) = visE cvis e (idxL s)
  | .mk op num ks, s, h => by
    obtain ⟨h1, h2⟩ := h
    rw [visE, visE, ← idxL_bvis h1]
    exact idxL_visEs ks _ (by rw [bvis_len]; exact h2)
theorem idxL_visEs : ∀ (es : List ExprL) (s : List Bool), allEs (calIn s.length) es → idxL (visEs bvis es s) = visEs cvis es (idxL s)
  | [], s, _ => rfl
  | e :: es, s, h => by
    obtain ⟨h1, h2⟩ := h
    rw [visEs, visEs, ← idxL_visE e s h1]
    exact idxL_visEs es _ (by rw [bvisE_len]; exact h2)
end
section
variable {ds : List DeclL} {sg : List SigL} (hok : sigsOk ds sg = true)
include hok
theorem simple_kids {op num : Int} {tys : List Int} (h : 0 ≤ simpleL ds sg op num tys) : calIn sg.length op num ∧ ∀ i, i < tys.length → 0 ≤ iAt tys i := by
  obtain ⟨ht, _, _, hs⟩ := sigsOk_parts hok
  unfold simpleL at h
  have no : ∀ {o : Int}, o ≠ 9 → o ≠ 10 → calIn sg.length o num := fun h1 h2 hc => absurd hc (by simp [isCal, h1, h2])
  split at h
  · next e =>
    subst e
    split at h
    · next h1 => exact ⟨no (by omega) (by omega), fun i hi => by rw [h1.1] at hi; simp at hi⟩
    · omega
  split at h
  · next e =>
    split at h
    · next h1 =>
      refine ⟨no (by omega) (by omega), fun i hi => ?_⟩
      rw [h1.2] at hi ⊢
      rcases (show i = 0 ∨ i = 1 by simp at hi; omega) with rfl | rfl <;> simp [iAt]
    · omega
  split at h
  · next e =>
    split at h
    · next h1 =>
      refine ⟨no (by omega) (by omega), fun i hi => ?_⟩
      rw [h1.2] at hi ⊢
      rcases (show i = 0 by simp at hi; omega) with rfl; simp [iAt]
    · omega
  split at h
  · next e =>
    split at h
    · next h1 =>
      obtain ⟨_, h2, h3, h4⟩ := h1
      obtain ⟨q1, q2, q3⟩ := isArr_parts h3
      have := isT_iff.1 (declOk_arrow (typesOk_decl ht (by omega)) q3).1
      refine ⟨no (by omega) (by omega), fun i hi => ?_⟩
      rcases (show i = 0 ∨ i = 1 by omega) with rfl | rfl <;> omega
    · omega
  split at h
  · next e =>
    split at h
    · next h1 =>
      refine ⟨no (by omega) (by omega), fun i hi => ?_⟩
      rw [h1.2] at hi ⊢
      exact (allT_at (conFieldsL_ok ht num).2 hi).1
    · omega
  split at h
  · next e =>
    split at h
    · next h1 =>
      refine ⟨fun _ => ⟨h1.1, h1.2.1⟩, fun i hi => ?_⟩
      rw [h1.2.2] at hi ⊢
      exact (allT_at (sigOk_parts (hs _ (by omega))).2.1 hi).1
    · omega
  split at h
  · next e =>
    split at h
    · next h1 =>
      refine ⟨fun _ => ⟨h1.1, h1.2.1⟩, fun i hi => ?_⟩
      obtain ⟨_, h2, h3, h4⟩ := h1
      rw [h4] at hi ⊢
      rw [List.length_take] at hi
      have e2 : iAt (List.take ((sgAt sg num.toNat).params.length - 1) (sgAt sg num.toNat).params) i = iAt (sgAt sg num.toNat).params i := by
        rw [iAt_get (by rw [List.length_take]; exact hi), iAt_get (by omega)]; simp
      rw [e2]
      exact (allT_at (sigOk_parts (hs _ (by omega))).2.1 (by omega)).1
    · omega
  · omega
omit hok in
theorem oneT_all {ts : List Int} (h : 0 ≤ oneT ts) {i : Nat} (hi : i < ts.length) : 0 ≤ iAt ts i := by
  by_cases h1 : iAt ts i < 0
  · rw [oneT_neg hi (.inr h1)] at h; omega
  · omega
theorem tyE_cal_n (N : Nat) : ∀ (e : ExprL), nE e < N → ∀ vars, 0 ≤ tyE ds sg vars e → allE (calIn sg.length) e := by
  induction N with
  | zero => intro e h; omega
  | succ N ih =>
  intro e hN vars h
  obtain ⟨op, num, ks⟩ := e
  have hk : ∀ j, j < ks.length → nE (eAt ks j) < N := fun j hj => by have := nE_le ks hj; rw [nE] at hN; omega
  have no : op ≠ 9 → op ≠ 10 → calIn sg.length op num := fun h1 h2 hc => absurd hc (by simp [isCal, h1, h2])
  rw [tyE] at h
  split at h
  · next e =>
    split at h
    · next h1 => exact ⟨no (by omega) (by omega), allEs_mk (fun j hj => by omega)⟩
    · omega
  split at h
  · next e =>
    split at h
    · next h1 =>
      rw [tyLet_at ds sg vars h1.2] at h
      split at h
      · next h0 =>
        refine ⟨no (by omega) (by omega), allEs_mk (fun j hj => ?_)⟩
        rcases (show j = 0 ∨ j = 1 by omega) with rfl | rfl
        · exact ih _ (hk 0 hj) _ h0
        · exact ih _ (hk 1 hj) _ h
      · omega
    · omega
  split at h
  · next e =>
    split at h
    · next h1 =>
      refine ⟨no (by omega) (by omega), allEs_mk (fun j hj => ?_)⟩
      rcases j with _ | j
      · have := h1.2.2
        rw [tyHd_at ds sg vars (by omega)] at this
        exact ih _ (hk 0 hj) vars (by omega)
      · have := oneT_all h (i := j) (by rw [tyTl_len]; omega)
        rw [tyTl_at ds sg vars (by omega)] at this
        exact ih _ (hk _ hj) _ this
    · omega
  split at h
  · next e =>
    split at h
    · next h1 =>
      refine ⟨no (by omega) (by omega), allEs_mk (fun j hj => ?_)⟩
      rcases j with _ | j
      · have h2 := h1.2.2
        rw [tyHd_at ds sg vars (by omega)] at h2
        refine ih _ (hk 0 hj) vars ?_
        rw [h2]
        refine Decidable.byContradiction fun hn => ?_
        have := h1.1
        rw [armsL, List.length_map, consL, if_neg (by omega)] at this
        simp at this
      · have := oneT_all h (i := j) (by rw [tyTl_len]; omega)
        rw [tyTl_at ds sg vars (by omega)] at this
        exact ih _ (hk _ hj) _ this
    · omega
  · obtain ⟨h1, h2⟩ := simple_kids hok h
    refine ⟨h1, allEs_mk (fun j hj => ?_)⟩
    have := h2 j (by rw [tyEs_len]; exact hj)
    rw [tyEs_at ds sg vars hj] at this
    exact ih _ (hk j hj) vars this
theorem tyE_cal {e : ExprL} {vars : List Int} (h : 0 ≤ tyE ds sg vars e) : allE (calIn sg.length) e := tyE_cal_n hok _ e (Nat.lt_succ_self _) vars h
end
end Go.Proofs.YtkapldpmjkdmcaaGreat
/- Valid programs, plain. -/
namespace Go.Proofs.YtkapldpmjkdmcaaGreat
open Go.RowKit

/-- All numbers in the bodies are in range. -/
def fitP (fs : List FuncL) : Prop := ∀ i, i < fs.length → allE fitN (fAt fs i).body
def bodyOk (ds : List DeclL) (fs : List FuncL) (i : Nat) : Bool := decide (typeTop ds fs (fAt fs i).params (fAt fs i).body = (fAt fs i).result)
/-- A program is valid. -/
def progOk (ds : List DeclL) (fs : List FuncL) : Bool := sigsOk ds (fs.map sigF) && (List.range fs.length).all (bodyOk ds fs)

section
variable {ds : List DeclL} {fs : List FuncL}
theorem progOk_sigs (h : sigsOk ds (fs.map sigF) = false) : progOk ds fs = false := by simp [progOk, h]
theorem progOk_at {i : Nat} (hi : i < fs.length) (h : bodyOk ds fs i = false) : progOk ds fs = false := by
  have e : (List.range fs.length).all (bodyOk ds fs) = false := nAll_false hi h
  simp only [progOk, e, Bool.and_false]
theorem progOk_yes (h1 : sigsOk ds (fs.map sigF) = true) (h : ∀ i, i < fs.length → bodyOk ds fs i = true) : progOk ds fs = true := by
  have e : (List.range fs.length).all (bodyOk ds fs) = true := nAll.2 h
  simp only [progOk, e, h1, Bool.and_self]
theorem progOk_parts (h : progOk ds fs = true) : sigsOk ds (fs.map sigF) = true ∧ ∀ i, i < fs.length → bodyOk ds fs i = true := by
  simp only [progOk, Bool.and_eq_true] at h
  exact ⟨h.1, nAll.1 h.2⟩
theorem sigF_at (h : sigsOk ds (fs.map sigF) = true) {i : Nat} (hi : i < fs.length) : (fAt fs i).params.length ≤ 3 ∧ allT ds.length (fAt fs i).params = true ∧ 0 ≤ (fAt fs i).result := by
  have hs := (sigsOk_parts h).2.2.2 i (by simpa using hi)
  rw [sgAt_sigF fs hi] at hs
  obtain ⟨h1, h2, h3, _⟩ := sigOk_parts hs
  exact ⟨h1, h2, (isT_iff.1 h3).1⟩
theorem progOk_len (h : progOk ds fs = true) : 1 ≤ fs.length ∧ fs.length ≤ 4 := by
  have := sigsOk_parts (progOk_parts h).1
  exact ⟨by simpa using this.2.1, by simpa using this.2.2.1⟩
theorem bodyOk_nodes (h : sigsOk ds (fs.map sigF) = true) {i : Nat} (hi : i < fs.length) (hn : nodesL (fAt fs i).body.kids < 0) : bodyOk ds fs i = false := by
  have := (sigF_at h hi).2.2
  refine decide_eq_false fun e => ?_
  rw [typeTop, if_neg (fun h => h.2.1 hn)] at e
  omega
theorem bodyOk_ty (h : sigsOk ds (fs.map sigF) = true) {i : Nat} (hi : i < fs.length) (hn : ¬ nodesL (fAt fs i).body.kids < 0) : bodyOk ds fs i = decide (tyE ds (fs.map sigF) (fAt fs i).params (fAt fs i).body = (fAt fs i).result) := by
  rw [bodyOk, typeTop, if_pos ⟨h, hn, (sigF_at h hi).2.1⟩]
theorem bodyOk_parts (h : sigsOk ds (fs.map sigF) = true) {i : Nat} (hi : i < fs.length) (hb : bodyOk ds fs i = true) : nEs (fAt fs i).body.kids + 1 ≤ 30 ∧ tyE ds (fs.map sigF) (fAt fs i).params (fAt fs i).body = (fAt fs i).result := by
  by_cases hn : nodesL (fAt fs i).body.kids < 0
  · rw [bodyOk_nodes h hi hn] at hb; cases hb
  · rw [bodyOk_ty h hi hn] at hb
    refine ⟨Decidable.byContradiction fun hc => hn (by rw [nodesL_no hc]; omega), of_decide_eq_true hb⟩
/-- The bodies of a valid program name functions that there are. -/
theorem progOk_cal (h : progOk ds fs = true) {i : Nat} (hi : i < fs.length) : allE (calIn fs.length) (fAt fs i).body := by
  obtain ⟨h1, h2⟩ := progOk_parts h
  have := (bodyOk_parts h1 hi (h2 i hi)).2
  have h3 := (sigF_at h1 hi).2.2
  have := tyE_cal h1 (e := (fAt fs i).body) (vars := (fAt fs i).params) (by omega)
  simpa using this
end
end Go.Proofs.YtkapldpmjkdmcaaGreat
/- ValidProgram of both packages. -/
namespace Go.Proofs.YtkapldpmjkdmcaaGreat
open Go.RowKit

set_option maxRecDepth 100000 in
set_option maxHeartbeats 1000000 in
theorem specValidProgram0 (ds : List DeclL) (fs : List FuncL) (a0 : Option Addr) (n0 c0 : Nat) (a1 : Option Addr) (n1 c1 : Nat) (D0 D1 : Nat → Prop) (w : World) (r0 : Rd w D0 (encDecls ds) (.slice a0 n0 c0)) (r1 : Rd w D1 (encFuncs fs) (.slice a1 n1 c1)) :
    Calls Tryz.prog 49 #[.agg #[.slice a0 n0 c0, .slice a1 n1 c1]] w fun e w' => e = .returned (.bool (progOk ds fs)) ∧ Keep w w' := by
  refine calls_k fun Q hQ => ?_
  have K0 := Keep.al w (.cells #[.slice a0 n0 c0, .slice a1 n1 c1] 44)
  have hp : PR w ds fs a0 n0 c0 a1 n1 c1 := ⟨r0.t, r1.t⟩
  obtain ⟨e1, hnc, hm, hat⟩ := funcs_at hp.2
  have HL := Lib.hid e1
  have HA := Lib.hid hat
  clear e1 hat
  cases v1 : sigsOk ds (fs.map sigF)
  · have V := Lib.hid (progOk_sigs v1)
    have V1 := Lib.hid v1
    clear v1
    go_enter Tryz.func49, Tryz.ntmps49
    go_wp2_with fail
    refine (specValidSigs0 ds fs _ _ _ _ _ _ _ _ _ (r0.k K0) (r1.k K0)).mono ?_
    rw [V1.out]
    rintro e w1 ⟨rfl, p1⟩
    go_wp2_with fail
    exact fin_ hQ ⟨ret_b V.out.symm, K0.trans p1⟩
  have V1 := Lib.hid v1
  clear v1
  go_enter Tryz.func49, Tryz.ntmps49
  go_wp2_with fail
  refine (specValidSigs0 ds fs _ _ _ _ _ _ _ _ _ (r0.k K0) (r1.k K0)).mono ?_
  rw [V1.out]
  rintro e w1 ⟨rfl, p1⟩
  have x1 := boxk p1 1
  simp at x1
  go_wp2_with fail
  go_loopw [3] (fun iv wr => ∃ j : Nat, j ≤ n1 ∧ iv = .int .i64 j ∧ Hid (∀ l, l < j → bodyOk ds fs l = true) ∧ Keep (w.alloc (.cells #[.slice a0 n0 c0, .slice a1 n1 c1] 44)) wr) (fun i _ => n1 - (intOf i).toNat)
  case atStart => exact ⟨0, Nat.zero_le _, rfl, fun j hj => absurd hj (by omega), p1⟩
  case round =>
    obtain ⟨wo, rfl⟩ : ∃ wo : World, wo = wr := ⟨_, rfl⟩
    obtain ⟨j, hj, rfl, H, hK⟩ := hrel
    have x0 := boxk hK 0
    have x1 := boxk hK 1
    simp at x0 x1
    by_cases hlt : j < n1
    case neg =>
      have V := Lib.hid (progOk_yes (ds := ds) V1.out (fun i hi => H.out i (by have := HL.out; omega)))
      clear x0
      go_wp2_with fail
      exact fin_ hQ ⟨ret_b V.out.symm, K0.trans hK⟩
    have HJ : Hid (j < fs.length) := by have := HL.out; show _ < _; omega
    have PT := sigF_at V1.out HJ.out
    have AT := Lib.hid PT.2.1
    have PL := Lib.hid PT.1
    clear PT
    obtain ⟨b, o, rfl, hd, a3, n3, c3, a4, n4, c4, d0, d1, d2, d3, d4, r3, r4⟩ := HA.out j hlt
    have hKw := K0.trans hK
    have g0 := (hKw.cell (World.block_lt_of_cell? w _ d0) (fun h => h)).trans d0
    have g1 := (hKw.cell (World.block_lt_of_cell? w _ d1) (fun h => h)).trans d1
    have g2 := (hKw.cell (World.block_lt_of_cell? w _ d2) (fun h => h)).trans d2
    have g3 := (hKw.cell (World.block_lt_of_cell? w _ d3) (fun h => h)).trans d3
    have g4 := (hKw.cell (World.block_lt_of_cell? w _ d4) (fun h => h)).trans d4
    have q0 := (hp.k hKw).kd
    have q3 := ((r3.t).k hKw).kd
    have q4 := ((r4.t).k hKw).kd
    clear d0 d1 d2 d3 d4 r3 r4
    obtain ⟨nz, hnz⟩ : ∃ z, nodesL (fAt fs j).body.kids = z := ⟨_, rfl⟩
    have HNZ := Lib.hid hnz
    by_cases hn : nz < 0
    · have V := Lib.hid (progOk_at HJ.out (bodyOk_nodes V1.out HJ.out (by rw [hnz]; exact hn)))
      have HN1 : Hid (nodesL (fAt fs j).body.kids = -1) := by
        show _ = _
        refine nodesL_no (fun hc => ?_)
        rw [nodesL_yes hc] at hnz
        omega
      clear hnz hn
      go_wp2_with fail
      have pc := Ext.refl0 wo
      refine wp_region_held_drew (S := fun w' => w'.cell? ⟨w.heap.size, 0, none⟩ = some (.slice a0 n0 c0) ∧ w'.cell? ⟨w.heap.size, 1, none⟩ = some (.slice (some ⟨b, o, none⟩) n1 c1) ∧ w'.cell? ⟨b, o + j * 5, none⟩ = some (.slice a3 n3 c3) ∧ w'.cell? ⟨b, o + j * 5 + 1, none⟩ = some (.int .i64 (fAt fs j).result) ∧ w'.cell? ⟨b, o + j * 5 + 2, none⟩ = some (.int .i64 (fAt fs j).body.op) ∧ w'.cell? ⟨b, o + j * 5 + 3, none⟩ = some (.int .i64 (fAt fs j).body.num) ∧ w'.cell? ⟨b, o + j * 5 + 4, none⟩ = some (.slice a4 n4 c4)) (by kernel_rfl) ⟨Keep.at pc x0, Keep.at pc x1, Keep.at pc g0, Keep.at pc g1, Keep.at pc g2, Keep.at pc g3, Keep.at pc g4⟩ (fun hHeld => ?_)
      refine wT 0 hHeld ?_
      try go_frame
      refine wT 1 hHeld ?_
      try go_frame
      refine wT 2 hHeld ?_
      try go_frame
      refine wT 3 hHeld ?_
      try go_frame
      refine wT 4 hHeld ?_
      try go_frame
      refine wT 5 hHeld ?_
      try go_frame
      refine wO 6 (fun K hK => ?_)
      go_simp
      refine (specNodesOf0 _ _ _ _ _ _ _ _ (q4.k pc)).mono ?_
      rw [HN1.out]
      rintro e w2 ⟨rfl, p2⟩
      replace pc := Ext.trans pc p2
      refine hK.out _ _ ⟨Keep.at pc x0, Keep.at pc x1, Keep.at pc g0, Keep.at pc g1, Keep.at pc g2, Keep.at pc g3, Keep.at pc g4⟩ (fun hHeld => ?_)
      clear hK K
      try go_frame
      refine wT 7 hHeld ?_
      try go_frame
      refine wT 8 hHeld ?_
      try go_frame
      refine wS 9 hHeld ?_
      try go_frame
      refine wS 10 hHeld ?_
      try go_frame
      refine wS 11 hHeld ?_
      try go_frame
      refine wS 12 hHeld ?_
      try go_frame
      refine wS 13 hHeld ?_
      try go_frame
      refine wS 14 hHeld ?_
      try go_frame
      refine wS 15 hHeld ?_
      try go_frame
      refine wS 16 hHeld ?_
      try go_frame
      refine wS 17 hHeld ?_
      try go_frame
      refine wS 18 hHeld ?_
      try go_frame
      refine wS 19 hHeld ?_
      try go_frame
      refine wS 20 hHeld ?_
      try go_frame
      refine wS 21 hHeld ?_
      try go_frame
      refine wS 22 hHeld ?_
      try go_frame
      refine wS 23 hHeld ?_
      try go_frame
      refine wS 24 hHeld ?_
      try go_frame
      refine wS 25 hHeld ?_
      try go_frame
      refine wS 26 hHeld ?_
      try go_frame
      refine wS 27 hHeld ?_
      try go_frame
      refine wS 28 hHeld ?_
      try go_frame
      refine wS 29 hHeld ?_
      try go_frame
      refine wT 30 hHeld ?_
      try go_frame
      refine wpAnyH_done (by kernel_rfl) ?_ _
      go_wp2_with fail
      exact fin_ hQ ⟨ret_b V.out.symm, hKw.trans (Keep.dt pc)⟩
    have NN := Lib.hid (bodyOk_ty V1.out HJ.out (by rw [hnz]; exact hn))
    have HNE : Hid (nEs (fAt fs j).body.kids + 1 ≤ 30) := by
      show _ ≤ _
      refine Decidable.byContradiction fun hc => hn ?_
      rw [← hnz, nodesL_no hc]; omega
    have hn' : decide (nz < 0) = false := decide_eq_false hn
    have hn0 : 0 ≤ nz := by omega
    have HB : Hid ((fAt fs j).params.length + 4 * nE (fAt fs j).body ≤ 1049576) := by
      have h1 := PL.out; have h2 := HNE.out; have h3 := nE_eq (fAt fs j).body
      show _ ≤ _; omega
    obtain ⟨z, hz⟩ : ∃ z, tyE ds (fs.map sigF) (fAt fs j).params (fAt fs j).body = z := ⟨_, rfl⟩
    have HZ := Lib.hid hz
    clear hnz hn
    by_cases ht : z = (fAt fs j).result
    · have VB : Hid (bodyOk ds fs j = true) := by show _ = _; rw [NN.out, HZ.out]; exact decide_eq_true ht
      have ht' : (z != (fAt fs j).result) = false := by simpa using ht
      clear ht
      go_wp2_with fail
      have pc := Ext.refl0 wo
      go_region_held3 (fun w' => w'.cell? ⟨w.heap.size, 0, none⟩ = some (.slice a0 n0 c0) ∧ w'.cell? ⟨w.heap.size, 1, none⟩ = some (.slice (some ⟨b, o, none⟩) n1 c1) ∧ w'.cell? ⟨b, o + j * 5, none⟩ = some (.slice a3 n3 c3) ∧ w'.cell? ⟨b, o + j * 5 + 1, none⟩ = some (.int .i64 (fAt fs j).result) ∧ w'.cell? ⟨b, o + j * 5 + 2, none⟩ = some (.int .i64 (fAt fs j).body.op) ∧ w'.cell? ⟨b, o + j * 5 + 3, none⟩ = some (.int .i64 (fAt fs j).body.num) ∧ w'.cell? ⟨b, o + j * 5 + 4, none⟩ = some (.slice a4 n4 c4))
        (first | exact ⟨Keep.at pc x0, Keep.at pc x1, Keep.at pc g0, Keep.at pc g1, Keep.at pc g2, Keep.at pc g3, Keep.at pc g4⟩ | exact ⟨Keep.at (Ext.trans pc (Keep.al _ _)) x0, Keep.at (Ext.trans pc (Keep.al _ _)) x1, Keep.at (Ext.trans pc (Keep.al _ _)) g0, Keep.at (Ext.trans pc (Keep.al _ _)) g1, Keep.at (Ext.trans pc (Keep.al _ _)) g2, Keep.at (Ext.trans pc (Keep.al _ _)) g3, Keep.at (Ext.trans pc (Keep.al _ _)) g4⟩ | go_keep)
        (first
          | (go_at_call 98; refine (specNodesOf0 _ _ _ _ _ _ _ _ (q4.k pc)).mono ?_; rw [HNZ.out]; rintro e w2 ⟨rfl, p2⟩; replace pc := Ext.trans pc p2)
          | (go_at_call 99; refine (specTypeOf0 ds fs V1.out (fAt fs j).body _ _ _ _ _ _ _ _ _ (fAt fs j).params _ _ _ _ (q0.k pc) (q3.k pc) (q4.k pc) HB.out AT.out).mono ?_; rw [HZ.out]; rintro e w3 ⟨rfl, p3⟩; replace pc := Ext.trans pc p3))
      have KE := Lib.hid (hK.trans (Keep.dt pc))
      clear pc x0 x1 g0 g1 g2 g3 g4 q0 q3 q4
      go_wp2_with fail
      go_roundw
      case rel => exact ⟨j + 1, by omega, by go_num, fun l hl => by
        rcases Nat.lt_succ_iff_lt_or_eq.1 hl with h | rfl
        · exact H.out l h
        · exact VB.out, KE.out⟩
      case measure => simp [intOf]; omega
    · have V := Lib.hid (progOk_at HJ.out (show bodyOk ds fs j = false by rw [NN.out, HZ.out]; exact decide_eq_false ht))
      have ht' : (z != (fAt fs j).result) = true := by simpa using ht
      clear ht
      go_wp2_with fail
      have pc := Ext.refl0 wo
      go_region_held3 (fun w' => w'.cell? ⟨w.heap.size, 0, none⟩ = some (.slice a0 n0 c0) ∧ w'.cell? ⟨w.heap.size, 1, none⟩ = some (.slice (some ⟨b, o, none⟩) n1 c1) ∧ w'.cell? ⟨b, o + j * 5, none⟩ = some (.slice a3 n3 c3) ∧ w'.cell? ⟨b, o + j * 5 + 1, none⟩ = some (.int .i64 (fAt fs j).result) ∧ w'.cell? ⟨b, o + j * 5 + 2, none⟩ = some (.int .i64 (fAt fs j).body.op) ∧ w'.cell? ⟨b, o + j * 5 + 3, none⟩ = some (.int .i64 (fAt fs j).body.num) ∧ w'.cell? ⟨b, o + j * 5 + 4, none⟩ = some (.slice a4 n4 c4))
        (first | exact ⟨Keep.at pc x0, Keep.at pc x1, Keep.at pc g0, Keep.at pc g1, Keep.at pc g2, Keep.at pc g3, Keep.at pc g4⟩ | exact ⟨Keep.at (Ext.trans pc (Keep.al _ _)) x0, Keep.at (Ext.trans pc (Keep.al _ _)) x1, Keep.at (Ext.trans pc (Keep.al _ _)) g0, Keep.at (Ext.trans pc (Keep.al _ _)) g1, Keep.at (Ext.trans pc (Keep.al _ _)) g2, Keep.at (Ext.trans pc (Keep.al _ _)) g3, Keep.at (Ext.trans pc (Keep.al _ _)) g4⟩ | go_keep)
        (first
          | (go_at_call 98; refine (specNodesOf0 _ _ _ _ _ _ _ _ (q4.k pc)).mono ?_; rw [HNZ.out]; rintro e w2 ⟨rfl, p2⟩; replace pc := Ext.trans pc p2)
          | (go_at_call 99; refine (specTypeOf0 ds fs V1.out (fAt fs j).body _ _ _ _ _ _ _ _ _ (fAt fs j).params _ _ _ _ (q0.k pc) (q3.k pc) (q4.k pc) HB.out AT.out).mono ?_; rw [HZ.out]; rintro e w3 ⟨rfl, p3⟩; replace pc := Ext.trans pc p3))
      go_wp2_with fail
      exact fin_ hQ ⟨ret_b V.out.symm, hKw.trans (Keep.dt pc)⟩


set_option maxRecDepth 100000 in
set_option maxHeartbeats 1000000 in
theorem implValidProgram (ds : List DeclL) (fs : List FuncL) (a0 : Option Addr) (n0 c0 : Nat) (a1 : Option Addr) (n1 c1 : Nat) (D0 D1 : Nat → Prop) (w : World) (r0 : Rd w D0 (encDecls ds) (.slice a0 n0 c0)) (r1 : Rd w D1 (encFuncs fs) (.slice a1 n1 c1)) (hfit : fitP fs) :
    Calls Tryz.prog 24 #[.agg #[.slice a0 n0 c0, .slice a1 n1 c1]] w fun e w' => e = .returned (.bool (progOk ds fs)) ∧ Keep w w' := by
  refine calls_k fun Q hQ => ?_
  have HFT := Lib.hid hfit
  clear hfit
  have K0 := Keep.al w (.cells #[.slice a0 n0 c0, .slice a1 n1 c1] 44)
  have hp : PR w ds fs a0 n0 c0 a1 n1 c1 := ⟨r0.t, r1.t⟩
  obtain ⟨e1, hnc, hm, hat⟩ := funcs_at hp.2
  have HL := Lib.hid e1
  have HA := Lib.hid hat
  clear e1 hat
  cases v1 : sigsOk ds (fs.map sigF)
  · have V := Lib.hid (progOk_sigs v1)
    have V1 := Lib.hid v1
    clear v1
    go_enter Tryz.func24, Tryz.ntmps24
    go_wp2_with fail
    refine (implValidSigs ds fs _ _ _ _ _ _ _ _ _ (r0.k K0) (r1.k K0)).mono ?_
    rw [V1.out]
    rintro e w1 ⟨rfl, p1⟩
    go_wp2_with fail
    exact fin_ hQ ⟨ret_b V.out.symm, K0.trans p1⟩
  have V1 := Lib.hid v1
  clear v1
  go_enter Tryz.func24, Tryz.ntmps24
  go_wp2_with fail
  refine (implValidSigs ds fs _ _ _ _ _ _ _ _ _ (r0.k K0) (r1.k K0)).mono ?_
  rw [V1.out]
  rintro e w1 ⟨rfl, p1⟩
  have x1 := boxk p1 1
  simp at x1
  go_wp2_with fail
  go_loopw [11] (fun iv wr => ∃ j : Nat, j ≤ n1 ∧ iv = .int .i64 j ∧ Hid (∀ l, l < j → bodyOk ds fs l = true) ∧ Keep (w.alloc (.cells #[.slice a0 n0 c0, .slice a1 n1 c1] 44)) wr) (fun i _ => n1 - (intOf i).toNat)
  case atStart => exact ⟨0, Nat.zero_le _, rfl, fun j hj => absurd hj (by omega), p1⟩
  case round =>
    obtain ⟨wo, rfl⟩ : ∃ wo : World, wo = wr := ⟨_, rfl⟩
    obtain ⟨j, hj, rfl, H, hK⟩ := hrel
    have x0 := boxk hK 0
    have x1 := boxk hK 1
    simp at x0 x1
    by_cases hlt : j < n1
    case neg =>
      have V := Lib.hid (progOk_yes (ds := ds) V1.out (fun i hi => H.out i (by have := HL.out; omega)))
      clear x0
      go_wp2_with fail
      exact fin_ hQ ⟨ret_b V.out.symm, K0.trans hK⟩
    have HJ : Hid (j < fs.length) := by have := HL.out; show _ < _; omega
    have PT := sigF_at V1.out HJ.out
    have PL := Lib.hid PT.1
    have HF := Lib.hid (HFT.out j HJ.out)
    clear PT
    obtain ⟨b, o, rfl, hd, a3, n3, c3, a4, n4, c4, d0, d1, d2, d3, d4, r3, r4⟩ := HA.out j hlt
    have hKw := K0.trans hK
    have g0 := (hKw.cell (World.block_lt_of_cell? w _ d0) (fun h => h)).trans d0
    have g1 := (hKw.cell (World.block_lt_of_cell? w _ d1) (fun h => h)).trans d1
    have g2 := (hKw.cell (World.block_lt_of_cell? w _ d2) (fun h => h)).trans d2
    have g3 := (hKw.cell (World.block_lt_of_cell? w _ d3) (fun h => h)).trans d3
    have g4 := (hKw.cell (World.block_lt_of_cell? w _ d4) (fun h => h)).trans d4
    have ka := Keep.al wo (.cells #[.slice a3 n3 c3, .int .i64 (fAt fs j).result, .int .i64 (fAt fs j).body.op, .int .i64 (fAt fs j).body.num, .slice a4 n4 c4] 60)
    have RB := rowOf wo #[.slice a3 n3 c3, .int .i64 (fAt fs j).result, .int .i64 (fAt fs j).body.op, .int .i64 (fAt fs j).body.num, .slice a4 n4 c4] 60
    have q0 := ((hp.k hKw).k ka).kd
    have q3 := (((r3.t).k hKw).k ka).kd
    have q4 := (((r4.t).k hKw).k ka).kd
    have hn3 : n3 ≤ 1048576 := by have h1 := PL.out; have h2 := (ints_at r3).1; omega
    clear d0 d1 d2 d3 d4 r3 r4
    obtain ⟨z, hz⟩ : ∃ z, typeTop ds fs (fAt fs j).params (fAt fs j).body = z := ⟨_, rfl⟩
    have ee : ExprL.mk (fAt fs j).body.op (fAt fs j).body.num (fAt fs j).body.kids = (fAt fs j).body := by cases (fAt fs j).body; rfl
    have HZ : Hid (typeTop ds fs (fAt fs j).params (.mk (fAt fs j).body.op (fAt fs j).body.num (fAt fs j).body.kids) = z) := by show _ = _; rw [ee]; exact hz
    have HF2 : Hid (allE fitN (.mk (fAt fs j).body.op (fAt fs j).body.num (fAt fs j).body.kids)) := by show allE _ _; rw [ee]; exact HF.out
    have NN : Hid (bodyOk ds fs j = decide (z = (fAt fs j).result)) := by show _ = _; rw [bodyOk, hz]
    have KA := Lib.hid (hK.trans ka)
    have KX := Lib.hid (hKw.trans ka)
    clear hz ee
    by_cases ht : z = (fAt fs j).result
    · have VB : Hid (bodyOk ds fs j = true) := by show _ = _; rw [NN.out]; exact decide_eq_true ht
      have ht' : (z != (fAt fs j).result) = false := by simpa using ht
      clear ht
      go_wp2_with fail
      generalize (wo.alloc (.cells #[.slice a3 n3 c3, .int .i64 (fAt fs j).result, .int .i64 (fAt fs j).body.op, .int .i64 (fAt fs j).body.num, .slice a4 n4 c4] 60)) = W at *
      have x0 := boxk KA.out 0
      have x1 := boxk KA.out 1
      have y0 := RB.cell (i := 0) (by simp)
      have y1 := RB.cell (i := 1) (by simp)
      have y2 := RB.cell (i := 2) (by simp)
      have y3 := RB.cell (i := 3) (by simp)
      have y4 := RB.cell (i := 4) (by simp)
      simp at x0 x1 y0 y1 y2 y3 y4
      clear g0 g1 g2 g3 g4
      have pc := Ext.refl0 W
      go_region_held3 (fun w' => w'.cell? ⟨w.heap.size, 0, none⟩ = some (.slice a0 n0 c0) ∧ w'.cell? ⟨w.heap.size, 1, none⟩ = some (.slice (some ⟨b, o, none⟩) n1 c1) ∧ w'.cell? ⟨wo.heap.size, 0, none⟩ = some (.slice a3 n3 c3) ∧ w'.cell? ⟨wo.heap.size, 1, none⟩ = some (.int .i64 (fAt fs j).result) ∧ w'.cell? ⟨wo.heap.size, 2, none⟩ = some (.int .i64 (fAt fs j).body.op) ∧ w'.cell? ⟨wo.heap.size, 3, none⟩ = some (.int .i64 (fAt fs j).body.num) ∧ w'.cell? ⟨wo.heap.size, 4, none⟩ = some (.slice a4 n4 c4))
        (first | exact ⟨Keep.at pc x0, Keep.at pc x1, Keep.at pc y0, Keep.at pc y1, Keep.at pc y2, Keep.at pc y3, Keep.at pc y4⟩ | exact ⟨Keep.at (Ext.trans pc (Keep.al _ _)) x0, Keep.at (Ext.trans pc (Keep.al _ _)) x1, Keep.at (Ext.trans pc (Keep.al _ _)) y0, Keep.at (Ext.trans pc (Keep.al _ _)) y1, Keep.at (Ext.trans pc (Keep.al _ _)) y2, Keep.at (Ext.trans pc (Keep.al _ _)) y3, Keep.at (Ext.trans pc (Keep.al _ _)) y4⟩ | go_keep)
        (first
          | (go_at_call 63; refine (implTypeOfTop ds fs _ _ _ _ _ _ _ _ _ (fAt fs j).params _ _ _ _ _ _ _ _ _ _ _ (q0.k pc).1 (q0.k pc).2 (q3.k pc) hn3 (q4.k pc) HF2.out).mono ?_; rw [HZ.out]; rintro e w3 ⟨rfl, p3⟩; replace pc := Ext.trans pc p3))
      have KE := Lib.hid (KA.out.trans (Keep.dt pc))
      clear pc x0 x1 y0 y1 y2 y3 y4 q0 q3 q4
      go_wp2_with fail
      go_roundw
      case rel => exact ⟨j + 1, by omega, by go_num, fun l hl => by
        rcases Nat.lt_succ_iff_lt_or_eq.1 hl with h | rfl
        · exact H.out l h
        · exact VB.out, KE.out⟩
      case measure => simp [intOf]; omega
    · have V := Lib.hid (progOk_at HJ.out (show bodyOk ds fs j = false by rw [NN.out]; exact decide_eq_false ht))
      have ht' : (z != (fAt fs j).result) = true := by simpa using ht
      clear ht
      go_wp2_with fail
      generalize (wo.alloc (.cells #[.slice a3 n3 c3, .int .i64 (fAt fs j).result, .int .i64 (fAt fs j).body.op, .int .i64 (fAt fs j).body.num, .slice a4 n4 c4] 60)) = W at *
      have x0 := boxk KA.out 0
      have x1 := boxk KA.out 1
      have y0 := RB.cell (i := 0) (by simp)
      have y1 := RB.cell (i := 1) (by simp)
      have y2 := RB.cell (i := 2) (by simp)
      have y3 := RB.cell (i := 3) (by simp)
      have y4 := RB.cell (i := 4) (by simp)
      simp at x0 x1 y0 y1 y2 y3 y4
      clear g0 g1 g2 g3 g4
      have pc := Ext.refl0 W
      go_region_held3 (fun w' => w'.cell? ⟨w.heap.size, 0, none⟩ = some (.slice a0 n0 c0) ∧ w'.cell? ⟨w.heap.size, 1, none⟩ = some (.slice (some ⟨b, o, none⟩) n1 c1) ∧ w'.cell? ⟨wo.heap.size, 0, none⟩ = some (.slice a3 n3 c3) ∧ w'.cell? ⟨wo.heap.size, 1, none⟩ = some (.int .i64 (fAt fs j).result) ∧ w'.cell? ⟨wo.heap.size, 2, none⟩ = some (.int .i64 (fAt fs j).body.op) ∧ w'.cell? ⟨wo.heap.size, 3, none⟩ = some (.int .i64 (fAt fs j).body.num) ∧ w'.cell? ⟨wo.heap.size, 4, none⟩ = some (.slice a4 n4 c4))
        (first | exact ⟨Keep.at pc x0, Keep.at pc x1, Keep.at pc y0, Keep.at pc y1, Keep.at pc y2, Keep.at pc y3, Keep.at pc y4⟩ | exact ⟨Keep.at (Ext.trans pc (Keep.al _ _)) x0, Keep.at (Ext.trans pc (Keep.al _ _)) x1, Keep.at (Ext.trans pc (Keep.al _ _)) y0, Keep.at (Ext.trans pc (Keep.al _ _)) y1, Keep.at (Ext.trans pc (Keep.al _ _)) y2, Keep.at (Ext.trans pc (Keep.al _ _)) y3, Keep.at (Ext.trans pc (Keep.al _ _)) y4⟩ | go_keep)
        (first
          | (go_at_call 63; refine (implTypeOfTop ds fs _ _ _ _ _ _ _ _ _ (fAt fs j).params _ _ _ _ _ _ _ _ _ _ _ (q0.k pc).1 (q0.k pc).2 (q3.k pc) hn3 (q4.k pc) HF2.out).mono ?_; rw [HZ.out]; rintro e w3 ⟨rfl, p3⟩; replace pc := Ext.trans pc p3))
      go_wp2_with fail
      exact fin_ hQ ⟨ret_b V.out.symm, KX.out.trans (Keep.dt pc)⟩
end Go.Proofs.YtkapldpmjkdmcaaGreat
