/- walk: all nodes of an expression are visited by a function value. -/
import Derived.Test.YtkapldpmjkdmcaaGreatSAC
import Derived.Test.YtkapldpmjkdmcaaGreatSAB
import Derived.Test.YtkapldpmjkdmcaaGreatSAD
import Derived.Deep.RegionLaw
import Derived.ArgAppend
import Derived.Test.YtkapldpmjkdmcaaGreatSAA
import Derived.Deep.RegionHeld3
import Derived.Deep.DeepCutAuto
import Derived.IntWalk
namespace Go.Proofs.YtkapldpmjkdmcaaGreat
open Go.RowKit

section
variable {σ : Type} (vis : Int → Int → σ → σ)
mutual
/-- What comes of visiting all nodes. -/
def visE : ExprL → σ → σ
  | .mk op num ks, s => visEs ks (vis op num s)
def visEs : List ExprL → σ → σ
  | [], s => s
  | k :: ks, s => visEs ks (visE k s)
end
end

end Go.Proofs.YtkapldpmjkdmcaaGreat
/- walk: all nodes of an expression are visited by a function value; which blocks the visits may change may depend on the world, and the nodes may be known to be of a kind. -/
namespace Go.Proofs.YtkapldpmjkdmcaaGreat
open Go.RowKit

mutual
/-- All nodes are of a kind. -/
def allE (P : Int → Int → Prop) : ExprL → Prop
  | .mk op num ks => P op num ∧ allEs P ks
def allEs (P : Int → Int → Prop) : List ExprL → Prop
  | [] => True
  | k :: ks => allE P k ∧ allEs P ks
end
theorem allEs_at {P : Int → Int → Prop} {es : List ExprL} (h : allEs P es) {j : Nat} (hj : j < es.length) : allE P (eAt es j) := by
  induction es generalizing j with
  | nil => simp at hj
  | cons e es ih =>
    cases j with
    | zero => exact h.1
    | succ j => exact ih h.2 (by simpa using hj)
mutual
theorem allE_true : ∀ e : ExprL, allE (fun _ _ => True) e
  | .mk _ _ ks => ⟨trivial, allEs_true ks⟩
theorem allEs_true : ∀ es : List ExprL, allEs (fun _ _ => True) es
  | [] => trivial
  | e :: es => ⟨allE_true e, allEs_true es⟩
end

/-- From w to w' only blocks of M change, and none of the old ones has come into M. -/
structure StM (M : World → Nat → Prop) (w w' : World) : Prop where
  ext : Ext (M w) w w'
  old : ∀ r, r < w.heap.size → M w' r → M w r
theorem StM.refl (M : World → Nat → Prop) (w : World) : StM M w w := ⟨Ext.refl _ _, fun _ _ h => h⟩
theorem StM.trans {M : World → Nat → Prop} {w w' w'' : World} (h : StM M w w') (k : StM M w' w'') : StM M w w'' :=
  ⟨h.ext.then_ k.ext (fun i hi hm => h.old i hi hm), fun r hr hm => h.old r hr (k.old r (Nat.lt_of_lt_of_le hr h.ext.size) hm)⟩

end Go.Proofs.YtkapldpmjkdmcaaGreat
/- The functions that an expression names, plain: by insertion, and by marks; and that what has a type names functions that there are. -/
namespace Go.Proofs.YtkapldpmjkdmcaaGreat
open Go.RowKit

/-- A node names a function. -/
def isCal (op : Int) : Bool := decide (op = 9) || decide (op = 10)
/-- The reference's visits: insertion. -/
def cvis (op num : Int) (s : List Int) : List Int := if isCal op then insL s num else s
/-- The program's visits: a mark is set. -/
def bvis (op num : Int) (s : List Bool) : List Bool := if isCal op then s.set num.toNat true else s
def calL (e : ExprL) : List Int := visE cvis e []
/-- A node that names a function names one of n. -/
def calIn (n : Nat) (op num : Int) : Prop := isCal op = true → 0 ≤ num ∧ num < (n : Int)

theorem cvis_len1 (op num : Int) (s : List Int) : (cvis op num s).length ≤ s.length + 1 := by
  unfold cvis; split
  · exact insL_len s num
  · omega
mutual
theorem cvisE_len : ∀ (e : ExprL) (s : List Int), (visE cvis e s).length ≤ s.length + nE e
  | .mk op num ks, s => by
    have h := cvisEs_len ks (cvis op num s)
    have h1 := cvis_len1 op num s
    simp only [visE, nE]; omega
theorem cvisEs_len : ∀ (es : List ExprL) (s : List Int), (visEs cvis es s).length ≤ s.length + nEs es
  | [], s => by simp [visEs]
  | e :: es, s => by
    have h1 := cvisE_len e s
    have h2 := cvisEs_len es (visE cvis e s)
    simp only [visEs, nEs]; omega
end
theorem bvis_len (op num : Int) (s : List Bool) : (bvis op num s).length = s.length := by unfold bvis; split <;> simp
mutual
theorem bvisE_len : ∀ (e : ExprL) (s : List Bool), (visE bvis e s).length = s.length
  | .mk op num ks, s => by rw [visE, bvisEs_len ks, bvis_len]
theorem bvisEs_len : ∀ (es : List ExprL) (s : List Bool), (visEs bvis es s).length = s.length
  | [], s => rfl
  | e :: es, s => by rw [visEs, bvisEs_len es, bvisE_len e]
end
theorem idxL_set {s : List Bool} {x : Int} (h0 : 0 ≤ x) (h1 : x < (s.length : Int)) : idxL (s.set x.toNat true) = insL (idxL s) x := by
  refine asc_ext (idxL_asc _) (insL_asc (idxL_asc _)) (fun y => ?_)
  rw [idxL_mem, insL_mem, idxL_mem]
  constructor
  · rintro ⟨i, hi, rfl, hb⟩
    rw [List.length_set] at hi
    by_cases e : x.toNat = i
    · left; omega
    · right
      refine ⟨i, hi, rfl, ?_⟩
      simpa [bAtL, List.getElem?_set, e] using hb
  · rintro (rfl | ⟨i, hi, rfl, hb⟩)
    · refine ⟨y.toNat, by rw [List.length_set]; omega, by omega, ?_⟩
      rw [bAtL_eq (by rw [List.length_set]; omega)]
      simp
    · refine ⟨i, by rw [List.length_set]; exact hi, rfl, ?_⟩
      by_cases e : x.toNat = i
      · subst e
        rw [bAtL_eq (by rw [List.length_set]; exact hi)]
        simp
      · simpa [bAtL, List.getElem?_set, e] using hb
theorem idxL_bvis {op num : Int} {s : List Bool} (h : calIn s.length op num) : idxL (bvis op num s) = cvis op num (idxL s) := by
  unfold bvis cvis
  split
  · next hc => exact idxL_set (h hc).1 (h hc).2
  · rfl
mutual
theorem idxL_visE : ∀ (e : ExprL) (s : List Bool), allE (calIn s.length) e → idxL (visE bvis e s) = visE cvis e (idxL s)
  | .mk op num ks, s, h => by
    obtain ⟨h1, h2⟩ := h
    rw [visE, visE, ← idxL_bvis h1]
    exact idxL_visEs ks _ (by rw [bvis_len]; exact h2)
theorem idxL_visEs : ∀ (es : List ExprL) (s : List Bool), allEs (calIn s.length) es → idxL (visEs bvis es s) = visEs cvis es (idxL s)
  | [], s, _ => rfl
  | e :: es, s, h => by
    obtain ⟨h1, h2⟩ := h
    rw [visEs, visEs, ← idxL_visE e s h1]
    exact idxL_visEs es _ (by rw [bvisE_len]; exact h2)
end
section
variable {ds : List DeclL} {sg : List SigL} (hok : sigsOk ds sg = true)
include hok
theorem simple_kids {op num : Int} {tys : List Int} (h : 0 ≤ simpleL ds sg op num tys) : calIn sg.length op num ∧ ∀ i, i < tys.length → 0 ≤ iAt tys i := by
  obtain ⟨ht, _, _, hs⟩ := sigsOk_parts hok
  unfold simpleL at h
  have no : ∀ {o : Int}, o ≠ 9 → o ≠ 10 → calIn sg.length o num := fun h1 h2 hc => absurd hc (by simp [isCal, h1, h2])
  split at h
  · next e =>
    subst e
    split at h
    · next h1 => exact ⟨no (by omega) (by omega), fun i hi => by rw [h1.1] at hi; simp at hi⟩
    · omega
  split at h
  · next e =>
    split at h
    · next h1 =>
      refine ⟨no (by omega) (by omega), fun i hi => ?_⟩
      rw [h1.2] at hi ⊢
      rcases (show i = 0 ∨ i = 1 by simp at hi; omega) with rfl | rfl <;> simp [iAt]
    · omega
  split at h
  · next e =>
    split at h
    · next h1 =>
      refine ⟨no (by omega) (by omega), fun i hi => ?_⟩
      rw [h1.2] at hi ⊢
      rcases (show i = 0 by simp at hi; omega) with rfl; simp [iAt]
    · omega
  split at h
  · next e =>
    split at h
    · next h1 =>
      obtain ⟨_, h2, h3, h4⟩ := h1
      obtain ⟨q1, q2, q3⟩ := isArr_parts h3
      have := isT_iff.1 (declOk_arrow (typesOk_decl ht (by omega)) q3).1
      refine ⟨no (by omega) (by omega), fun i hi => ?_⟩
      rcases (show i = 0 ∨ i = 1 by omega) with rfl | rfl <;> omega
    · omega
  split at h
  · next e =>
    split at h
    · next h1 =>
      refine ⟨no (by omega) (by omega), fun i hi => ?_⟩
      rw [h1.2] at hi ⊢
      exact (allT_at (conFieldsL_ok ht num).2 hi).1
    · omega
  split at h
  · next e =>
    split at h
    · next h1 =>
      refine ⟨fun _ => ⟨h1.1, h1.2.1⟩, fun i hi => ?_⟩
      rw [h1.2.2] at hi ⊢
      exact (allT_at (sigOk_parts (hs _ (by omega))).2.1 hi).1
    · omega
  split at h
  · next e =>
    split at h
    · next h1 =>
      refine ⟨fun _ => ⟨h1.1, h1.2.1⟩, fun i hi => ?_⟩
      obtain ⟨_, h2, h3, h4⟩ := h1
      rw [h4] at hi ⊢
      rw [List.length_take] at hi
      have e2 : iAt (List.take ((sgAt sg num.toNat).params.length - 1) (sgAt sg num.toNat).params) i = iAt (sgAt sg num.toNat).params i := by
        rw [iAt_get (by rw [List.length_take]; exact hi), iAt_get (by omega)]; simp
      rw [e2]
      exact (allT_at (sigOk_parts (hs _ (by omega))).2.1 (by omega)).1
    · omega
  · omega
omit hok in
theorem oneT_all {ts : List Int} (h : 0 ≤ oneT ts) {i : Nat} (hi : i < ts.length) : 0 ≤ iAt ts i := by
  by_cases h1 : iAt ts i < 0
  · rw [oneT_neg hi (.inr h1)] at h; omega
  · omega
end
end Go.Proofs.YtkapldpmjkdmcaaGreat
/- Normal forms of expressions, plain: the steps and the variable of an expression; their number; the integers that they hold. -/
namespace Go.Proofs.YtkapldpmjkdmcaaGreat
open Go.RowKit

/-- Some numbers in order. -/
def numsL (n m : Nat) : List Int := (List.range m).map (fun i => ((n + i : Nat) : Int))
theorem numsL_len (n m : Nat) : (numsL n m).length = m := by simp [numsL]
theorem numsL_zero (n : Nat) : numsL n 0 = [] := rfl
theorem numsL_succ (n m : Nat) : numsL n (m + 1) = numsL n m ++ [((n + m : Nat) : Int)] := by simp [numsL, List.range_succ]

mutual
/-- The steps of an expression in a scope of n variables, those of the expression being env, and the variable that stands for it. -/
def lowE (ds : List DeclL) : ExprL → List Int → Nat → List StepL × Int
  | .mk op num ks, env, n =>
    if op = 12 then ([], iAt env num.toNat)
    else if op = 13 then lowLet ds ks env n
    else if op = 7 ∨ op = 8 then lowChoice ds op num ks env n
    else ((lowA ds ks env n).1 ++ [.mk op num 0 (lowA ds ks env n).2 []], ((n + (lowA ds ks env n).1.length : Nat) : Int))
def lowA (ds : List DeclL) : List ExprL → List Int → Nat → List StepL × List Int
  | [], _, _ => ([], [])
  | e :: es, env, n => ((lowE ds e env n).1 ++ (lowA ds es env (n + (lowE ds e env n).1.length)).1, (lowE ds e env n).2 :: (lowA ds es env (n + (lowE ds e env n).1.length)).2)
def lowLet (ds : List DeclL) : List ExprL → List Int → Nat → List StepL × Int
  | [], _, _ => ([], 0)
  | e :: es, env, n => ((lowE ds e env n).1 ++ (lowHd ds es (env ++ [(lowE ds e env n).2]) (n + (lowE ds e env n).1.length)).1, (lowHd ds es (env ++ [(lowE ds e env n).2]) (n + (lowE ds e env n).1.length)).2)
def lowHd (ds : List DeclL) : List ExprL → List Int → Nat → List StepL × Int
  | [], _, _ => ([], 0)
  | e :: _, env, n => lowE ds e env n
def lowChoice (ds : List DeclL) (op num : Int) : List ExprL → List Int → Nat → List StepL × Int
  | [], _, _ => ([], 0)
  | e :: es, env, n => ((lowE ds e env n).1 ++ [.mk op num 0 [(lowE ds e env n).2] (lowK ds es (if op = 8 then armsL ds num else [[], []]) env (n + (lowE ds e env n).1.length))], ((n + (lowE ds e env n).1.length : Nat) : Int))
def lowK (ds : List DeclL) : List ExprL → List (List Int) → List Int → Nat → List BlockL
  | [], _, _, _ => []
  | e :: es, fs, env, n => .mk (lowE ds e (env ++ numsL n (fs.headD []).length) (n + (fs.headD []).length)).1 (lowE ds e (env ++ numsL n (fs.headD []).length) (n + (fs.headD []).length)).2 :: lowK ds es fs.tail env n
end

section
variable (ds : List DeclL) {num : Int} {ks : List ExprL} (env : List Int) (n : Nat)
theorem lowE_var : lowE ds (.mk 12 num ks) env n = ([], iAt env num.toNat) := by rw [lowE, if_pos rfl]
theorem lowE_let (h : ks.length = 2) : lowE ds (.mk 13 num ks) env n = ((lowE ds (eAt ks 0) env n).1 ++ (lowE ds (eAt ks 1) (env ++ [(lowE ds (eAt ks 0) env n).2]) (n + (lowE ds (eAt ks 0) env n).1.length)).1, (lowE ds (eAt ks 1) (env ++ [(lowE ds (eAt ks 0) env n).2]) (n + (lowE ds (eAt ks 0) env n).1.length)).2) := by
  match ks, h with
  | [a, b], _ => rw [lowE, if_neg (by decide), if_pos rfl]; simp [lowLet, lowHd, eAt]
/-- The fields of the kids of a choice. -/
def kidsF (ds : List DeclL) (op num : Int) : List (List Int) := if op = 8 then armsL ds num else [[], []]
theorem lowE_choice {op : Int} (ho : op = 7 ∨ op = 8) (h : 0 < ks.length) : lowE ds (.mk op num ks) env n = ((lowE ds (eAt ks 0) env n).1 ++ [.mk op num 0 [(lowE ds (eAt ks 0) env n).2] (lowK ds (ks.drop 1) (kidsF ds op num) env (n + (lowE ds (eAt ks 0) env n).1.length))], ((n + (lowE ds (eAt ks 0) env n).1.length : Nat) : Int)) := by
  match ks, h with
  | a :: es, _ =>
    rw [lowE, if_neg (by omega), if_neg (by omega), if_pos ho]
    simp [lowChoice, eAt, kidsF]
theorem lowE_other {op : Int} (h1 : op ≠ 12) (h2 : op ≠ 13) (h7 : op ≠ 7) (h8 : op ≠ 8) : lowE ds (.mk op num ks) env n = ((lowA ds ks env n).1 ++ [.mk op num 0 (lowA ds ks env n).2 []], ((n + (lowA ds ks env n).1.length : Nat) : Int)) := by
  rw [lowE, if_neg h1, if_neg h2, if_neg (by omega)]
theorem lowA_nil : lowA ds [] env n = ([], []) := by rw [lowA]
theorem lowA_snoc (es : List ExprL) (e : ExprL) (n : Nat) : lowA ds (es ++ [e]) env n = ((lowA ds es env n).1 ++ (lowE ds e env (n + (lowA ds es env n).1.length)).1, (lowA ds es env n).2 ++ [(lowE ds e env (n + (lowA ds es env n).1.length)).2]) := by
  induction es generalizing n with
  | nil => simp [lowA]
  | cons x xs ih =>
    rw [List.cons_append, lowA, ih, lowA]
    simp only [List.append_assoc, List.cons_append, List.length_append, Nat.add_assoc]
theorem lowA_take {ks : List ExprL} {j : Nat} (h : j < ks.length) : lowA ds (ks.take (j + 1)) env n = ((lowA ds (ks.take j) env n).1 ++ (lowE ds (eAt ks j) env (n + (lowA ds (ks.take j) env n).1.length)).1, (lowA ds (ks.take j) env n).2 ++ [(lowE ds (eAt ks j) env (n + (lowA ds (ks.take j) env n).1.length)).2]) := by
  rw [take_succ_eAt ks h, lowA_snoc]
theorem lowA_len (es : List ExprL) (n : Nat) : (lowA ds es env n).2.length = es.length := by
  induction es generalizing n with
  | nil => simp [lowA]
  | cons x xs ih => rw [lowA]; simp [ih]
/-- The block of kid i. -/
def kidB (ds : List DeclL) (fs : List (List Int)) (env : List Int) (n : Nat) (es : List ExprL) (i : Nat) : BlockL := .mk (lowE ds (eAt es i) (env ++ numsL n (cAt fs i).length) (n + (cAt fs i).length)).1 (lowE ds (eAt es i) (env ++ numsL n (cAt fs i).length) (n + (cAt fs i).length)).2
theorem lowK_len (es : List ExprL) (fs : List (List Int)) : (lowK ds es fs env n).length = es.length := by
  induction es generalizing fs with
  | nil => simp [lowK]
  | cons x xs ih => rw [lowK]; simp [ih]
theorem lowK_at {es : List ExprL} {fs : List (List Int)} {i : Nat} (h : i < es.length) : bAt (lowK ds es fs env n) i = kidB ds fs env n es i := by
  induction es generalizing fs i with
  | nil => simp at h
  | cons x xs ih =>
    rw [lowK]
    cases i with
    | zero => cases fs <;> simp [bAt, kidB, eAt, cAt, List.headD]
    | succ i =>
      have := ih (fs := fs.tail) (i := i) (by simpa using h)
      have e1 : cAt fs.tail i = cAt fs (i + 1) := by cases fs <;> simp [cAt]
      have e2 : eAt (x :: xs) (i + 1) = eAt xs i := by simp [eAt]
      simp only [bAt, List.getD_cons_succ] at this ⊢
      rw [this, kidB, kidB, e1, e2]
theorem lowK_take {es : List ExprL} {fs : List (List Int)} {i : Nat} (h : i < es.length) : (lowK ds es fs env n).take (i + 1) = (lowK ds es fs env n).take i ++ [kidB ds fs env n es i] := by
  have hl : i < (lowK ds es fs env n).length := by rw [lowK_len]; exact h
  rw [List.take_succ_eq_append_getElem hl, ← bAt_get hl, lowK_at ds env n h]
theorem eAt_drop1 {ks : List ExprL} {i : Nat} : eAt (ks.drop 1) i = eAt ks (i + 1) := by cases ks <;> simp [eAt]
end

/-! ### How many steps, and how many integers -/
theorem nSs_lenN (ss : List StepL) : ss.length ≤ nSs ss := by
  induction ss with
  | nil => simp
  | cons e es ih => have := nS_eq e; simp only [List.length_cons, nSs]; omega
theorem cntS_app (a b : List StepL) : cntRR (rowsS (a ++ b)) = cntRR (rowsS a) + cntRR (rowsS b) := by rw [rowsS_map, rowsS_map, rowsS_map, List.map_append, cntRR_append]
theorem cnt_intsL (xs : List Int) : cntD (encInts xs) = xs.length := by
  rw [encInts, cntD]
  induction xs with
  | nil => rfl
  | cons x xs ih => simp only [List.map_cons, cntRR, rowI, cntR, cntD, ih, List.length_cons]; omega
mutual
/-- An expression has at least as many nodes as its steps, and those of all blocks in them. -/
theorem lowE_nSs (ds : List DeclL) : ∀ (e : ExprL) (env : List Int) (n : Nat), nSs (lowE ds e env n).1 ≤ nE e
  | .mk op num ks, env, n => by
    rw [lowE, nE]
    split
    · simp [nSs]
    split
    · have := lowLet_nSs ds ks env n; omega
    split
    · exact lowChoice_nSs ds op num ks env n
    · have := lowA_nSs ds ks env n
      rw [nSs_append]; simp only [nSs, nS, nBs]; omega
theorem lowA_nSs (ds : List DeclL) : ∀ (es : List ExprL) (env : List Int) (n : Nat), nSs (lowA ds es env n).1 ≤ nEs es
  | [], env, n => by simp [lowA, nSs]
  | e :: es, env, n => by
    have h1 := lowE_nSs ds e env n
    have h2 := lowA_nSs ds es env (n + (lowE ds e env n).1.length)
    rw [lowA, nEs]
    simp only [nSs_append]; omega
theorem lowLet_nSs (ds : List DeclL) : ∀ (es : List ExprL) (env : List Int) (n : Nat), nSs (lowLet ds es env n).1 ≤ nEs es
  | [], env, n => by simp [lowLet, nSs]
  | e :: es, env, n => by
    have h1 := lowE_nSs ds e env n
    have h2 := lowHd_nSs ds es (env ++ [(lowE ds e env n).2]) (n + (lowE ds e env n).1.length)
    rw [lowLet, nEs]
    simp only [nSs_append]; omega
theorem lowHd_nSs (ds : List DeclL) : ∀ (es : List ExprL) (env : List Int) (n : Nat), nSs (lowHd ds es env n).1 ≤ nEs es
  | [], env, n => by simp [lowHd, nSs]
  | e :: es, env, n => by
    have h1 := lowE_nSs ds e env n
    rw [lowHd, nEs]; omega
theorem lowChoice_nSs (ds : List DeclL) (op num : Int) : ∀ (es : List ExprL) (env : List Int) (n : Nat), nSs (lowChoice ds op num es env n).1 ≤ nEs es + 1
  | [], env, n => by simp [lowChoice, nSs]
  | e :: es, env, n => by
    have h1 := lowE_nSs ds e env n
    have h2 := lowK_nBs ds es (if op = 8 then armsL ds num else [[], []]) env (n + (lowE ds e env n).1.length)
    rw [lowChoice, nEs]
    simp only [nSs_append, nSs, nS]; omega
theorem lowK_nBs (ds : List DeclL) : ∀ (es : List ExprL) (fs : List (List Int)) (env : List Int) (n : Nat), nBs (lowK ds es fs env n) ≤ nEs es
  | [], fs, env, n => by simp [lowK, nBs]
  | e :: es, fs, env, n => by
    have h1 := lowE_nSs ds e (env ++ numsL n (fs.headD []).length) (n + (fs.headD []).length)
    have h2 := lowK_nBs ds es fs.tail env n
    rw [lowK, nEs, nBs, nB]; omega
end
theorem lowE_len (ds : List DeclL) (e : ExprL) (env : List Int) (n : Nat) : (lowE ds e env n).1.length ≤ nE e := Nat.le_trans (nSs_lenN _) (lowE_nSs ds e env n)
theorem lowA_len1 (ds : List DeclL) (es : List ExprL) (env : List Int) (n : Nat) : (lowA ds es env n).1.length ≤ nEs es := Nat.le_trans (nSs_lenN _) (lowA_nSs ds es env n)

mutual
theorem lowE_cnt (ds : List DeclL) : ∀ (e : ExprL) (env : List Int) (n : Nat), cntRR (rowsS (lowE ds e env n).1) + 2 ≤ 5 * nE e
  | .mk op num ks, env, n => by
    rw [lowE, nE]
    split
    · simp [rowsS, cntRR]; omega
    split
    · have := lowLet_cnt ds ks env n; omega
    split
    · have := lowChoice_cnt ds op num ks env n; omega
    · have := lowA_cnt ds ks env n
      have h3 := cnt_intsL (lowA ds ks env n).2
      have h4 := lowA_len ds env ks n
      rw [cntS_app]; simp only [rowsS, rowS, cntRR, cntR, cntD, rowsB, h3]; omega
theorem lowA_cnt (ds : List DeclL) : ∀ (es : List ExprL) (env : List Int) (n : Nat), cntRR (rowsS (lowA ds es env n).1) + 2 * es.length ≤ 5 * nEs es
  | [], env, n => by simp [lowA, rowsS, cntRR]
  | e :: es, env, n => by
    have h1 := lowE_cnt ds e env n
    have h2 := lowA_cnt ds es env (n + (lowE ds e env n).1.length)
    rw [lowA, nEs]
    simp only [cntS_app, List.length_cons]; omega
theorem lowLet_cnt (ds : List DeclL) : ∀ (es : List ExprL) (env : List Int) (n : Nat), cntRR (rowsS (lowLet ds es env n).1) ≤ 5 * nEs es
  | [], env, n => by simp [lowLet, rowsS, cntRR]
  | e :: es, env, n => by
    have h1 := lowE_cnt ds e env n
    have h2 := lowHd_cnt ds es (env ++ [(lowE ds e env n).2]) (n + (lowE ds e env n).1.length)
    rw [lowLet, nEs]
    simp only [cntS_app]; omega
theorem lowHd_cnt (ds : List DeclL) : ∀ (es : List ExprL) (env : List Int) (n : Nat), cntRR (rowsS (lowHd ds es env n).1) ≤ 5 * nEs es
  | [], env, n => by simp [lowHd, rowsS, cntRR]
  | e :: es, env, n => by
    have h1 := lowE_cnt ds e env n
    rw [lowHd, nEs]; omega
theorem lowChoice_cnt (ds : List DeclL) (op num : Int) : ∀ (es : List ExprL) (env : List Int) (n : Nat), cntRR (rowsS (lowChoice ds op num es env n).1) ≤ 5 * nEs es + 2
  | [], env, n => by simp [lowChoice, rowsS, cntRR]
  | e :: es, env, n => by
    have h1 := lowE_cnt ds e env n
    have h2 := lowK_cnt ds es (if op = 8 then armsL ds num else [[], []]) env (n + (lowE ds e env n).1.length)
    have h3 := cnt_intsL [(lowE ds e env n).2]
    rw [lowChoice, nEs]
    simp only [cntS_app, rowsS, rowS, cntRR, cntR, cntD, h3, List.length_singleton]; omega
theorem lowK_cnt (ds : List DeclL) : ∀ (es : List ExprL) (fs : List (List Int)) (env : List Int) (n : Nat), cntRR (rowsB (lowK ds es fs env n)) ≤ 5 * nEs es
  | [], fs, env, n => by simp [lowK, rowsB, cntRR]
  | e :: es, fs, env, n => by
    have h1 := lowE_cnt ds e (env ++ numsL n (fs.headD []).length) (n + (fs.headD []).length)
    have h2 := lowK_cnt ds es fs.tail env n
    rw [lowK, nEs]
    simp only [rowsB, rowB, cntRR, cntR, cntD]; omega
end

/-! ### Kids of what has a type -/
section
variable {ds : List DeclL} {sg : List SigL} {num : Int} {ks : List ExprL} {vars : List Int}
theorem ty_var (h : 0 ≤ tyE ds sg vars (.mk 12 num ks)) : 0 ≤ num ∧ num < (vars.length : Int) := by
  rw [tyE, if_pos rfl] at h
  split at h
  · next h1 => exact h1.2
  · omega
theorem ty_let (h : 0 ≤ tyE ds sg vars (.mk 13 num ks)) : ks.length = 2 ∧ 0 ≤ tyE ds sg vars (eAt ks 0) ∧ 0 ≤ tyE ds sg (vars ++ [tyE ds sg vars (eAt ks 0)]) (eAt ks 1) := by
  rw [tyE, if_neg (by decide), if_pos rfl] at h
  split at h
  · next h1 =>
    rw [tyLet_at ds sg vars h1.2] at h
    split at h
    · next h0 => exact ⟨h1.2, h0, h⟩
    · omega
  · omega
theorem ty_choice {op : Int} (ho : op = 7 ∨ op = 8) (h : 0 ≤ tyE ds sg vars (.mk op num ks)) : ks.length = 1 + (kidsF ds op num).length ∧ 0 ≤ tyE ds sg vars (eAt ks 0) ∧ ∀ j, j + 1 < ks.length → 0 ≤ tyE ds sg (vars ++ cAt (kidsF ds op num) j) (eAt ks (j + 1)) := by
  rw [tyE, if_neg (by omega), if_neg (by omega)] at h
  rcases ho with rfl | rfl
  · rw [if_pos rfl] at h
    split at h
    · next h1 =>
      have h2 := h1.2.2
      rw [tyHd_at ds sg vars (by omega)] at h2
      refine ⟨by simp [kidsF, h1.2.1], by omega, fun j hj => ?_⟩
      have h5 := oneT_all h (i := j) (by rw [tyTl_len]; omega)
      rw [tyTl_at ds sg vars (by omega)] at h5
      simpa [kidsF] using h5
    · omega
  · rw [if_neg (by decide), if_pos rfl] at h
    split at h
    · next h1 =>
      have h2 := h1.2.2
      rw [tyHd_at ds sg vars (by omega)] at h2
      refine ⟨by simp [kidsF, h1.2.1], ?_, fun j hj => ?_⟩
      · rw [h2]
        refine Decidable.byContradiction fun hn => ?_
        have := h1.1
        rw [armsL, List.length_map, consL, if_neg (by omega)] at this
        simp at this
      · have h5 := oneT_all h (i := j) (by rw [tyTl_len]; omega)
        rw [tyTl_at ds sg vars (by omega)] at h5
        simpa [kidsF] using h5
    · omega
theorem ty_other {op : Int} (hok : sigsOk ds sg = true) (h1 : op ≠ 12) (h2 : op ≠ 13) (h7 : op ≠ 7) (h8 : op ≠ 8) (h : 0 ≤ tyE ds sg vars (.mk op num ks)) : ∀ j, j < ks.length → 0 ≤ tyE ds sg vars (eAt ks j) := by
  rw [tyE, if_neg h1, if_neg h2, if_neg h7, if_neg h8] at h
  intro j hj
  have h5 := (simple_kids hok h).2 j (by rw [tyEs_len]; exact hj)
  rwa [tyEs_at ds sg vars hj] at h5
theorem kidsF_le (hok : sigsOk ds sg = true) (op num : Int) (j : Nat) : (cAt (kidsF ds op num) j).length ≤ 3 := by
  unfold kidsF
  split
  · by_cases hj : j < (armsL ds num).length
    · rw [cAt_get hj]
      obtain ⟨c, _, hc⟩ := List.mem_map.1 (List.getElem_mem hj)
      rw [← hc]
      exact (conFieldsL_ok (sigsOk_parts hok).1 c).1
    · rw [cAt, List.getD, List.getElem?_eq_none (by omega)]; simp
  · rcases j with _ | _ | j <;> simp [cAt]
end
/-! ### Programs -/
/-- The normal form of a function. -/
def nrmF (ds : List DeclL) (f : FuncL) : RoutL := ⟨f.params, [], f.result, .mk (lowE ds f.body (numsL 0 f.params.length) f.params.length).1 (lowE ds f.body (numsL 0 f.params.length) f.params.length).2⟩
theorem nrmF_row (ds : List DeclL) (f : FuncL) : rowR (nrmF ds f) = [encInts f.params, encInts [], .num f.result, encSteps (lowE ds f.body (numsL 0 f.params.length) f.params.length).1, .num (lowE ds f.body (numsL 0 f.params.length) f.params.length).2] := rfl
theorem cnt_nrm (ds : List DeclL) (fs : List FuncL) (h : ∀ i, i < fs.length → (fAt fs i).params.length ≤ 3 ∧ nE (fAt fs i).body ≤ 30) : cntD (encRouts (fs.map (nrmF ds))) ≤ 200 * fs.length := by
  rw [encRouts, cntD, List.map_map]
  induction fs with
  | nil => simp [cntRR]
  | cons f fs ih =>
    have h0 := h 0 (by simp)
    have h1 : fAt (f :: fs) 0 = f := by simp [fAt]
    rw [h1] at h0
    have ih := ih (fun i hi => by have := h (i + 1) (by simpa using hi); simpa [fAt] using this)
    have h2 := lowE_cnt ds f.body (numsL 0 f.params.length) f.params.length
    have h3 := cnt_intsL f.params
    have h4 := cnt_intsL []
    simp only [List.map_cons, Function.comp, cntRR, List.length_cons]
    have h5 : cntR (rowR (nrmF ds f)) ≤ 200 := by
      rw [nrmF_row]
      simp only [cntR, cntD, encSteps, h3, h4]
      simp only [List.length_nil]
      omega
    omega
end Go.Proofs.YtkapldpmjkdmcaaGreat
/- append as one step of a region that draws; rows of the call's own that grow by one element. -/
namespace Go.Proofs.YtkapldpmjkdmcaaGreat
open Go.RowKit

theorem step_app {P : Program} {ops : Array Oper} {o : Oper} {a : Act} {w : World} {K : Act → World → Prop} {Q : Exit → Act → World → Prop} {E : Prop} (hgd : o.guard = none) (s x : Operand) (t : TypeId)
    (ho : o.op = .call { callee := .builtin .append, args := #[s, x], argTypes := #[t, t] })
    (base : Nat) (e : TypeId) (z : Value) (size bytes : Nat) (ht : P.underlying t = some (.slice e)) (hinfo : (P.info? e).map (fun i => (i.zero, i.size, i.bytes)) = some (some z, size, bytes))
    (hzs : z.cells.size = size) (hsz : 0 < size)
    (v : Value) (n : Nat) (xs : List Value) (hs : a.eval s = v) (hown : w.ownsRow base e size v n xs)
    (A : Option Addr) (m c : Nat) (news : List Value) (hx : a.eval x = .slice A m c) (hr : HoldsC w size A m news) (h1 : ∀ u ∈ news, u.oneCell' = true)
    (hbytes : (n + m) * bytes ≤ 140737488355328) (h63 : n + m ≤ 9223372036854775807) (hbase : base ≤ w.heap.size)
    (h : ∀ v' w', w'.ownsRow base e size v' (n + m) (xs ++ news) → w.grownBy w' v.ownBlock → (v'.ownBlock = v.ownBlock ∨ v'.ownBlock = some w.heap.size) → K (a.put o.dst v') w') :
    if Region.wanted o (yielded ops a.tmps) = true then Oper.wp P o a w K Q else E := by
  have hw : Region.wanted o (yielded ops a.tmps) = true := by simp [Region.wanted, hgd]
  rw [if_pos hw]
  obtain ⟨i, hi, hzz⟩ := Option.map_eq_some_iff.1 hinfo
  simp only [Prod.mk.injEq] at hzz
  obtain ⟨hz, hsize, hby⟩ := hzz
  obtain ⟨v', w', hrun, h2, h3, h4⟩ := run_append_c (P := P) w base t o.type e i z size bytes ht hi hz hsize hby hzs hsz v n xs hown A m c news hr h1 (by simp only [maxLen]; omega) hbytes hbase
  unfold Oper.wp
  simp [execOp, ho, resolve, invoke, builtin, hs, hx, hrun, Result.andThen]
  exact h v' w' h2 h3 h4
/-- The cells of a row that is owned are what they are. -/
theorem ownsRow_same {w : World} {base : Nat} {e : TypeId} {size : Nat} {v : Value} {n : Nat} {xs xs' : List Value} (h1 : w.ownsRow base e size v n xs) (hxs' : w.ownsRow base e size v n xs') : xs' = xs := by
  rcases hxs'.2 with ⟨e1, e2⟩ | ⟨g, cap, cur, e1, _, hg, _, _, _, htake⟩
  · have l1 := hxs'.1
    have l2 := h1.1
    rw [e2, Nat.zero_mul] at l1 l2
    rw [List.eq_nil_of_length_eq_zero l1, List.eq_nil_of_length_eq_zero l2]
  · rcases h1.2 with ⟨f1, f2⟩ | ⟨g', cap', cur', f1, _, hg', _, _, _, htake'⟩
    · have l1 := hxs'.1
      have l2 := h1.1
      rw [f2, Nat.zero_mul] at l1 l2
      rw [List.eq_nil_of_length_eq_zero l1, List.eq_nil_of_length_eq_zero l2]
    · rw [e1] at f1
      injection f1 with f1
      injection f1 with f1
      injection f1 with f1
      subst f1
      rw [hg] at hg'
      injection hg' with hg'
      injection hg' with hg'
      rw [← htake, ← htake', hg']

theorem Acc.bound {w : World} {base : Nat} {D : Nat → Prop} {T : TypeId} {s : Nat} {v : Value} {rows : List (List Dat)} (h : Acc w base D T s v rows) : ∀ k, v.ownBlock = some k → base ≤ k ∧ k < w.heap.size := by
  obtain ⟨xs, E, h1, _⟩ := h
  exact h1.lt
end Go.Proofs.YtkapldpmjkdmcaaGreat
/- append of one element of the call's own, told by what the element holds: as a step of a region that draws, and plain. -/
namespace Go.Proofs.YtkapldpmjkdmcaaGreat
open Go.RowKit

theorem Acc.lt {w : World} {base : Nat} {D : Nat → Prop} {T : TypeId} {s : Nat} {v : Value} {rows : List (List Dat)} (h : Acc w base D T s v rows) : Acc w base (fun k => D k ∧ k < w.heap.size) T s v rows := by
  obtain ⟨xs, E, h1, h2, h3, h4, h5⟩ := h
  exact ⟨xs, E, h1, h2, fun i j k hi hj hk => ⟨⟨(h3 i j k hi hj hk).1, (h3 i j k hi hj hk).2.1⟩, (h3 i j k hi hj hk).2⟩, h4, h5⟩

/-- The cells of a value list that has just been laid. -/
theorem cells_lit (w : World) (us : List Value) (T : TypeId) : ∀ (j : Nat) (u : Value), us[j]? = some u → (w.alloc (.cells us.toArray T)).cell? ⟨w.heap.size, j, none⟩ = some u := by
  intro j u hj
  rw [boxk (Ext.refl _ _) j]
  simpa using hj
theorem ToS.cons {lo m hi : Nat} {w : World} {d : Dat} {ds2 : List Dat} {u : Value} {us2 : List Value} (h : ToS lo m w [d] [u]) (h2 : ToS m hi w ds2 us2) (hlo : lo ≤ m) (hhi : m ≤ hi) : ToS lo hi w (d :: ds2) (u :: us2) := h.app h2 hlo hhi
theorem ToS.consI {lo hi : Nat} {w : World} {z : Int} {ds2 : List Dat} {us2 : List Value} (h2 : ToS lo hi w ds2 us2) (hhi : lo ≤ hi) : ToS lo hi w (.num z :: ds2) (.int .i64 z :: us2) := (ToS.int lo lo w z).app h2 (Nat.le_refl _) hhi
/-- What a slice of the call's own holds, between two worlds. -/
theorem ToS.one {lo hi : Nat} {w : World} {D : Nat → Prop} {d : Dat} {u : Value} (h : Own w D d u) (hD : ∀ k, D k → k < w.heap.size → lo ≤ k ∧ k < hi) : ToS lo hi w [d] [u] := by
  refine ⟨fun i k => i = 0 ∧ lo ≤ k ∧ k < hi, fun i k hk => hk.2, fun i i' k hk hk' => by omega, rfl, fun i hi => ?_⟩
  obtain rfl : i = 0 := by simpa using hi
  exact ⟨u, rfl, h.lt.mono (fun k hk => ⟨rfl, hD k hk.1 hk.2⟩)⟩

end Go.Proofs.YtkapldpmjkdmcaaGreat
/- append of an integer to a row that others still read: what the row held is there again when the longer one is given up. -/
namespace Go.Proofs.YtkapldpmjkdmcaaGreat
open Go.RowKit

/-- v holds xs in a row of its own, from base on. -/
def VR (w : World) (base : Nat) (v : Value) (xs : List Int) : Prop := w.ownsRow base 3 1 v xs.length (xs.map (Value.int .i64))
theorem VR.ext {S : Nat → Prop} {w w' : World} {base : Nat} {v : Value} {xs : List Int} (h : VR w base v xs) (hx : Ext S w w') (hs : ∀ g, v.ownBlock = some g → ¬ S g) : VR w' base v xs := by
  obtain ⟨h1, h2⟩ := h
  refine ⟨h1, ?_⟩
  rcases h2 with h2 | ⟨g, cap, cur, e, hb, hg, rest⟩
  · exact .inl h2
  · exact .inr ⟨g, cap, cur, e, hb, (hx.block g (Array.getElem?_eq_some_iff.1 hg).1 (hs g (by rw [e]; rfl))).trans hg, rest⟩
theorem VR.k {w w' : World} {base : Nat} {v : Value} {xs : List Int} (h : VR w base v xs) (hx : Keep w w') : VR w' base v xs := h.ext hx (fun _ _ h => h)
theorem VR.lt {w : World} {base : Nat} {v : Value} {xs : List Int} (h : VR w base v xs) : ∀ k, v.ownBlock = some k → base ≤ k ∧ k < w.heap.size := World.ownsRow.lt h
theorem VR.slice {w : World} {base : Nat} {v : Value} {xs : List Int} (h : VR w base v xs) : ∃ a c, v = .slice a xs.length c ∧ xs.length ≤ c ∧ OwnInts w (fun k => v.ownBlock = some k) a xs.length xs := by
  have h0 := h
  obtain ⟨h1, h2⟩ := h
  obtain ⟨a, c, e, hc, ho⟩ := own_of_row h0
  refine ⟨a, c, e, hc, ho.1, fun hn => ?_⟩
  obtain ⟨b, N, f, ea, hd, q1, q2, q3⟩ := ho.2 hn
  exact ⟨b, N, f, ea, by rw [e, ea]; rfl, q1, q2, q3⟩

/-- What an append of y to v leaves. -/
structure AppV (w : World) (base : Nat) (v : Value) (xs : List Int) (y : Int) (v' : Value) (w' : World) : Prop where
  row : VR w' base v' (xs ++ [y])
  ext : Ext (fun r => v.ownBlock = some r) w w'
  old : VR w' base v xs
  back : ∀ w'', Ext (fun r => v'.ownBlock = some r) w' w'' → VR w'' base v' (xs ++ [y]) → VR w'' base v xs
  blk : ∀ r, v'.ownBlock = some r → v.ownBlock = some r ∨ w.heap.size ≤ r

theorem run_appV (w : World) (ty : TypeId) (base : Nat) (v : Value) (xs : List Int) (hown : VR w base v xs) (g c : Nat) (y : Int) (hc : w.cell? ⟨g, 0, none⟩ = some (.int .i64 y)) (hn : xs.length ≤ 4000000) (hbase : base ≤ w.heap.size) :
    ∃ v' w', (Builtin.append_ #[52, 52] ty #[v, .slice (some ⟨g, 0, none⟩) 1 c]).run Tryz.prog w = .ok v' w' ∧ AppV w base v xs y v' w' := by
  obtain ⟨i, hi, hzz⟩ := Option.map_eq_some_iff.1 (show (Tryz.prog.info? 3).map (fun i => (i.zero, i.size, i.bytes)) = some (some (.int .i64 0), 1, 8) by kernel_rfl)
  simp only [Prod.mk.injEq] at hzz
  obtain ⟨hz, hsize, hby⟩ := hzz
  have hnews : ∀ (j : Nat) (u : Value), [Value.int .i64 y][j]? = some u → w.cell? ((⟨g, 0, none⟩ : Addr).add j) = some u := by
    intro j u hj
    rcases j with _ | j
    · simp at hj; subst hj; simpa [Addr.add] using hc
    · simp at hj
  have hone : ∀ u ∈ [Value.int .i64 y], u.oneCell' = true := by simp [Value.oneCell']
  rcases hown.2 with ⟨rfl, h0⟩ | ⟨gg, cap, cur, rfl, hb, hg, hnc, hcm, hsz, htake⟩
  · have hx : xs = [] := List.eq_nil_of_length_eq_zero h0
    subst hx
    obtain ⟨v', w', hrun, h2, h3, h4⟩ := run_append_c (P := Tryz.prog) w base 52 ty 3 i (.int .i64 0) 1 8 Tryz.underlying52 hi hz hsize hby rfl (by omega) (.slice none 0 0) 0 [] (World.ownsRow_nil _ _ _ _) (some ⟨g, 0, none⟩) 1 c [.int .i64 y]
      ⟨rfl, fun _ => ⟨g, 0, rfl, fun j u hj => by rw [Nat.zero_add]; have := hnews j u hj; rwa [Addr.add_lit, Nat.zero_add] at this⟩⟩ hone (by simp [maxLen]) (by omega) hbase
    exact ⟨v', w', hrun, by simpa [VR] using h2, ⟨h3.os, h3.tape, h3.output, h3.size, fun k hk hn => h3.block k hk (fun e => hn e.symm)⟩, World.ownsRow_nil _ _ _ _, fun _ _ _ => World.ownsRow_nil _ _ _ _, fun r hr => by
      rcases h4 with h4 | h4
      · rw [h4] at hr; cases hr
      · rw [h4] at hr; injection hr with hr; right; omega⟩
  · rw [Nat.mul_one] at hsz htake
    by_cases hroom : xs.length + 1 ≤ cap
    · have hrun := run_append_room (P := Tryz.prog) w 52 ty 3 i Tryz.underlying52 hi gg xs.length cap cur hg ⟨g, 0, none⟩ 1 c [.int .i64 y] (by rw [hsize]; rfl) hnews hone hroom (by rw [hsize]; simp; omega)
      rw [hsize, Nat.mul_one] at hrun
      have hlt : gg < w.heap.size := (Array.getElem?_eq_some_iff.1 hg).1
      have hclen : cur.toList.length = cap := by simpa using hsz
      generalize hC : (cur.toList.take xs.length ++ [Value.int .i64 y] ++ cur.toList.drop (xs.length + [Value.int .i64 y].length)).toArray = C at hrun
      have hCs : C.size = cap := by rw [← hC]; simp; omega
      have hCt : C.toList.take (xs.length + 1) = (xs ++ [y]).map (Value.int .i64) := by
        rw [← hC, htake, List.map_append]
        rw [List.take_append_of_le_length (by simp)]
        rw [List.take_of_length_le (by simp)]
        rfl
      have hX : Ext (fun r => r = gg) w (w.setRow gg C) := ⟨rfl, rfl, rfl, by simp [World.setRow], fun k hk hne => setRow_other w gg k C (fun e => hne e)⟩
      have hg2 : (w.setRow gg C).heap[gg]? = some (.cells C 3 (0, 0)) := by simp [World.setRow, Array.getElem?_modify, hg]
      refine ⟨_, _, hrun, ⟨by simp, .inr ⟨gg, cap, C, by simp, hb, hg2, by simpa using hroom, hcm, by omega, by rw [Nat.mul_one]; simpa using hCt⟩⟩, hX.mono (fun r _ hr => by rw [hr]; rfl), ?_, ?_, fun r hr => .inl hr⟩
      · refine ⟨by simp, .inr ⟨gg, cap, C, rfl, hb, hg2, hnc, hcm, by omega, ?_⟩⟩
        have := congrArg (List.take xs.length) hCt
        rw [List.take_take, Nat.min_eq_left (by omega), List.map_append, List.take_left' (by simp)] at this
        rw [Nat.mul_one]; exact this
      · rintro w'' hx ⟨_, h2⟩
        rcases h2 with ⟨e, _⟩ | ⟨g', cap', cur', e, hb', hg', _, _, hsz', htake'⟩
        · cases e
        · injection e with e1 _ e3
          injection e1 with e1
          injection e1 with e1
          subst e1 e3
          refine ⟨by simp, .inr ⟨gg, cap, cur', rfl, hb, hg', hnc, hcm, hsz', ?_⟩⟩
          have := congrArg (List.take xs.length) htake'
          rw [Nat.mul_one, List.take_take, List.length_append, Nat.min_eq_left (by simp), List.map_append, List.take_left' (by simp)] at this
          rw [Nat.mul_one]; exact this
    · obtain ⟨v', w', hrun, h2, h3⟩ := run_append_arg_grows (P := Tryz.prog) w 52 ty 3 i (.int .i64 0) 1 8 Tryz.underlying52 hi hz hsize hby rfl (by omega) ⟨gg, 0, none⟩ xs.length cap (xs.map (Value.int .i64)) (by simp) (fun j u hj => by
          rw [Addr.add_lit, Nat.zero_add, cell_of_row _ gg j cur 3 (0, 0) hg]
          have hj' : j < xs.length := by
            rcases Nat.lt_or_ge j xs.length with h | h
            · exact h
            · rw [List.getElem?_eq_none (by simpa using h)] at hj; cases hj
          rw [← htake, List.getElem?_take, if_pos hj', Array.getElem?_toList] at hj
          exact hj) ⟨g, 0, none⟩ 1 c [.int .i64 y] rfl hnews (by omega) (by simp [maxLen]; omega) (by omega)
      have hk : Keep w w' := ⟨h3.os, h3.tape, h3.output, h3.size, fun k hk _ => h3.block k hk (by simp)⟩
      have hold : VR w' base (.slice (some ⟨gg, 0, none⟩) xs.length cap) xs := hown.k hk
      have hrow : VR w' w.heap.size v' (xs ++ [y]) := by simpa [VR] using h2
      refine ⟨v', w', hrun, ?_, Keep.to hk, hold, fun w'' hx _ => hold.ext hx (fun q hq hq' => ?_), fun r hr => .inr (hrow.lt r hr).1⟩
      · obtain ⟨q1, q2⟩ := hrow
        refine ⟨q1, ?_⟩
        rcases q2 with q2 | ⟨g', cap', cur', e, hb', rest⟩
        · exact .inl q2
        · exact .inr ⟨g', cap', cur', e, Nat.le_trans hbase hb', rest⟩
      · have h1 := (hown.lt q hq).2
        have h2 := (hrow.lt q hq').1
        omega
/-- The same as one step of a region that draws. -/
theorem step_appV {ops : Array Oper} {o : Oper} {a : Act} {w : World} {K : Act → World → Prop} {Q : Exit → Act → World → Prop} {E : Prop} (hgd : o.guard = none) (s x : Operand)
    (ho : o.op = .call { callee := .builtin .append, args := #[s, x], argTypes := #[52, 52] })
    (base : Nat) (v : Value) (xs : List Int) (hs : a.eval s = v) (hown : VR w base v xs) (g c : Nat) (y : Int) (hx : a.eval x = .slice (some ⟨g, 0, none⟩) 1 c) (hc : w.cell? ⟨g, 0, none⟩ = some (.int .i64 y)) (hn : xs.length ≤ 4000000) (hbase : base ≤ w.heap.size)
    (h : ∀ v' w', AppV w base v xs y v' w' → K (a.put o.dst v') w') :
    if Region.wanted o (yielded ops a.tmps) = true then Oper.wp Tryz.prog o a w K Q else E := by
  have hw : Region.wanted o (yielded ops a.tmps) = true := by simp [Region.wanted, hgd]
  rw [if_pos hw]
  obtain ⟨v', w', hrun, h1⟩ := run_appV w o.type base v xs hown g c y hc hn hbase
  unfold Oper.wp
  simp [execOp, ho, resolve, invoke, builtin, hs, hx, hrun, Result.andThen]
  exact h v' w' h1
end Go.Proofs.YtkapldpmjkdmcaaGreat
/- insert of the reference. -/
namespace Go.Proofs.YtkapldpmjkdmcaaGreat
open Go.RowKit

theorem OwnInts.toOwn {w : World} {D : Nat → Prop} {a : Option Addr} {n c : Nat} {xs : List Int} (h : OwnInts w D a n xs) (hc : n ≤ c) (hm : n ≤ 9223372036854775807) : Own w D (encInts xs) (.slice a n c) := by
  obtain ⟨h1, h2⟩ := h
  subst h1
  rcases Nat.eq_zero_or_pos xs.length with h0 | h0
  · have : xs = [] := List.eq_nil_of_length_eq_zero h0
    subst this
    exact .nil _ 1 a c
  · obtain ⟨b, N, f, rfl, hd, hN, hr, hcell⟩ := h2 h0
    have q := Own.arr (w := w) D (fun _ _ _ => False) 1 (xs.map rowI) b c 3 N f hd (by simpa using h0) (by omega) (by simpa using hc) (by simpa using hm)
      (fun i hi => by rw [ints_row xs i (by simpa using hi)]; rfl) (by simpa using hN) hr (fun _ _ _ _ _ h => h.elim) (fun _ _ _ _ _ _ _ _ _ h => h.elim) (fun i j hi hj => by
        obtain rfl : j = 0 := by omega
        rw [Nat.mul_one, Nat.add_zero, rAt, ints_row xs i (by simpa using hi), hcell i (by simpa using hi)]
        exact .num _ _)
    rw [ints_len] at q
    exact q

end Go.Proofs.YtkapldpmjkdmcaaGreat
/- Lists of steps in the making: the box that holds one, its row, and what a call may change. -/
namespace Go.Proofs.YtkapldpmjkdmcaaGreat
open Go.RowKit

theorem Acc.extO {w w' : World} {base : Nat} {D S : Nat → Prop} {T : TypeId} {s : Nat} {v : Value} {rows : List (List Dat)} (h : Acc w base D T s v rows) (hx : Ext S w w') (hs : ∀ k, k < w.heap.size → D k → ¬ S k) (ho : ∀ k, v.ownBlock = some k → ¬ S k) : Acc w' base D T s v rows := by
  obtain ⟨xs, E, h1, h2, h3, h4, h5⟩ := h
  refine ⟨xs, E, ⟨h1.1, ?_⟩, h2, fun i j k hi hj hk => ⟨(h3 i j k hi hj hk).1, Nat.lt_of_lt_of_le (h3 i j k hi hj hk).2.1 hx.size, (h3 i j k hi hj hk).2.2⟩, h4, fun i j hi hj => ?_⟩
  · rcases h1.2 with h | ⟨g, cap, cur, e, hb, hg, rest⟩
    · exact .inl h
    · have hlt : g < w.heap.size := (Array.getElem?_eq_some_iff.1 hg).1
      exact .inr ⟨g, cap, cur, e, hb, (hx.block g hlt (ho g (by rw [e]; rfl))).trans hg, rest⟩
  · obtain ⟨u, hu, ho'⟩ := h5 i j hi hj
    exact ⟨u, hu, ho'.ext hx (fun k hk => hs k (h3 i j k hi hj hk).2.1 (h3 i j k hi hj hk).1)⟩

/-- A list of steps in the making, whose box q holds the cells cs, and the row v among them. D: the blocks that the steps lead to. -/
structure LowSt (w : World) (base q : Nat) (TT : TypeId) (cs : Array Value) (D : Nat → Prop) (v : Value) (rows : List (List Dat)) : Prop where
  row : w.rowIs q TT cs.size (fun i => cs.getD i undef)
  acc : Acc w base D 136 5 v rows
  nd : ¬ D q
  nv : ∀ k, v.ownBlock = some k → k ≠ q
  lt : ∀ k, D k → k < w.heap.size
  hb : base ≤ w.heap.size
/-- What happened to it. -/
structure LowTo (w w' : World) (q : Nat) (D D' : Nat → Prop) (v v' : Value) : Prop where
  ext : Ext (fun k => k = q ∨ v.ownBlock = some k) w w'
  sub : ∀ k, D' k → D k ∨ w.heap.size ≤ k
  blk : ∀ k, v'.ownBlock = some k → v.ownBlock = some k ∨ w.heap.size ≤ k

section
variable {w w' w'' : World} {base q : Nat} {TT : TypeId} {cs : Array Value} {D D' D'' S : Nat → Prop} {v v' v'' : Value} {rows : List (List Dat)}
theorem LowSt.ext (h : LowSt w base q TT cs D v rows) (hx : Ext S w w') (hq : ¬ S q) (hD : ∀ k, D k → ¬ S k) (hv : ∀ k, v.ownBlock = some k → ¬ S k) : LowSt w' base q TT cs D v rows :=
  ⟨row_ext h.row hx hq, h.acc.extO hx (fun k _ => hD k) hv, h.nd, h.nv, fun k hk => Nat.lt_of_lt_of_le (h.lt k hk) hx.size, Nat.le_trans h.hb hx.size⟩
theorem LowSt.k (h : LowSt w base q TT cs D v rows) (hx : Keep w w') : LowSt w' base q TT cs D v rows := h.ext hx (fun h => h) (fun _ _ h => h) (fun _ _ h => h)
theorem LowSt.own (h : LowSt w base q TT cs D v rows) : ∀ k, v.ownBlock = some k → base ≤ k ∧ k < w.heap.size := h.acc.bound
theorem LowSt.qlt (h : LowSt w base q TT cs D v rows) : q < w.heap.size := h.row.lt
theorem LowTo.refl (w : World) (q : Nat) (D : Nat → Prop) (v : Value) : LowTo w w q D D v v := ⟨Ext.refl _ _, fun _ h => .inl h, fun _ h => .inl h⟩
theorem LowTo.keep (h : Keep w w') : LowTo w w' q D D v v := ⟨Keep.to h, fun _ h => .inl h, fun _ h => .inl h⟩
theorem LowTo.trans (h : LowTo w w' q D D' v v') (k : LowTo w' w'' q D' D'' v' v'') : LowTo w w'' q D D'' v v'' := by
  have hs := h.ext.size
  refine ⟨h.ext.then_ k.ext (fun i hi hk => ?_), fun i hi => ?_, fun i hi => ?_⟩
  · rcases hk with hk | hk
    · exact .inl hk
    · rcases h.blk i hk with e | e
      · exact .inr e
      · omega
  · rcases k.sub i hi with e | e
    · exact h.sub i e
    · exact .inr (by omega)
  · rcases k.blk i hi with e | e
    · exact h.blk i e
    · exact .inr (by omega)
theorem LowTo.post (h : LowTo w w' q D D' v v') (k : Keep w' w'') : LowTo w w'' q D D' v v' := h.trans (LowTo.keep k)
theorem LowTo.pre (k : Keep w w') (h : LowTo w' w'' q D D' v v') : LowTo w w'' q D D' v v' := (LowTo.keep k).trans h
/-- What can be read aside of it stays. -/
theorem Rd.low {d : Dat} {u : Value} {E : Nat → Prop} (h : Rd w E d u) (hE : ∀ k, E k → k ≠ q ∧ v.ownBlock ≠ some k) (hx : LowTo w w' q D D' v v') : Rd w' E d u :=
  h.ext hx.ext (fun k hk hS => by
    rcases hS with hS | hS
    · exact (hE k hk).1 hS
    · exact (hE k hk).2 hS)
theorem aside_low {E : Nat → Prop} (hE : ∀ k, E k → k ≠ q ∧ v.ownBlock ≠ some k) (hl : ∀ k, E k → k < w.heap.size) (hx : LowTo w w' q D D' v v') : ∀ k, E k → k ≠ q ∧ v'.ownBlock ≠ some k := fun k hk =>
  ⟨(hE k hk).1, fun e => by
    rcases hx.blk k e with h | h
    · exact (hE k hk).2 h
    · have := hl k hk; omega⟩
theorem LowTo.cell (hx : LowTo w w' q D D' v v') {p : Addr} {u : Value} (h : w.cell? p = some u) (h1 : p.block ≠ q) (h2 : v.ownBlock ≠ some p.block) : w'.cell? p = some u :=
  (hx.ext.cell (World.block_lt_of_cell? _ _ h) (fun hS => by rcases hS with hS | hS; exact h1 hS; exact h2 hS)).trans h
theorem VR.low {bs : Nat} {u : Value} {xs : List Int} (h : VR w bs u xs) (hE : ∀ k, u.ownBlock = some k → k ≠ q ∧ v.ownBlock ≠ some k) (hx : LowTo w w' q D D' v v') : VR w' bs u xs :=
  h.ext hx.ext (fun k hk hS => by
    rcases hS with hS | hS
    · exact (hE k hk).1 hS
    · exact (hE k hk).2 hS)
theorem Acc.low {bs s : Nat} {T : TypeId} {E : Nat → Prop} {u : Value} {rs : List (List Dat)} (h : Acc w bs E T s u rs) (hE : ∀ k, E k → k ≠ q ∧ v.ownBlock ≠ some k) (hu : ∀ k, u.ownBlock = some k → k ≠ q ∧ v.ownBlock ≠ some k) (hx : LowTo w w' q D D' v v') : Acc w' bs E T s u rs :=
  h.extO hx.ext (fun k _ hk hS => by
    rcases hS with hS | hS
    · exact (hE k hk).1 hS
    · exact (hE k hk).2 hS) (fun k hk hS => by
    rcases hS with hS | hS
    · exact (hu k hk).1 hS
    · exact (hu k hk).2 hS)
/-- Integers in a row of the call's own. -/
theorem VR.owns {bs : Nat} {u : Value} {xs : List Int} (h : VR w bs u xs) (hm : xs.length ≤ 9223372036854775807) : Own w (fun k => u.ownBlock = some k) (encInts xs) u := by
  obtain ⟨a, c, rfl, hc, ho⟩ := h.slice
  exact ho.toOwn hc hm
end
end Go.Proofs.YtkapldpmjkdmcaaGreat
/- Cells that stay. -/
namespace Go.Proofs.YtkapldpmjkdmcaaGreat
open Go.RowKit

theorem Ext.cq {S : Nat → Prop} {w w' : World} (k : Ext S w w') {p : Addr} {v : Value} (h : w.cell? p = some v) (hp : ¬ S p.block) : w'.cell? p = some v := (k.cell (World.block_lt_of_cell? _ _ h) hp).trans h
end Go.Proofs.YtkapldpmjkdmcaaGreat
/- add of both packages: a step more. -/
namespace Go.Proofs.YtkapldpmjkdmcaaGreat
open Go.RowKit

/-- append of one step. -/
theorem step_addS {ops : Array Oper} {o : Oper} {a : Act} {w : World} {K : Act → World → Prop} {Q : Exit → Act → World → Prop} {E : Prop} (hgd : o.guard = none) (s x : Operand)
    (ho : o.op = .call { callee := .builtin .append, args := #[s, x], argTypes := #[67, 67] })
    (base : Nat) (v : Value) (rows : List (List Dat)) (hs : a.eval s = v) {D0 : Nat → Prop} (hacc : Acc w base D0 136 5 v rows)
    (g c : Nat) (op num into : Int) (args : List Int) (kids : List BlockL) (A B : Value) (EA EB : Nat → Prop) (hx : a.eval x = .slice (some ⟨g, 0, none⟩) 1 c) (hcells : ∀ j u, [Value.int .i64 op, .int .i64 num, .int .i64 into, A, B][j]? = some u → w.cell? ⟨g, j, none⟩ = some u)
    (hA : Own w EA (encInts args) A) (hB : Own w EB (encBlocks kids) B) (hE : ∀ k, EA k ∨ EB k → ¬ D0 k ∧ v.ownBlock ≠ some k) (hdis : ∀ k, EA k → ¬ EB k) (hlen : rows.length ≤ 100000) (hbase : base ≤ w.heap.size)
    (h : ∀ a' n' c' w', Acc w' base (fun k => D0 k ∨ (EA k ∨ EB k) ∧ k < w.heap.size) 136 5 (.slice a' n' c') (rows ++ [rowS (.mk op num into args kids)]) → Ext (fun k => v.ownBlock = some k) w w' → w.heap.size ≤ w'.heap.size → (∀ k, (Value.slice a' n' c').ownBlock = some k → v.ownBlock = some k ∨ w.heap.size ≤ k) → K (a.put o.dst (.slice a' n' c')) w') :
    if Region.wanted o (yielded ops a.tmps) = true then Oper.wp Tryz.prog o a w K Q else E := by
  obtain ⟨xs, E', h1, _⟩ := id hacc
  have o1 : A.oneCell' = true := hA.read.one
  have o2 : B.oneCell' = true := hB.read.one
  refine step_app hgd s x 67 ho base 136 (.agg #[.int .i64 0, .int .i64 0, .int .i64 0, .slice none 0 0, .slice none 0 0]) 5 72 Tryz.underlying67 (by kernel_rfl) rfl (by omega) v rows.length xs hs h1 (some ⟨g, 0, none⟩) 1 c [.int .i64 op, .int .i64 num, .int .i64 into, A, B] hx ⟨rfl, fun _ => ⟨g, 0, rfl, fun j u hj => by rw [Nat.zero_add]; exact hcells j u hj⟩⟩
    (by intro u hu; simp at hu; rcases hu with rfl | rfl | rfl | rfl | rfl <;> first | rfl | assumption) (by omega) (by omega) hbase (fun v' w' q1 q2 q3 => ?_)
  have hfin : Acc w' base (fun k => D0 k ∨ (EA k ∨ EB k) ∧ k < w.heap.size) 136 5 v' (rows ++ [rowS (.mk op num into args kids)]) := ?_
  · obtain ⟨a', c', rfl, _, _⟩ := hfin.own (by omega) (by simp; omega)
    exact h _ _ _ w' hfin ⟨q2.os, q2.tape, q2.output, q2.size, fun k hk hn => q2.block k hk (fun e => hn e.symm)⟩ q2.size (fun k hk => by
      rcases q3 with e | e
      · rw [e] at hk; exact .inl hk
      · rw [e] at hk; injection hk with hk; exact .inr (by omega))
  refine hacc.push (r := rowS (.mk op num into args kids)) (news := [.int .i64 op, .int .i64 num, .int .i64 into, A, B]) (D2 := fun j k => (j = 3 ∧ EA k ∨ j = 4 ∧ EB k) ∧ k < w.heap.size) rfl rfl (fun j u hj => ?_) (fun j k hj hk => ?_) (fun j j' k _ _ h1 h2 => ?_) (fun k hk => .inl hk) (fun xs' hxs' => ?_) q2 q3
  · rcases (show j = 0 ∨ j = 1 ∨ j = 2 ∨ j = 3 ∨ j = 4 by have := (List.getElem?_eq_some_iff.1 hj).1; simp at this; omega) with rfl | rfl | rfl | rfl | rfl
    · simp at hj; subst hj; exact .num _ op
    · simp at hj; subst hj; exact .num _ num
    · simp at hj; subst hj; exact .num _ into
    · simp at hj; subst hj; exact hA.lt.mono (fun k hk => ⟨.inl ⟨rfl, hk.1⟩, hk.2⟩)
    · simp at hj; subst hj; exact hB.lt.mono (fun k hk => ⟨.inr ⟨rfl, hk.1⟩, hk.2⟩)
  · have h5 : EA k ∨ EB k := by rcases hk.1 with h | h; exact .inl h.2; exact .inr h.2
    exact ⟨.inr ⟨h5, hk.2⟩, (hE k h5).1, (hE k h5).2, hk.2⟩
  · rcases h1.1 with h1 | h1 <;> rcases h2.1 with h2 | h2
    · omega
    · exact absurd h2.2 (hdis k h1.2)
    · exact absurd h1.2 (hdis k h2.2)
    · omega
  · rw [ownsRow_same h1 hxs']
    exact q1

/-- The same list behind an append to its row. -/
theorem LowSt.upd {w w2 : World} {base q : Nat} {TT : TypeId} {cs : Array Value} {D D' : Nat → Prop} {v v' : Value} {rows rows' : List (List Dat)} (h : LowSt w base q TT cs D v rows) (hx : Ext (fun k => v.ownBlock = some k) w w2)
    (hA : Acc w2 base D' 136 5 v' rows') (hnd : ¬ D' q) (hnv : ∀ k, v'.ownBlock = some k → k ≠ q) (hlt : ∀ k, D' k → k < w2.heap.size) : LowSt w2 base q TT cs D' v' rows' :=
  ⟨row_ext h.row hx (fun e => h.nv q e rfl), hA, hnd, hnv, hlt, Nat.le_trans h.hb hx.size⟩
theorem LowSt.added {w w2 : World} {base q : Nat} {TT : TypeId} {cs : Array Value} {D EA EB : Nat → Prop} {v v' : Value} {rows rows' : List (List Dat)} (h : LowSt w base q TT cs D v rows) (hx : Ext (fun k => v.ownBlock = some k) w w2)
    (hA : Acc w2 base (fun k => D k ∨ (EA k ∨ EB k) ∧ k < w.heap.size) 136 5 v' rows') (hE : ∀ k, EA k ∨ EB k → k ≠ q) (hb : ∀ k, v'.ownBlock = some k → v.ownBlock = some k ∨ w.heap.size ≤ k) :
    LowSt w2 base q TT cs (fun k => D k ∨ (EA k ∨ EB k) ∧ k < w.heap.size) v' rows' := by
  have hs := hx.size
  refine h.upd hx hA (fun hk => ?_) (fun k hk e => ?_) (fun k hk => ?_)
  · rcases hk with hk | hk
    · exact h.nd hk
    · exact hE q hk.1 rfl
  · rcases hb k hk with h1 | h1
    · exact h.nv k h1 e
    · have := h.qlt; omega
  · rcases hk with hk | hk
    · have := h.lt k hk; omega
    · omega
/-- Behind a store into its box. -/
theorem LowSt.put {w : World} {base q : Nat} {TT : TypeId} {cs cs' : Array Value} {D : Nat → Prop} {v : Value} {rows : List (List Dat)} (h : LowSt w base q TT cs D v rows) (i : Nat) (u : Value) (hs : cs'.size = cs.size) (hc : ∀ j, j < cs.size → cs'.getD j undef = if j = i then u else cs.getD j undef) : LowSt (w.setCell ⟨q, i, none⟩ u) base q TT cs' D v rows := by
  have X := (Ext.refl (fun k => k = q) w).setCell (p := ⟨q, i, none⟩) (.inr rfl) u
  have hr := h.row.set i u
  refine ⟨?_, h.acc.extO X (fun k _ hk e => h.nd (e ▸ hk)) (fun k hk e => h.nv k hk e), h.nd, h.nv, fun k hk => Nat.lt_of_lt_of_le (h.lt k hk) X.size, Nat.le_trans h.hb X.size⟩
  rw [hs]
  exact hr.congr (fun j hj => (hc j hj).symm)

set_option maxRecDepth 100000 in
set_option maxHeartbeats 2000000 in
theorem specAdd (base q : Nat) (v : Value) (N : Int) (D : Nat → Prop) (rows : List (List Dat)) (op num into : Int) (args : List Int) (kids : List BlockL) (aa : Option Addr) (na ca : Nat) (ab : Option Addr) (nb cb : Nat) (EA EB : Nat → Prop) (w : World)
    (h : LowSt w base q 196 #[v, .int .i64 N] D v rows) (hA : Own w EA (encInts args) (.slice aa na ca)) (hB : Own w EB (encBlocks kids) (.slice ab nb cb)) (hE : ∀ k, EA k ∨ EB k → ¬ D k ∧ k ≠ q ∧ v.ownBlock ≠ some k) (hdis : ∀ k, EA k → ¬ EB k) (hlen : rows.length ≤ 100000) (hN0 : 0 ≤ N) (hN1 : N ≤ 100000) :
    Calls Tryz.prog 199 #[.pointer (some ⟨q, 0, none⟩), .agg #[.int .i64 op, .int .i64 num, .int .i64 into, .slice aa na ca, .slice ab nb cb]] w fun e w' => e = .returned (.int .i64 N) ∧ ∃ v' D', LowSt w' base q 196 #[v', .int .i64 (N + 1)] D' v' (rows ++ [rowS (.mk op num into args kids)]) ∧ (∀ k, D' k → D k ∨ EA k ∨ EB k) ∧
      Ext (fun k => k = q ∨ v.ownBlock = some k) w w' ∧ ∀ k, v'.ownBlock = some k → v.ownBlock = some k ∨ w.heap.size ≤ k := by
  refine calls_k fun Q hQ => ?_
  have K0 := Keep.al w (.cells #[.int .i64 op, .int .i64 num, .int .i64 into, .slice aa na ca, .slice ab nb cb] 136)
  have hL := h.k K0
  have z0 : (w.alloc (.cells #[.int .i64 op, .int .i64 num, .int .i64 into, .slice aa na ca, .slice ab nb cb] 136)).cell? ⟨w.heap.size, 0, none⟩ = some (.int .i64 op) := by simp
  have z1 : (w.alloc (.cells #[.int .i64 op, .int .i64 num, .int .i64 into, .slice aa na ca, .slice ab nb cb] 136)).cell? ⟨w.heap.size, 1, none⟩ = some (.int .i64 num) := by simp
  have z2 : (w.alloc (.cells #[.int .i64 op, .int .i64 num, .int .i64 into, .slice aa na ca, .slice ab nb cb] 136)).cell? ⟨w.heap.size, 2, none⟩ = some (.int .i64 into) := by simp
  have z3 : (w.alloc (.cells #[.int .i64 op, .int .i64 num, .int .i64 into, .slice aa na ca, .slice ab nb cb] 136)).cell? ⟨w.heap.size, 3, none⟩ = some (.slice aa na ca) := by simp
  have z4 : (w.alloc (.cells #[.int .i64 op, .int .i64 num, .int .i64 into, .slice aa na ca, .slice ab nb cb] 136)).cell? ⟨w.heap.size, 4, none⟩ = some (.slice ab nb cb) := by simp
  have qA := (hA.lt).ext K0 (fun _ _ h => h)
  have qB := (hB.lt).ext K0 (fun _ _ h => h)
  have sW : (w.alloc (.cells #[.int .i64 op, .int .i64 num, .int .i64 into, .slice aa na ca, .slice ab nb cb] 136)).heap.size = w.heap.size + 1 := by simp
  have hql := h.qlt
  have hown := Lib.hid h.own
  have hE2 := Lib.hid hE
  have hdis2 := Lib.hid hdis
  go_enter Tryz.func199, Tryz.ntmps199
  go_upto_region 1 with fail
  generalize w.alloc (.cells #[.int .i64 op, .int .i64 num, .int .i64 into, .slice aa na ca, .slice ab nb cb] 136) = W at *
  have hLD := hL.k (w' := W.drew) (Ext.refl (fun _ => False) W).drew
  have qA := qA.ext (w' := W.drew) (Ext.refl (fun _ => False) W).drew (fun _ _ h => h)
  have qB := qB.ext (w' := W.drew) (Ext.refl (fun _ => False) W).drew (fun _ _ h => h)
  obtain ⟨hR, hAcc, hnd, hnv, hlt, hb⟩ := hL
  have x0 : W.cell? ⟨q, 0, none⟩ = some (v) := hR.cell (i := 0) (by simp)
  have f0 := hR.frozen 0
  have x1 : W.cell? ⟨q, 1, none⟩ = some (.int .i64 N) := hR.cell (i := 1) (by simp)
  have f1 := hR.frozen 1
  have ko := Lib.hid K0
  have SW := Lib.hid sW
  have NE : Hid (q ≠ w.heap.size) := (by show _ ≠ _; omega)
  have LD := Lib.hid hLD
  have QA := Lib.hid qA
  have QB := Lib.hid qB
  have XL : Hid (¬ q = W.heap.size) := (by show ¬ _; omega)
  have b0 : (W.alloc (.cells #[.int .i64 op, .int .i64 num, .int .i64 into, .slice aa na ca, .slice ab nb cb] 136)).cell? ⟨q, 0, none⟩ = some v := (Keep.al W _).cq x0 (fun h => h)
  clear hR hAcc hLD qA qB hA hB h hE hdis K0 hlt hnv hnd sW
  go_region_law (first
    | (refine step_addS (by rfl) (.tmp 9) (.tmp 11) (by rfl) base v rows (by rfl) (LD.out.k (Keep.al _ _)).acc W.heap.size 1 op num into args kids (.slice aa na ca) (.slice ab nb cb) (fun k => EA k ∧ k < w.heap.size) (fun k => EB k ∧ k < w.heap.size) (by rfl) (cells_lit W.drew _ _) (QA.out.ext (Keep.al _ _) (fun _ _ h => h)) (QB.out.ext (Keep.al _ _) (fun _ _ h => h)) (fun k hk => by have h1 := hE2.out k (by rcases hk with hk | hk; exact .inl hk.1; exact .inr hk.1); exact ⟨h1.1, h1.2.2⟩) (fun k h1 h2 => hdis2.out k h1.1 h2.1) hlen (by simp; have := SW.out; omega) ?_; intro a' n' c' w2 hA2 x2 s2 b2; have A2 := Lib.hid hA2; have X2 := Lib.hid x2; have B2 := Lib.hid b2; have L1 := Lib.hid ((LD.out.k (Keep.al W.drew (.cells #[.int .i64 op, .int .i64 num, .int .i64 into, .slice aa na ca, .slice ab nb cb] 136))).added X2.out A2.out (fun k hk => by rcases hk with hk | hk; exact (hE2.out k (.inl hk.1)).2.1; exact (hE2.out k (.inr hk.1)).2.1) B2.out); have y0 : w2.cell? ⟨q, 0, none⟩ = some (v) := (L1.out.row.cell (i := 0) (by simp)); have g0 := L1.out.row.frozen 0; have y1 : w2.cell? ⟨q, 1, none⟩ = some (.int .i64 N) := (L1.out.row.cell (i := 1) (by simp)); have g1 := L1.out.row.frozen 1; clear hA2 x2 b2)
    | fail)
  all_goals
    go_wp2
    have L2 := (L1.out.put (cs' := #[(.slice a' n' c'), .int .i64 N]) 0 (.slice a' n' c') rfl (fun j hj => by rcases (show j = 0 ∨ j = 1 by simp at hj; omega) with rfl | rfl <;> rfl)).put (cs' := #[(.slice a' n' c'), .int .i64 (N + 1)]) 1 (.int .i64 (N + 1)) rfl (fun j hj => by rcases (show j = 0 ∨ j = 1 by simp at hj; omega) with rfl | rfl <;> rfl)
    have XF := ((((Keep.to (ko.out.alloc _).drew : Ext (fun k => k = q ∨ v.ownBlock = some k) w _).trans (X2.out.mono (fun k _ h => .inr h))).setCell (p := ⟨q, 0, none⟩) (.inr (.inl rfl)) (.slice a' n' c')).setCell (p := ⟨q, 1, none⟩) (.inr (.inl rfl)) (.int .i64 (N + 1)))
    exact fin_ hQ ⟨rfl, _, _, L2, (fun k hk => by
      rcases hk with hk | hk
      · exact .inl hk
      · exact .inr (hk.1.imp (fun h => h.1) (fun h => h.1))), XF, (fun k hk => (B2.out k hk).imp id (fun h => by have := SW.out; simp at h; omega))⟩

set_option maxRecDepth 100000 in
set_option maxHeartbeats 2000000 in
theorem implAdd (base q : Nat) (dv : Value) (v : Value) (N : Int) (D : Nat → Prop) (rows : List (List Dat)) (op num into : Int) (args : List Int) (kids : List BlockL) (aa : Option Addr) (na ca : Nat) (ab : Option Addr) (nb cb : Nat) (EA EB : Nat → Prop) (w : World)
    (h : LowSt w base q 91 #[dv, .int .i64 N, v] D v rows) (hA : Own w EA (encInts args) (.slice aa na ca)) (hB : Own w EB (encBlocks kids) (.slice ab nb cb)) (hE : ∀ k, EA k ∨ EB k → ¬ D k ∧ k ≠ q ∧ v.ownBlock ≠ some k) (hdis : ∀ k, EA k → ¬ EB k) (hlen : rows.length ≤ 100000) (hN0 : 0 ≤ N) (hN1 : N ≤ 100000) :
    Calls Tryz.prog 109 #[.pointer (some ⟨q, 0, none⟩), .agg #[.int .i64 op, .int .i64 num, .int .i64 into, .slice aa na ca, .slice ab nb cb]] w fun e w' => e = .returned (.int .i64 N) ∧ ∃ v' D', LowSt w' base q 91 #[dv, .int .i64 (N + 1), v'] D' v' (rows ++ [rowS (.mk op num into args kids)]) ∧ (∀ k, D' k → D k ∨ EA k ∨ EB k) ∧
      Ext (fun k => k = q ∨ v.ownBlock = some k) w w' ∧ ∀ k, v'.ownBlock = some k → v.ownBlock = some k ∨ w.heap.size ≤ k := by
  refine calls_k fun Q hQ => ?_
  have K0 := Keep.al w (.cells #[.int .i64 op, .int .i64 num, .int .i64 into, .slice aa na ca, .slice ab nb cb] 136)
  have hL := h.k K0
  have z0 : (w.alloc (.cells #[.int .i64 op, .int .i64 num, .int .i64 into, .slice aa na ca, .slice ab nb cb] 136)).cell? ⟨w.heap.size, 0, none⟩ = some (.int .i64 op) := by simp
  have z1 : (w.alloc (.cells #[.int .i64 op, .int .i64 num, .int .i64 into, .slice aa na ca, .slice ab nb cb] 136)).cell? ⟨w.heap.size, 1, none⟩ = some (.int .i64 num) := by simp
  have z2 : (w.alloc (.cells #[.int .i64 op, .int .i64 num, .int .i64 into, .slice aa na ca, .slice ab nb cb] 136)).cell? ⟨w.heap.size, 2, none⟩ = some (.int .i64 into) := by simp
  have z3 : (w.alloc (.cells #[.int .i64 op, .int .i64 num, .int .i64 into, .slice aa na ca, .slice ab nb cb] 136)).cell? ⟨w.heap.size, 3, none⟩ = some (.slice aa na ca) := by simp
  have z4 : (w.alloc (.cells #[.int .i64 op, .int .i64 num, .int .i64 into, .slice aa na ca, .slice ab nb cb] 136)).cell? ⟨w.heap.size, 4, none⟩ = some (.slice ab nb cb) := by simp
  have qA := (hA.lt).ext K0 (fun _ _ h => h)
  have qB := (hB.lt).ext K0 (fun _ _ h => h)
  have sW : (w.alloc (.cells #[.int .i64 op, .int .i64 num, .int .i64 into, .slice aa na ca, .slice ab nb cb] 136)).heap.size = w.heap.size + 1 := by simp
  have hql := h.qlt
  have hown := Lib.hid h.own
  have hE2 := Lib.hid hE
  have hdis2 := Lib.hid hdis
  go_enter Tryz.func109, Tryz.ntmps109
  go_upto_region 1 with fail
  generalize w.alloc (.cells #[.int .i64 op, .int .i64 num, .int .i64 into, .slice aa na ca, .slice ab nb cb] 136) = W at *
  have hLD := hL.k (w' := W.drew) (Ext.refl (fun _ => False) W).drew
  have qA := qA.ext (w' := W.drew) (Ext.refl (fun _ => False) W).drew (fun _ _ h => h)
  have qB := qB.ext (w' := W.drew) (Ext.refl (fun _ => False) W).drew (fun _ _ h => h)
  obtain ⟨hR, hAcc, hnd, hnv, hlt, hb⟩ := hL
  have x0 : W.cell? ⟨q, 0, none⟩ = some (dv) := hR.cell (i := 0) (by simp)
  have f0 := hR.frozen 0
  have x1 : W.cell? ⟨q, 1, none⟩ = some (.int .i64 N) := hR.cell (i := 1) (by simp)
  have f1 := hR.frozen 1
  have x2 : W.cell? ⟨q, 2, none⟩ = some (v) := hR.cell (i := 2) (by simp)
  have f2 := hR.frozen 2
  have ko := Lib.hid K0
  have SW := Lib.hid sW
  have NE : Hid (q ≠ w.heap.size) := (by show _ ≠ _; omega)
  have LD := Lib.hid hLD
  have QA := Lib.hid qA
  have QB := Lib.hid qB
  have XL : Hid (¬ q = W.heap.size) := (by show ¬ _; omega)
  have b0 : (W.alloc (.cells #[.int .i64 op, .int .i64 num, .int .i64 into, .slice aa na ca, .slice ab nb cb] 136)).cell? ⟨q, 2, none⟩ = some v := (Keep.al W _).cq x2 (fun h => h)
  clear hR hAcc hLD qA qB hA hB h hE hdis K0 hlt hnv hnd sW
  go_region_law (first
    | (refine step_addS (by rfl) (.tmp 9) (.tmp 11) (by rfl) base v rows (by rfl) (LD.out.k (Keep.al _ _)).acc W.heap.size 1 op num into args kids (.slice aa na ca) (.slice ab nb cb) (fun k => EA k ∧ k < w.heap.size) (fun k => EB k ∧ k < w.heap.size) (by rfl) (cells_lit W.drew _ _) (QA.out.ext (Keep.al _ _) (fun _ _ h => h)) (QB.out.ext (Keep.al _ _) (fun _ _ h => h)) (fun k hk => by have h1 := hE2.out k (by rcases hk with hk | hk; exact .inl hk.1; exact .inr hk.1); exact ⟨h1.1, h1.2.2⟩) (fun k h1 h2 => hdis2.out k h1.1 h2.1) hlen (by simp; have := SW.out; omega) ?_; intro a' n' c' w2 hA2 x2 s2 b2; have A2 := Lib.hid hA2; have X2 := Lib.hid x2; have B2 := Lib.hid b2; have L1 := Lib.hid ((LD.out.k (Keep.al W.drew (.cells #[.int .i64 op, .int .i64 num, .int .i64 into, .slice aa na ca, .slice ab nb cb] 136))).added X2.out A2.out (fun k hk => by rcases hk with hk | hk; exact (hE2.out k (.inl hk.1)).2.1; exact (hE2.out k (.inr hk.1)).2.1) B2.out); have y0 : w2.cell? ⟨q, 0, none⟩ = some (dv) := (L1.out.row.cell (i := 0) (by simp)); have g0 := L1.out.row.frozen 0; have y1 : w2.cell? ⟨q, 1, none⟩ = some (.int .i64 N) := (L1.out.row.cell (i := 1) (by simp)); have g1 := L1.out.row.frozen 1; have y2 : w2.cell? ⟨q, 2, none⟩ = some (v) := (L1.out.row.cell (i := 2) (by simp)); have g2 := L1.out.row.frozen 2; clear hA2 x2 b2)
    | fail)
  all_goals
    go_wp2
    have L2 := (L1.out.put (cs' := #[dv, .int .i64 N, (.slice a' n' c')]) 2 (.slice a' n' c') rfl (fun j hj => by rcases (show j = 0 ∨ j = 1 ∨ j = 2 by simp at hj; omega) with rfl | rfl | rfl <;> rfl)).put (cs' := #[dv, .int .i64 (N + 1), (.slice a' n' c')]) 1 (.int .i64 (N + 1)) rfl (fun j hj => by rcases (show j = 0 ∨ j = 1 ∨ j = 2 by simp at hj; omega) with rfl | rfl | rfl <;> rfl)
    have XF := ((((Keep.to (ko.out.alloc _).drew : Ext (fun k => k = q ∨ v.ownBlock = some k) w _).trans (X2.out.mono (fun k _ h => .inr h))).setCell (p := ⟨q, 2, none⟩) (.inr (.inl rfl)) (.slice a' n' c')).setCell (p := ⟨q, 1, none⟩) (.inr (.inl rfl)) (.int .i64 (N + 1)))
    exact fin_ hQ ⟨rfl, _, _, L2, (fun k hk => by
      rcases hk with hk | hk
      · exact .inl hk
      · exact .inr (hk.1.imp (fun h => h.1) (fun h => h.1))), XF, (fun k hk => (B2.out k hk).imp id (fun h => by have := SW.out; simp at h; omega))⟩
end Go.Proofs.YtkapldpmjkdmcaaGreat
/- The reference's types of expressions: calls and closures. -/
namespace Go.Proofs.YtkapldpmjkdmcaaGreat
open Go.RowKit

theorem IntsL.take {w : World} {D : Nat → Prop} {a : Option Addr} {n : Nat} {xs : List Int} (h : IntsL w D a n xs) {m : Nat} (hm : m ≤ n) : IntsL w D a m (xs.take m) := by
  obtain ⟨h1, h2⟩ := h
  refine ⟨by simp; omega, fun h0 => ?_⟩
  obtain ⟨b, o, rfl, hd, hc⟩ := h2 (by omega)
  refine ⟨b, o, rfl, hd, fun i hi => ?_⟩
  rw [hc i (by omega)]
  simp [iAt, hi]
theorem simpleL_range {ds : List DeclL} {sg : List SigL} {op num : Int} {tys : List Int} (h : op = 9 ∨ op = 10) (hn : ¬ (0 ≤ num ∧ num < (sg.length : Int))) : simpleL ds sg op num tys = -1 := by
  rcases h with rfl | rfl <;> simp [simpleL] <;> intros <;> omega
theorem simpleL_call {ds : List DeclL} {sg : List SigL} {k : Nat} {tys : List Int} (hk : k < sg.length) : simpleL ds sg 9 (k : Int) tys = if tys = (sgAt sg k).params then (sgAt sg k).result else -1 := by
  rw [simpleL, if_neg (by omega), if_neg (by omega), if_neg (by omega), if_neg (by omega), if_neg (by omega), if_pos rfl]
  by_cases h : tys = (sgAt sg k).params
  · rw [if_pos ⟨by omega, by omega, by simpa using h⟩, if_pos h]; rfl
  · rw [if_neg (fun h' => h (by simpa using h'.2.2)), if_neg h]
theorem simpleL_close {ds : List DeclL} {sg : List SigL} {k : Nat} {tys : List Int} (hk : k < sg.length) : simpleL ds sg 10 (k : Int) tys = if 0 < (sgAt sg k).params.length ∧ tys = (sgAt sg k).params.take ((sgAt sg k).params.length - 1) then
    arrowL ds (iAt (sgAt sg k).params ((sgAt sg k).params.length - 1)) (sgAt sg k).result else -1 := by
  rw [simpleL, if_neg (by omega), if_neg (by omega), if_neg (by omega), if_neg (by omega), if_neg (by omega), if_neg (by omega), if_pos rfl]
  by_cases h : 0 < (sgAt sg k).params.length ∧ tys = (sgAt sg k).params.take ((sgAt sg k).params.length - 1)
  · rw [if_pos ⟨by omega, by omega, by simpa using h.1, by simpa using h.2⟩, if_pos h]; rfl
  · rw [if_neg (fun h' => h ⟨by simpa using h'.2.2.1, by simpa using h'.2.2.2⟩), if_neg h]

section
variable (ds : List DeclL) (fs : List FuncL)

set_option maxRecDepth 100000 in
set_option maxHeartbeats 4000000 in
theorem specCallType (op num : Int) (es : List ExprL) (hop : op = 9 ∨ op = 10) (IH0 : ∀ j, j < es.length → TyS ds fs (eAt es j)) (a0 : Option Addr) (n0 c0 : Nat) (a1 : Option Addr) (n1 c1 : Nat) (av : Option Addr) (nv cv : Nat) (vars : List Int) (a : Option Addr) (n c : Nat) (w : World)
    (hp : PR w ds fs a0 n0 c0 a1 n1 c1) (hv : Rd w (fun _ => True) (encInts vars) (.slice av nv cv)) (h : Rd w (fun _ => True) (encExprs es) (.slice a n c)) (hlen : vars.length + 4 * nEs es ≤ 1049576) (hall : allT ds.length vars = true) (hds : ds.length ≤ 4) (hfs : fs.length ≤ 4) :
    Calls Tryz.prog 151 #[.agg #[.slice a0 n0 c0, .slice a1 n1 c1], .slice av nv cv, .agg #[.int .i64 op, .int .i64 num, .slice a n c]] w fun r w' => r = .returned (.int .i64 (simpleL ds (fs.map sigF) op num (tyEs ds (fs.map sigF) vars es))) ∧ Keep w w' := by
  refine calls_k fun Q hQ => ?_
  have K0 := (Keep.al w (.cells #[.slice a0 n0 c0, .slice a1 n1 c1] 44)).trans (Keep.al _ (.cells #[.int .i64 op, .int .i64 num, .slice a n c] 58))
  have R0 := (rowOf w #[.slice a0 n0 c0, .slice a1 n1 c1] 44).alloc (.cells #[.int .i64 op, .int .i64 num, .slice a n c] 58)
  have R1 := rowOf (w.alloc (.cells #[.slice a0 n0 c0, .slice a1 n1 c1] 44)) #[.int .i64 op, .int .i64 num, .slice a n c] 58
  simp only [World.size_alloc] at R1
  obtain ⟨e1, hf1, hf2, hat⟩ := funcs_at hp.2
  have HL := Lib.hid e1
  have HA := Lib.hid hat
  have hn1 : n1 ≤ 4 := by omega
  have SL : Hid ((fs.map sigF).length = n1) := by show _ = _; rw [List.length_map]; exact e1
  clear e1 hat
  by_cases hr : 0 ≤ num ∧ num < (n1 : Int)
  case neg =>
    have V := Lib.hid (simpleL_range (ds := ds) (tys := tyEs ds (fs.map sigF) vars es) hop (by rw [SL.out]; exact hr))
    have hd : decide (0 ≤ num ∧ num ≤ (n1 : Int) - 1) = false := decide_eq_false (fun h => hr (by omega))
    clear hr
    go_enter Tryz.func151, Tryz.ntmps151
    go_wp2_with fail
    refine (specInRange _ _ _ _).mono ?_
    rw [hd]
    rintro e w1 ⟨rfl, rfl⟩
    go_wp2_with fail
    exact fin_ hQ ⟨ret_i V.out.symm, K0⟩
  obtain ⟨k, rfl⟩ : ∃ k : Nat, num = (k : Int) := ⟨num.toNat, by omega⟩
  have hk : k < n1 := by omega
  have hd : decide (0 ≤ (k : Int) ∧ (k : Int) ≤ (n1 : Int) - 1) = true := decide_eq_true (by omega)
  have HD := Lib.hid hd
  have HS : Hid (sgAt (fs.map sigF) k = sigF (fAt fs k)) := sgAt_sigF fs (by have := HL.out; omega)
  clear hr hd
  obtain ⟨b, o, rfl, _, ap, np, cp, ab, nb, cb, d0, d1, d2, d3, d4, r0, r4⟩ := HA.out k hk
  generalize hF : fAt fs k = f at d1 d2 d3 r0 r4 HS
  have HF := Lib.hid hF
  have g0 := (K0.cell (World.block_lt_of_cell? w _ d0) (fun h => h)).trans d0
  have g1 := (K0.cell (World.block_lt_of_cell? w _ d1) (fun h => h)).trans d1
  have g2 := (K0.cell (World.block_lt_of_cell? w _ d2) (fun h => h)).trans d2
  have g3 := (K0.cell (World.block_lt_of_cell? w _ d3) (fun h => h)).trans d3
  have g4 := (K0.cell (World.block_lt_of_cell? w _ d4) (fun h => h)).trans d4
  have hpl := (ints_at r0).1
  have HPL := Lib.hid hpl
  have K1 := K0.trans (Keep.al _ (.cells #[.slice ap np cp, .int .i64 f.result, .int .i64 f.body.op, .int .i64 f.body.num, .slice ab nb cb] 60))
  clear d0 d1 d2 d3 d4 hF hpl
  rcases hop with rfl | rfl
  · have V0 := Lib.hid (simpleL_call (ds := ds) (sg := fs.map sigF) (k := k) (tys := tyEs ds (fs.map sigF) vars es) (by rw [SL.out]; exact hk))
    have RF := rowOf ((w.alloc (.cells #[.slice a0 n0 c0, .slice (some ⟨b, o, none⟩) n1 c1] 44)).alloc (.cells #[.int .i64 9, .int .i64 (k : Int), .slice a n c] 58)) #[.slice ap np cp, .int .i64 f.result, .int .i64 f.body.op, .int .i64 f.body.num, .slice ab nb cb] 60
    simp only [World.size_alloc] at RF
    by_cases ht : tyEs ds (fs.map sigF) vars es = f.params
    · have V : Hid (simpleL ds (fs.map sigF) 9 (k : Int) (tyEs ds (fs.map sigF) vars es) = f.result) := by show _ = _; rw [V0.out, if_pos (by rw [HS.out]; exact ht), HS.out]; rfl
      have HT := Lib.hid (decide_eq_true ht)
      clear ht
      go_enter Tryz.func151, Tryz.ntmps151
      go_wp2_with fail
      refine (specInRange _ _ _ _).mono ?_
      rw [HD.out]
      rintro e w1 ⟨rfl, rfl⟩
      go_wp2_with fail
      refine (specAllOf ds fs es IH0 _ _ _ _ _ _ _ _ _ vars _ _ _ _ _ _ _ _ (hp.k K1) (hv.k K1) (h.k K1) (r0.k K1) hlen hall).mono ?_
      rw [HT.out]
      rintro e w2 ⟨rfl, p2⟩
      have y1 := (row_ext RF p2 (fun h => h)).cell (i := 1) (by simp)
      simp at y1
      go_wp2_with fail
      exact fin_ hQ ⟨ret_i V.out.symm, K1.trans p2⟩
    · have V : Hid (simpleL ds (fs.map sigF) 9 (k : Int) (tyEs ds (fs.map sigF) vars es) = -1) := by show _ = _; rw [V0.out, if_neg (by rw [HS.out]; exact ht)]
      have HT := Lib.hid (decide_eq_false ht)
      clear ht
      go_enter Tryz.func151, Tryz.ntmps151
      go_wp2_with fail
      refine (specInRange _ _ _ _).mono ?_
      rw [HD.out]
      rintro e w1 ⟨rfl, rfl⟩
      go_wp2_with fail
      refine (specAllOf ds fs es IH0 _ _ _ _ _ _ _ _ _ vars _ _ _ _ _ _ _ _ (hp.k K1) (hv.k K1) (h.k K1) (r0.k K1) hlen hall).mono ?_
      rw [HT.out]
      rintro e w2 ⟨rfl, p2⟩
      have y1 := (row_ext RF p2 (fun h => h)).cell (i := 1) (by simp)
      simp at y1
      go_wp2_with fail
      exact fin_ hQ ⟨ret_i V.out.symm, K1.trans p2⟩
  · have V0 := Lib.hid (simpleL_close (ds := ds) (sg := fs.map sigF) (k := k) (tys := tyEs ds (fs.map sigF) vars es) (by rw [SL.out]; exact hk))
    have RF := rowOf ((w.alloc (.cells #[.slice a0 n0 c0, .slice (some ⟨b, o, none⟩) n1 c1] 44)).alloc (.cells #[.int .i64 10, .int .i64 (k : Int), .slice a n c] 58)) #[.slice ap np cp, .int .i64 f.result, .int .i64 f.body.op, .int .i64 f.body.num, .slice ab nb cb] 60
    simp only [World.size_alloc] at RF
    rcases Nat.eq_zero_or_pos np with h0 | h0
    · subst h0
      have V : Hid (simpleL ds (fs.map sigF) 10 (k : Int) (tyEs ds (fs.map sigF) vars es) = -1) := by show _ = _; rw [V0.out, if_neg (by rw [HS.out]; intro h; have := HPL.out; have h1 : 0 < f.params.length := h.1; omega)]
      go_enter Tryz.func151, Tryz.ntmps151
      go_wp2_with fail
      refine (specInRange _ _ _ _).mono ?_
      rw [HD.out]
      rintro e w1 ⟨rfl, rfl⟩
      go_wp2_with fail
      go_quiet (fail)
      go_wp2_with fail
      exact fin_ hQ ⟨ret_i V.out.symm, by first | exact K1.drew | exact K1.drewN _⟩
    · obtain ⟨m, rfl⟩ : ∃ m, np = m + 1 := ⟨np - 1, by omega⟩
      have hb : (((m + 1 : Nat) : Int) == 0) = false := by simp; omega
      have MP : Hid (f.params.length = m + 1) := HPL.out
      obtain ⟨b2, o2, rfl, _, _⟩ := (ints_at r0).2.2.2 0 (by omega)
      have hcp : m + 1 ≤ cp := (ints_at r0).2.1
      have hnp : m + 1 ≤ 9223372036854775807 := (ints_at r0).2.2.1
      have x0 := (R0.alloc (.cells #[.slice (some ⟨b2, o2, none⟩) (m + 1) cp, .int .i64 f.result, .int .i64 f.body.op, .int .i64 f.body.num, .slice ab nb cb] 60)).cell (i := 0) (by simp)
      have x1 := (R0.alloc (.cells #[.slice (some ⟨b2, o2, none⟩) (m + 1) cp, .int .i64 f.result, .int .i64 f.body.op, .int .i64 f.body.num, .slice ab nb cb] 60)).cell (i := 1) (by simp)
      have y2 := (R1.alloc (.cells #[.slice (some ⟨b2, o2, none⟩) (m + 1) cp, .int .i64 f.result, .int .i64 f.body.op, .int .i64 f.body.num, .slice ab nb cb] 60)).cell (i := 2) (by simp)
      have z0 := RF.cell (i := 0) (by simp)
      have z1 := RF.cell (i := 1) (by simp)
      simp at x0 x1 y2 z0 z1
      have qp := hp.k K1
      have qv := hv.k K1
      have qe := h.k K1
      have qt := (((Rd.toInts r0).take (m := m) (by omega)).toRd (c := cp) (by have := (ints_at r0).2.1; omega) (by have := (ints_at r0).2.2.1; omega)).k K1
      by_cases ht : tyEs ds (fs.map sigF) vars es = f.params.take m
      · have V : Hid (simpleL ds (fs.map sigF) 10 (k : Int) (tyEs ds (fs.map sigF) vars es) = arrowL ds (iAt f.params m) f.result) := by
          show _ = _
          rw [V0.out, HS.out, if_pos ⟨by show 0 < f.params.length; rw [MP.out]; omega, by show _ = f.params.take (f.params.length - 1); rw [MP.out]; exact ht⟩]
          show arrowL ds (iAt f.params (f.params.length - 1)) f.result = _
          rw [MP.out]; rfl
        have HT := Lib.hid (decide_eq_true ht)
        clear ht
        go_enter Tryz.func151, Tryz.ntmps151
        go_wp2_with fail
        refine (specInRange _ _ _ _).mono ?_
        rw [HD.out]
        rintro e w1 ⟨rfl, rfl⟩
        go_wp2_with fail
        generalize hW : ((w.alloc (.cells #[.slice a0 n0 c0, .slice (some ⟨b, o, none⟩) n1 c1] 44)).alloc (.cells #[.int .i64 10, .int .i64 (k : Int), .slice a n c] 58)).alloc (.cells #[.slice (some ⟨b2, o2, none⟩) (m + 1) cp, .int .i64 f.result, .int .i64 f.body.op, .int .i64 f.body.num, .slice ab nb cb] 60) = W3 at *
        have qpd := qp.k (w' := W3.drew) (Ext.refl (fun _ => False) W3).drew
        have qvd := qv.k (w' := W3.drew) (Ext.refl (fun _ => False) W3).drew
        have qed := qe.k (w' := W3.drew) (Ext.refl (fun _ => False) W3).drew
        have qtd := qt.k (w' := W3.drew) (Ext.refl (fun _ => False) W3).drew
        have pc : Keep W3.drew W3.drew := Ext.refl _ _
        clear hW
        have hw8 : IntKind.i64.wrap (m : Int) = (m : Int) := by rw [IntWalk.i64_in _ (by omega)]
        have hw3 : (m : Int) ≤ (cp : Int) := by omega
        have hw4 : (0 : Int) ≤ (m : Int) := by omega
        go_region_held3 (fun w' => w'.cell? ⟨w.heap.size, 0, none⟩ = some (.slice a0 n0 c0) ∧ w'.cell? ⟨w.heap.size, 1, none⟩ = some (.slice (some ⟨b, o, none⟩) n1 c1) ∧ w'.cell? ⟨w.heap.size + 1, 2, none⟩ = some (.slice a n c) ∧ w'.cell? ⟨w.heap.size + 2, 0, none⟩ = some (.slice (some ⟨b2, o2, none⟩) (m + 1) cp))
          (first | exact ⟨Keep.at pc x0, Keep.at pc x1, Keep.at pc y2, Keep.at pc z0⟩ | go_keep)
          ((go_at_call 147; refine (specAllOf ds fs es IH0 _ _ _ _ _ _ _ _ _ vars _ _ _ _ _ _ _ _ (qpd.k pc) (qvd.k pc) (qed.k pc) (qtd.k pc) hlen hall).mono ?_; rw [HT.out]; rintro e w2 ⟨rfl, p2⟩; replace pc := pc.trans p2))
        have K2 := Lib.hid ((Ext.refl (fun _ => False) W3).drew.trans pc)
        have KE := Lib.hid (K1.trans K2.out)
        obtain ⟨b3, o3, e3, _, d3⟩ := (ints_at r0).2.2.2 m (by omega)
        injection e3 with e3
        injection e3 with e3 e4
        subst e3 e4
        have u0 := Keep.at pc x0
        have v0 := Keep.at pc z0
        have v1 := Keep.at pc z1
        have v2 := (KE.out.cell (World.block_lt_of_cell? _ _ d3) (fun h => h)).trans d3
        have qd := (((Rd.toDecls hp.1).ext KE.out (fun _ _ h => h)).ext (S := fun _ => False) (w' := w2.drew) (Ext.refl (fun _ => False) w2).drew (fun _ _ h => h))
        have hn0 : n0 ≤ 4 := by have := (decls_at hp.1).1; omega
        have hw9 : (m : Int) < (m : Int) + 1 := by omega
        clear qpd qvd qed qtd pc x0 x1 y2 z0 z1 d3 g0 g1 g2 g3 g4 hw3
        go_wp2_with fail
        go_region_held3 (fun w' => w'.cell? ⟨w.heap.size, 0, none⟩ = some (.slice a0 n0 c0) ∧ w'.cell? ⟨w.heap.size + 2, 0, none⟩ = some (.slice (some ⟨b2, o2, none⟩) (m + 1) cp) ∧ w'.cell? ⟨w.heap.size + 2, 1, none⟩ = some (.int .i64 f.result) ∧ w'.cell? ⟨b2, o2 + m, none⟩ = some (.int .i64 (iAt f.params m)))
          (first | exact ⟨u0, v0, v1, v2⟩ | go_keep)
          ((go_at_call 198; refine (specArrowOf0 _ _ _ ds _ _ _ _ qd (by omega)).mono ?_; rintro e w3 ⟨rfl, rfl⟩))
        go_wp2_with fail
        exact fin_ hQ ⟨ret_i V.out.symm, KE.out.drew⟩
      · have V : Hid (simpleL ds (fs.map sigF) 10 (k : Int) (tyEs ds (fs.map sigF) vars es) = -1) := by
          show _ = _
          rw [V0.out, HS.out, if_neg (fun h => ht (by have h1 : _ = f.params.take (f.params.length - 1) := h.2; rw [MP.out] at h1; exact h1))]
        have HT := Lib.hid (decide_eq_false ht)
        clear ht
        go_enter Tryz.func151, Tryz.ntmps151
        go_wp2_with fail
        refine (specInRange _ _ _ _).mono ?_
        rw [HD.out]
        rintro e w1 ⟨rfl, rfl⟩
        go_wp2_with fail
        generalize hW : ((w.alloc (.cells #[.slice a0 n0 c0, .slice (some ⟨b, o, none⟩) n1 c1] 44)).alloc (.cells #[.int .i64 10, .int .i64 (k : Int), .slice a n c] 58)).alloc (.cells #[.slice (some ⟨b2, o2, none⟩) (m + 1) cp, .int .i64 f.result, .int .i64 f.body.op, .int .i64 f.body.num, .slice ab nb cb] 60) = W3 at *
        have qpd := qp.k (w' := W3.drew) (Ext.refl (fun _ => False) W3).drew
        have qvd := qv.k (w' := W3.drew) (Ext.refl (fun _ => False) W3).drew
        have qed := qe.k (w' := W3.drew) (Ext.refl (fun _ => False) W3).drew
        have qtd := qt.k (w' := W3.drew) (Ext.refl (fun _ => False) W3).drew
        have pc : Keep W3.drew W3.drew := Ext.refl _ _
        clear hW
        have hw8 : IntKind.i64.wrap (m : Int) = (m : Int) := by rw [IntWalk.i64_in _ (by omega)]
        have hw3 : (m : Int) ≤ (cp : Int) := by omega
        have hw4 : (0 : Int) ≤ (m : Int) := by omega
        go_region_held3 (fun w' => w'.cell? ⟨w.heap.size, 0, none⟩ = some (.slice a0 n0 c0) ∧ w'.cell? ⟨w.heap.size, 1, none⟩ = some (.slice (some ⟨b, o, none⟩) n1 c1) ∧ w'.cell? ⟨w.heap.size + 1, 2, none⟩ = some (.slice a n c) ∧ w'.cell? ⟨w.heap.size + 2, 0, none⟩ = some (.slice (some ⟨b2, o2, none⟩) (m + 1) cp))
          (first | exact ⟨Keep.at pc x0, Keep.at pc x1, Keep.at pc y2, Keep.at pc z0⟩ | go_keep)
          ((go_at_call 147; refine (specAllOf ds fs es IH0 _ _ _ _ _ _ _ _ _ vars _ _ _ _ _ _ _ _ (qpd.k pc) (qvd.k pc) (qed.k pc) (qtd.k pc) hlen hall).mono ?_; rw [HT.out]; rintro e w2 ⟨rfl, p2⟩; replace pc := pc.trans p2))
        have KE := Lib.hid (K1.trans ((Ext.refl (fun _ => False) W3).drew.trans pc))
        go_wp2_with fail
        exact fin_ hQ ⟨ret_i V.out.symm, KE.out⟩
end
end Go.Proofs.YtkapldpmjkdmcaaGreat
