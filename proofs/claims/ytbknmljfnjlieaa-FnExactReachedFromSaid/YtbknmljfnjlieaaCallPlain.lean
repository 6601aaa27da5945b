/- The functions that an expression names, plain: by insertion, and by marks; and that what has a type names functions that there are. -/
import Derived.Test.YtbknmljfnjlieaaSetPlain
import Derived.Test.YtbknmljfnjlieaaWalk
import Derived.Test.YtbknmljfnjlieaaWalkM
import Derived.Test.YtbknmljfnjlieaaTyRange
namespace Go.Proofs.Ytbknmljfnjlieaa
open Go.RowKit

theorem allEs_mk {P : Int → Int → Prop} {es : List ExprL} (h : ∀ j, j < es.length → allE P (eAt es j)) : allEs P es := by
  induction es with
  | nil => trivial
  | cons e es ih => exact ⟨h 0 (by simp), ih (fun j hj => by have := h (j + 1) (by simpa using hj); simpa [eAt] using this)⟩

/-- A node names a function. -/
def isCal (op : Int) : Bool := decide (op = 9) || decide (op = 10)
/-- The reference's visits: insertion. -/
def cvis (op num : Int) (s : List Int) : List Int := if isCal op then insL s num else s
/-- The program's visits: a mark is set. -/
def bvis (op num : Int) (s : List Bool) : List Bool := if isCal op then s.set num.toNat true else s
def calL (e : ExprL) : List Int := visE cvis e []
/-- A node that names a function names one of n. -/
def calIn (n : Nat) (op num : Int) : Prop := isCal op = true → 0 ≤ num ∧ num < (n : Int)

theorem cvis_len1 (op num : Int) (s : List Int) : (cvis op num s).length ≤ s.length + 1 := by
  unfold cvis; split
  · exact insL_len s num
  · omega
mutual
theorem cvisE_len : ∀ (e : ExprL) (s : List Int), (visE cvis e s).length ≤ s.length + nE e
  | .mk op num ks, s => by
    have h := cvisEs_len ks (cvis op num s)
    have h1 := cvis_len1 op num s
    simp only [visE, nE]; omega
theorem cvisEs_len : ∀ (es : List ExprL) (s : List Int), (visEs cvis es s).length ≤ s.length + nEs es
  | [], s => by simp [visEs]
  | e :: es, s => by
    have h1 := cvisE_len e s
    have h2 := cvisEs_len es (visE cvis e s)
    simp only [visEs, nEs]; omega
end
theorem bvis_len (op num : Int) (s : List Bool) : (bvis op num s).length = s.length := by unfold bvis; split <;> simp
mutual
theorem bvisE_len : ∀ (e : ExprL) (s : List Bool), (visE bvis e s).length = s.length
  | .mk op num ks, s => by rw [visE, bvisEs_len ks, bvis_len]
theorem bvisEs_len : ∀ (es : List ExprL) (s : List Bool), (visEs bvis es s).length = s.length
  | [], s => rfl
  | e :: es, s => by rw [visEs, bvisEs_len es, bvisE_len e]
end
theorem idxL_set {s : List Bool} {x : Int} (h0 : 0 ≤ x) (h1 : x < (s.length : Int)) : idxL (s.set x.toNat true) = insL (idxL s) x := by
  refine asc_ext (idxL_asc _) (insL_asc (idxL_asc _)) (fun y => ?_)
  rw [idxL_mem, insL_mem, idxL_mem]
  constructor
  · rintro ⟨i, hi, rfl, hb⟩
    rw [List.length_set] at hi
    by_cases e : x.toNat = i
    · left; omega
    · right
      refine ⟨i, hi, rfl, ?_⟩
      simpa [bAtL, List.getElem?_set, e] using hb
  · rintro (rfl | ⟨i, hi, rfl, hb⟩)
    · refine ⟨y.toNat, by rw [List.length_set]; omega, by omega, ?_⟩
      rw [bAtL_eq (by rw [List.length_set]; omega)]
      simp
    · refine ⟨i, by rw [List.length_set]; exact hi, rfl, ?_⟩
      by_cases e : x.toNat = i
      · subst e
        rw [bAtL_eq (by rw [List.length_set]; exact hi)]
        simp
      · simpa [bAtL, List.getElem?_set, e] using hb
theorem bAtL_setN {bs : List Bool} {i j : Nat} (hi : i < bs.length) : bAtL (bs.set i true) j = (decide (i = j) || bAtL bs j) := by
  by_cases e : i = j
  · subst e
    rw [bAtL_eq (by simpa using hi)]; simp
  · simp [bAtL, e]
theorem idxL_bvis {op num : Int} {s : List Bool} (h : calIn s.length op num) : idxL (bvis op num s) = cvis op num (idxL s) := by
  unfold bvis cvis
  split
  · next hc => exact idxL_set (h hc).1 (h hc).2
  · rfl
mutual
theorem idxL_visE : ∀ (e : ExprL) (s : List Bool), allE (calIn s.length) e → idxL (visE bvis e s) = visE cvis e (idxL s)
  | .mk op num ks, s, h => by
    obtain ⟨h1, h2⟩ := h
    rw [visE, visE, ← idxL_bvis h1]
    exact idxL_visEs ks _ (by rw [bvis_len]; exact h2)
theorem idxL_visEs : ∀ (es : List ExprL) (s : List Bool), allEs (calIn s.length) es → idxL (visEs bvis es s) = visEs cvis es (idxL s)
  | [], s, _ => rfl
  | e :: es, s, h => by
    obtain ⟨h1, h2⟩ := h
    rw [visEs, visEs, ← idxL_visE e s h1]
    exact idxL_visEs es _ (by rw [bvisE_len]; exact h2)
end
theorem idxFrom_none (k n : Nat) : idxFrom k (List.replicate n false) = [] := by
  induction n generalizing k with
  | zero => rfl
  | succ n ih => rw [List.replicate_succ, idxFrom, if_neg (by simp)]; exact ih _
theorem idxL_none (n : Nat) : idxL (List.replicate n false) = [] := idxFrom_none 0 n
/-- What the program marks are the reference's. -/
theorem calL_marks {n : Nat} {e : ExprL} (h : allE (calIn n) e) : idxL (visE bvis e (List.replicate n false)) = calL e := by
  rw [idxL_visE e _ (by rw [List.length_replicate]; exact h), idxL_none, calL]
theorem calL_len (e : ExprL) : (calL e).length ≤ nE e := by have := cvisE_len e []; rw [calL]; simpa using this

theorem calL_range {n : Nat} {e : ExprL} (h : allE (calIn n) e) {x : Int} (hx : x ∈ calL e) : 0 ≤ x ∧ x < (n : Int) := by
  rw [← calL_marks h, idxL_mem] at hx
  obtain ⟨i, hi, rfl, _⟩ := hx
  rw [bvisE_len, List.length_replicate] at hi
  omega
theorem calL_asc {n : Nat} {e : ExprL} (h : allE (calIn n) e) : Asc (calL e) := by rw [← calL_marks h]; exact idxL_asc _

section
variable {ds : List DeclL} {sg : List SigL} (hok : sigsOk ds sg = true)
include hok
theorem simple_kids {op num : Int} {tys : List Int} (h : 0 ≤ simpleL ds sg op num tys) : calIn sg.length op num ∧ ∀ i, i < tys.length → 0 ≤ iAt tys i := by
  obtain ⟨ht, _, _, hs⟩ := sigsOk_parts hok
  unfold simpleL at h
  have no : ∀ {o : Int}, o ≠ 9 → o ≠ 10 → calIn sg.length o num := fun h1 h2 hc => absurd hc (by simp [isCal, h1, h2])
  split at h
  · next e =>
    subst e
    split at h
    · next h1 => exact ⟨no (by omega) (by omega), fun i hi => by rw [h1.1] at hi; simp at hi⟩
    · omega
  split at h
  · next e =>
    split at h
    · next h1 =>
      refine ⟨no (by omega) (by omega), fun i hi => ?_⟩
      rw [h1.2] at hi ⊢
      rcases (show i = 0 ∨ i = 1 by simp at hi; omega) with rfl | rfl <;> simp [iAt]
    · omega
  split at h
  · next e =>
    split at h
    · next h1 =>
      refine ⟨no (by omega) (by omega), fun i hi => ?_⟩
      rw [h1.2] at hi ⊢
      rcases (show i = 0 by simp at hi; omega) with rfl; simp [iAt]
    · omega
  split at h
  · next e =>
    split at h
    · next h1 =>
      obtain ⟨_, h2, h3, h4⟩ := h1
      obtain ⟨q1, q2, q3⟩ := isArr_parts h3
      have := isT_iff.1 (declOk_arrow (typesOk_decl ht (by omega)) q3).1
      refine ⟨no (by omega) (by omega), fun i hi => ?_⟩
      rcases (show i = 0 ∨ i = 1 by omega) with rfl | rfl <;> omega
    · omega
  split at h
  · next e =>
    split at h
    · next h1 =>
      refine ⟨no (by omega) (by omega), fun i hi => ?_⟩
      rw [h1.2] at hi ⊢
      exact (allT_at (conFieldsL_ok ht num).2 hi).1
    · omega
  split at h
  · next e =>
    split at h
    · next h1 =>
      refine ⟨fun _ => ⟨h1.1, h1.2.1⟩, fun i hi => ?_⟩
      rw [h1.2.2] at hi ⊢
      exact (allT_at (sigOk_parts (hs _ (by omega))).2.1 hi).1
    · omega
  split at h
  · next e =>
    split at h
    · next h1 =>
      refine ⟨fun _ => ⟨h1.1, h1.2.1⟩, fun i hi => ?_⟩
      obtain ⟨_, h2, h3, h4⟩ := h1
      rw [h4] at hi ⊢
      rw [List.length_take] at hi
      have e2 : iAt (List.take ((sgAt sg num.toNat).params.length - 1) (sgAt sg num.toNat).params) i = iAt (sgAt sg num.toNat).params i := by
        rw [iAt_get (by rw [List.length_take]; exact hi), iAt_get (by omega)]; simp
      rw [e2]
      exact (allT_at (sigOk_parts (hs _ (by omega))).2.1 (by omega)).1
    · omega
  · omega
omit hok in
theorem oneT_all {ts : List Int} (h : 0 ≤ oneT ts) {i : Nat} (hi : i < ts.length) : 0 ≤ iAt ts i := by
  by_cases h1 : iAt ts i < 0
  · rw [oneT_neg hi (.inr h1)] at h; omega
  · omega
theorem tyE_cal_n (N : Nat) : ∀ (e : ExprL), nE e < N → ∀ vars, 0 ≤ tyE ds sg vars e → allE (calIn sg.length) e := by
  induction N with
  | zero => intro e h; omega
  | succ N ih =>
  intro e hN vars h
  obtain ⟨op, num, ks⟩ := e
  have hk : ∀ j, j < ks.length → nE (eAt ks j) < N := fun j hj => by have := nE_le ks hj; rw [nE] at hN; omega
  have no : op ≠ 9 → op ≠ 10 → calIn sg.length op num := fun h1 h2 hc => absurd hc (by simp [isCal, h1, h2])
  rw [tyE] at h
  split at h
  · next e =>
    split at h
    · next h1 => exact ⟨no (by omega) (by omega), allEs_mk (fun j hj => by omega)⟩
    · omega
  split at h
  · next e =>
    split at h
    · next h1 =>
      rw [tyLet_at ds sg vars h1.2] at h
      split at h
      · next h0 =>
        refine ⟨no (by omega) (by omega), allEs_mk (fun j hj => ?_)⟩
        rcases (show j = 0 ∨ j = 1 by omega) with rfl | rfl
        · exact ih _ (hk 0 hj) _ h0
        · exact ih _ (hk 1 hj) _ h
      · omega
    · omega
  split at h
  · next e =>
    split at h
    · next h1 =>
      refine ⟨no (by omega) (by omega), allEs_mk (fun j hj => ?_)⟩
      rcases j with _ | j
      · have := h1.2.2
        rw [tyHd_at ds sg vars (by omega)] at this
        exact ih _ (hk 0 hj) vars (by omega)
      · have := oneT_all h (i := j) (by rw [tyTl_len]; omega)
        rw [tyTl_at ds sg vars (by omega)] at this
        exact ih _ (hk _ hj) _ this
    · omega
  split at h
  · next e =>
    split at h
    · next h1 =>
      refine ⟨no (by omega) (by omega), allEs_mk (fun j hj => ?_)⟩
      rcases j with _ | j
      · have h2 := h1.2.2
        rw [tyHd_at ds sg vars (by omega)] at h2
        refine ih _ (hk 0 hj) vars ?_
        rw [h2]
        refine Decidable.byContradiction fun hn => ?_
        have := h1.1
        rw [armsL, List.length_map, consL, if_neg (by omega)] at this
        simp at this
      · have := oneT_all h (i := j) (by rw [tyTl_len]; omega)
        rw [tyTl_at ds sg vars (by omega)] at this
        exact ih _ (hk _ hj) _ this
    · omega
  · obtain ⟨h1, h2⟩ := simple_kids hok h
    refine ⟨h1, allEs_mk (fun j hj => ?_)⟩
    have := h2 j (by rw [tyEs_len]; exact hj)
    rw [tyEs_at ds sg vars hj] at this
    exact ih _ (hk j hj) vars this
theorem tyE_cal {e : ExprL} {vars : List Int} (h : 0 ≤ tyE ds sg vars e) : allE (calIn sg.length) e := tyE_cal_n hok _ e (Nat.lt_succ_self _) vars h
end
end Go.Proofs.Ytbknmljfnjlieaa
