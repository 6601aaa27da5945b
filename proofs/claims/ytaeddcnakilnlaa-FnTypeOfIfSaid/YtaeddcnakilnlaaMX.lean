/- The functions that an expression names, plain: by insertion, and by marks; and that what has a type names functions that there are. -/
import Derived.Test.YtaeddcnakilnlaaWSetPlain
import Derived.Test.YtaeddcnakilnlaaME
import Derived.Test.YtaeddcnakilnlaaMH
import Derived.Test.YtaeddcnakilnlaaMS
namespace Go.Proofs.Ytaeddcnakilnlaa
open Go.RowKit

theorem allEs_mk {P : Int → Int → Prop} {es : List ExprL} (h : ∀ j, j < es.length → allE P (eAt es j)) : allEs P es := by
  induction es with
  | nil => trivial
  | cons e es ih => exact ⟨h 0 (by simp), ih (fun j hj => by have := h (j + 1) (by simpa using hj); simpa [eAt] using this)⟩

/-- A node names a function. -/
def isCal (op : Int) : Bool := decide (op = 9) || decide (op = 10)
/-- The reference's visits: insertion. -/
def cvis (op num : Int) (s : List Int) : List Int := if isCal op then insL s num else s
/-- The program's visits: a mark is set. -/
def bvis (op num : Int) (s : List Bool) : List Bool := if isCal op then s.set num.toNat true else s
def calL (e : ExprL) : List Int := visE cvis e []
/-- A node that names a function names one of n. -/
def calIn (n : Nat) (op num : Int) : Prop := isCal op = true → 0 ≤ num ∧ num < (n : Int)

theorem cvis_len1 (op num : Int) (s : List Int) : (cvis op num s).length ≤ s.length + 1 := by
  unfold cvis; split
  · exact insL_len s num
  · omega
mutual
theorem cvisE_len : ∀ (e : ExprL) (s : List Int), (visE cvis e s).length ≤ s.length + nE e
  | .mk op num ks, s => by
    have h := cvisEs_len ks (cvis op num s)
    have h1 := cvis_len1 op num s
    simp only [visE, nE]; omega
theorem cvisEs_len : ∀ (es : List ExprL) (s : List Int), (visEs cvis es s).length ≤ s.length + nEs es
  | [], s => by simp [visEs]
  | e :: es, s => by
    have h1 := cvisE_len e s
    have h2 := cvisEs_len es (visE cvis e s)
    simp only [visEs, nEs]; omega
end
theorem bvis_len (op num : Int) (s : List Bool) : (bvis op num s).length = s.length := by unfold bvis; split <;> simp
mutual
theorem bvisE_len : ∀ (e : ExprL) (s : List Bool), (visE bvis e s).length = s.length
  | .mk op num ks, s => by rw [visE, bvisEs_len ks, bvis_len]
theorem bvisEs_len : ∀ (es : List ExprL) (s : List Bool), (visEs bvis es s).length = s.length
  | [], s => rfl
  | e :: es, s => by rw [visEs, bvisEs_len es, bvisE_len e]
end
theorem idxL_set {s : List Bool} {x : Int} (h0 : 0 ≤ x) (h1 : x < (s.length : Int)) : idxL (s.set x.toNat true) = insL (idxL s) x := by
  refine asc_ext (idxL_asc _) (insL_asc (idxL_asc _)) (fun y => ?_)
  rw [idxL_mem, insL_mem, idxL_mem]
  constructor
  · rintro ⟨i, hi, rfl, hb⟩
    rw [List.length_set] at hi
    by_cases e : x.toNat = i
    · left; omega
    · right
      refine ⟨i, hi, rfl, ?_⟩
      simpa [bAtL, List.getElem?_set, e] using hb
  · rintro (rfl | ⟨i, hi, rfl, hb⟩)
    · refine ⟨y.toNat, by rw [List.length_set]; omega, by omega, ?_⟩
      rw [bAtL_eq (by rw [List.length_set]; omega)]
      simp
    · refine ⟨i, by rw [List.length_set]; exact hi, rfl, ?_⟩
      by_cases e : x.toNat = i
      · subst e
        rw [bAtL_eq (by rw [List.length_set]; exact hi)]
        simp
      · simpa [bAtL, List.getElem?_set, e] using hb
theorem bAtL_setN {bs : List Bool} {i j : Nat} (hi : i < bs.length) : bAtL (bs.set i true) j = (decide (i = j) || bAtL bs j) := by
  by_cases e : i = j
  · subst e
    rw [bAtL_eq (by simpa using hi)]; simp
  · simp [bAtL, e]
theorem idxL_bvis {op num : Int} {s : List Bool} (h : calIn s.length op num) : idxL (bvis op num s) = cvis op num (idxL s) := by
  unfold bvis cvis
  split
  · next hc => exact idxL_set (h hc).1 (h hc).2
  · rfl
mutual
theorem idxL_visE : ∀ (e : ExprL) (s : List Bool), allE (calIn s.length) e → idxL (visE bvis e s) = visE cvis e (idxL s)
  | .mk op num ks, s, h => by
    obtain ⟨h1, h2⟩ := h
    rw [visE, visE, ← idxL_bvis h1]
    exact idxL_visEs ks _ (by rw [bvis_len]; exact h2)
theorem idxL_visEs : ∀ (es : List ExprL) (s : List Bool), allEs (calIn s.length) es → idxL (visEs bvis es s) = visEs cvis es (idxL s)
  | [], s, _ => rfl
  | e :: es, s, h => by
    obtain ⟨h1, h2⟩ := h
    rw [visEs, visEs, ← idxL_visE e s h1]
    exact idxL_visEs es _ (by rw [bvisE_len]; exact h2)
end
theorem idxFrom_none (k n : Nat) : idxFrom k (List.replicate n false) = [] := by
  induction n generalizing k with
  | zero => rfl
  | succ n ih => rw [List.replicate_succ, idxFrom, if_neg (by simp)]; exact ih _
theorem idxL_none (n : Nat) : idxL (List.replicate n false) = [] := idxFrom_none 0 n
/-- What the program marks are the reference's. -/
theorem calL_marks {n : Nat} {e : ExprL} (h : allE (calIn n) e) : idxL (visE bvis e (List.replicate n false)) = calL e := by
  rw [idxL_visE e _ (by rw [List.length_replicate]; exact h), idxL_none, calL]
theorem calL_len (e : ExprL) : (calL e).length ≤ nE e := by have := cvisE_len e []; rw [calL]; simpa using this

theorem calL_range {n : Nat} {e : ExprL} (h : allE (calIn n) e) {x : Int} (hx : x ∈ calL e) : 0 ≤ x ∧ x < (n : Int) := by
  rw [← calL_marks h, idxL_mem] at hx
  obtain ⟨i, hi, rfl, _⟩ := hx
  rw [bvisE_len, List.length_replicate] at hi
  omega
theorem calL_asc {n : Nat} {e : ExprL} (h : allE (calIn n) e) : Asc (calL e) := by rw [← calL_marks h]; exact idxL_asc _

section
variable {ds : List DeclL} {sg : List SigL} (hok : sigsOk ds sg = true)
include hok
theorem simple_kids {op num : Int} {tys : List Int} (h : 0 ≤ simpleL ds sg op num tys) : calIn sg.length op num ∧ ∀ i, i < tys.length → 0 ≤ iAt tys i := by
  obtain ⟨ht, _, _, hs⟩ := sigsOk_parts hok
  unfold simpleL at h
  have no : ∀ {o : Int}, o ≠ 9 → o ≠ 10 → calIn sg.length o num := fun h1 h2 hc => absurd hc (by simp [isCal, h1, h2])
  split at h
  · next e =>
    subst e
    split at h
    · next h1 => exact ⟨no (by omega) (by omega), fun i hi => by rw [h1.1] at hi; simp at hi⟩
    · omega
  split at h
  · next e =>
    split at h
    · next h1 =>
      refine ⟨no (by omega) (by omega), fun i hi => ?_⟩
      rw [h1.2] at hi ⊢
      rcases (show i = 0 ∨ i = 1 by simp at hi; omega) with rfl | rfl <;> simp [iAt]
    · omega
  split at h
  · next e =>
    split at h
    · next h1 =>
      refine ⟨no (by omega) (by omega), fun i hi => ?_⟩
      rw [h1.2] at hi ⊢
      rcases (show i = 0 by simp at hi; omega) with rfl; simp [iAt]
    · omega
  split at h
  · next e =>
    split at h
    · next h1 =>
      obtain ⟨_, h2, h3, h4⟩ := h1
      obtain ⟨q1, q2, q3⟩ := isArr_parts h3
      have := isT_iff.1 (declOk_arrow (typesOk_decl ht (by omega)) q3).1
      refine ⟨no (by omega) (by omega), fun i hi => ?_⟩
      rcases (show i = 0 ∨ i = 1 by omega) with rfl | rfl <;> omega
    · omega
  split at h
  · next e =>
    split at h
    · next h1 =>
      refine ⟨no (by omega) (by omega), fun i hi => ?_⟩
      rw [h1.2] at hi ⊢
      exact (allT_at (conFieldsL_ok ht num).2 hi).1
    · omega
  split at h
  · next e =>
    split at h
    · next h1 =>
      refine ⟨fun _ => ⟨h1.1, h1.2.1⟩, fun i hi => ?_⟩
      rw [h1.2.2] at hi ⊢
      exact (allT_at (sigOk_parts (hs _ (by omega))).2.1 hi).1
    · omega
  split at h
  · next e =>
    split at h
    · next h1 =>
      refine ⟨fun _ => ⟨h1.1, h1.2.1⟩, fun i hi => ?_⟩
      obtain ⟨_, h2, h3, h4⟩ := h1
      rw [h4] at hi ⊢
      rw [List.length_take] at hi
      have e2 : iAt (List.take ((sgAt sg num.toNat).params.length - 1) (sgAt sg num.toNat).params) i = iAt (sgAt sg num.toNat).params i := by
        rw [iAt_get (by rw [List.length_take]; exact hi), iAt_get (by omega)]; simp
      rw [e2]
      exact (allT_at (sigOk_parts (hs _ (by omega))).2.1 (by omega)).1
    · omega
  · omega
omit hok in
theorem oneT_all {ts : List Int} (h : 0 ≤ oneT ts) {i : Nat} (hi : i < ts.length) : 0 ≤ iAt ts i := by
  by_cases h1 : iAt ts i < 0
  · rw [oneT_neg hi (.inr h1)] at h; omega
  · omega
theorem tyE_cal_n (N : Nat) : ∀ (e : ExprL), nE e < N → ∀ vars, 0 ≤ tyE ds sg vars e → allE (calIn sg.length) e := by
  induction N with
  | zero => intro e h; omega
  | succ N ih =>
  intro e hN vars h
  obtain ⟨op, num, ks⟩ := e
  have hk : ∀ j, j < ks.length → nE (eAt ks j) < N := fun j hj => by have := nE_le ks hj; rw [nE] at hN; omega
  have no : op ≠ 9 → op ≠ 10 → calIn sg.length op num := fun h1 h2 hc => absurd hc (by simp [isCal, h1, h2])
  rw [tyE] at h
  split at h
  · next e =>
    split at h
    · next h1 => exact ⟨no (by omega) (by omega), allEs_mk (fun j hj => by omega)⟩
    · omega
  split at h
  · next e =>
    split at h
    · next h1 =>
      rw [tyLet_at ds sg vars h1.2] at h
      split at h
      · next h0 =>
        refine ⟨no (by omega) (by omega), allEs_mk (fun j hj => ?_)⟩
        rcases (show j = 0 ∨ j = 1 by omega) with rfl | rfl
        · exact ih _ (hk 0 hj) _ h0
        · exact ih _ (hk 1 hj) _ h
      · omega
    · omega
  split at h
  · next e =>
    split at h
    · next h1 =>
      refine ⟨no (by omega) (by omega), allEs_mk (fun j hj => ?_)⟩
      rcases j with _ | j
      · have := h1.2.2
        rw [tyHd_at ds sg vars (by omega)] at this
        exact ih _ (hk 0 hj) vars (by omega)
      · have := oneT_all h (i := j) (by rw [tyTl_len]; omega)
        rw [tyTl_at ds sg vars (by omega)] at this
        exact ih _ (hk _ hj) _ this
    · omega
  split at h
  · next e =>
    split at h
    · next h1 =>
      refine ⟨no (by omega) (by omega), allEs_mk (fun j hj => ?_)⟩
      rcases j with _ | j
      · have h2 := h1.2.2
        rw [tyHd_at ds sg vars (by omega)] at h2
        refine ih _ (hk 0 hj) vars ?_
        rw [h2]
        refine Decidable.byContradiction fun hn => ?_
        have := h1.1
        rw [armsL, List.length_map, consL, if_neg (by omega)] at this
        simp at this
      · have := oneT_all h (i := j) (by rw [tyTl_len]; omega)
        rw [tyTl_at ds sg vars (by omega)] at this
        exact ih _ (hk _ hj) _ this
    · omega
  · obtain ⟨h1, h2⟩ := simple_kids hok h
    refine ⟨h1, allEs_mk (fun j hj => ?_)⟩
    have := h2 j (by rw [tyEs_len]; exact hj)
    rw [tyEs_at ds sg vars hj] at this
    exact ih _ (hk j hj) vars this
theorem tyE_cal {e : ExprL} {vars : List Int} (h : 0 ≤ tyE ds sg vars e) : allE (calIn sg.length) e := tyE_cal_n hok _ e (Nat.lt_succ_self _) vars h
end
end Go.Proofs.Ytaeddcnakilnlaa
/- Valid programs, plain. -/
namespace Go.Proofs.Ytaeddcnakilnlaa
open Go.RowKit

/-- All numbers in the bodies are in range. -/
def fitP (fs : List FuncL) : Prop := ∀ i, i < fs.length → allE fitN (fAt fs i).body
def bodyOk (ds : List DeclL) (fs : List FuncL) (i : Nat) : Bool := decide (typeTop ds fs (fAt fs i).params (fAt fs i).body = (fAt fs i).result)
/-- A program is valid. -/
def progOk (ds : List DeclL) (fs : List FuncL) : Bool := sigsOk ds (fs.map sigF) && (List.range fs.length).all (bodyOk ds fs)

section
variable {ds : List DeclL} {fs : List FuncL}
theorem progOk_sigs (h : sigsOk ds (fs.map sigF) = false) : progOk ds fs = false := by simp [progOk, h]
theorem progOk_at {i : Nat} (hi : i < fs.length) (h : bodyOk ds fs i = false) : progOk ds fs = false := by
  have e : (List.range fs.length).all (bodyOk ds fs) = false := nAll_false hi h
  simp only [progOk, e, Bool.and_false]
theorem progOk_yes (h1 : sigsOk ds (fs.map sigF) = true) (h : ∀ i, i < fs.length → bodyOk ds fs i = true) : progOk ds fs = true := by
  have e : (List.range fs.length).all (bodyOk ds fs) = true := nAll.2 h
  simp only [progOk, e, h1, Bool.and_self]
theorem progOk_parts (h : progOk ds fs = true) : sigsOk ds (fs.map sigF) = true ∧ ∀ i, i < fs.length → bodyOk ds fs i = true := by
  simp only [progOk, Bool.and_eq_true] at h
  exact ⟨h.1, nAll.1 h.2⟩
theorem sigF_at (h : sigsOk ds (fs.map sigF) = true) {i : Nat} (hi : i < fs.length) : (fAt fs i).params.length ≤ 3 ∧ allT ds.length (fAt fs i).params = true ∧ 0 ≤ (fAt fs i).result := by
  have hs := (sigsOk_parts h).2.2.2 i (by simpa using hi)
  rw [sgAt_sigF fs hi] at hs
  obtain ⟨h1, h2, h3, _⟩ := sigOk_parts hs
  exact ⟨h1, h2, (isT_iff.1 h3).1⟩
theorem progOk_len (h : progOk ds fs = true) : 1 ≤ fs.length ∧ fs.length ≤ 4 := by
  have := sigsOk_parts (progOk_parts h).1
  exact ⟨by simpa using this.2.1, by simpa using this.2.2.1⟩
theorem bodyOk_nodes (h : sigsOk ds (fs.map sigF) = true) {i : Nat} (hi : i < fs.length) (hn : nodesL (fAt fs i).body.kids < 0) : bodyOk ds fs i = false := by
  have := (sigF_at h hi).2.2
  refine decide_eq_false fun e => ?_
  rw [typeTop, if_neg (fun h => h.2.1 hn)] at e
  omega
theorem bodyOk_ty (h : sigsOk ds (fs.map sigF) = true) {i : Nat} (hi : i < fs.length) (hn : ¬ nodesL (fAt fs i).body.kids < 0) : bodyOk ds fs i = decide (tyE ds (fs.map sigF) (fAt fs i).params (fAt fs i).body = (fAt fs i).result) := by
  rw [bodyOk, typeTop, if_pos ⟨h, hn, (sigF_at h hi).2.1⟩]
theorem bodyOk_parts (h : sigsOk ds (fs.map sigF) = true) {i : Nat} (hi : i < fs.length) (hb : bodyOk ds fs i = true) : nEs (fAt fs i).body.kids + 1 ≤ 30 ∧ tyE ds (fs.map sigF) (fAt fs i).params (fAt fs i).body = (fAt fs i).result := by
  by_cases hn : nodesL (fAt fs i).body.kids < 0
  · rw [bodyOk_nodes h hi hn] at hb; cases hb
  · rw [bodyOk_ty h hi hn] at hb
    refine ⟨Decidable.byContradiction fun hc => hn (by rw [nodesL_no hc]; omega), of_decide_eq_true hb⟩
/-- The bodies of a valid program name functions that there are. -/
theorem progOk_cal (h : progOk ds fs = true) {i : Nat} (hi : i < fs.length) : allE (calIn fs.length) (fAt fs i).body := by
  obtain ⟨h1, h2⟩ := progOk_parts h
  have := (bodyOk_parts h1 hi (h2 i hi)).2
  have h3 := (sigF_at h1 hi).2.2
  have := tyE_cal h1 (e := (fAt fs i).body) (vars := (fAt fs i).params) (by omega)
  simpa using this
end
end Go.Proofs.Ytaeddcnakilnlaa
/- The functions that are reached from one, plain: by rounds of insertion, and by a list of work. -/
namespace Go.Proofs.Ytaeddcnakilnlaa
open Go.RowKit

/-- Reached from f. -/
inductive Rch (cal : Nat → List Int) (f : Int) : Int → Prop
  | base : Rch cal f f
  | step (i : Nat) (x : Int) : Rch cal f i → x ∈ cal i → Rch cal f x

theorem asc_sub : ∀ {xs ys : List Int}, Asc xs → Asc ys → (∀ x, x ∈ xs → x ∈ ys) → xs.length ≤ ys.length ∧ (ys.length ≤ xs.length → xs = ys)
  | [], ys, _, _, _ => ⟨Nat.zero_le _, fun h => (List.eq_nil_of_length_eq_zero (by simpa using h)).symm⟩
  | x :: xs, [], _, _, h => absurd (h x (by simp)) (by simp)
  | x :: xs, y :: ys, hx, hy, h => by
    obtain ⟨hx1, hx2⟩ := List.pairwise_cons.1 hx
    obtain ⟨hy1, hy2⟩ := List.pairwise_cons.1 hy
    by_cases e : x = y
    · subst e
      obtain ⟨h1, h2⟩ := asc_sub hx2 hy2 (fun z hz => by
        rcases List.mem_cons.1 (h z (by simp [hz])) with rfl | hm
        · have := hx1 z hz; omega
        · exact hm)
      exact ⟨by simpa using h1, fun hl => by rw [h2 (by simpa using hl)]⟩
    · have hxy : x ∈ ys := by
        rcases List.mem_cons.1 (h x (by simp)) with e' | hm
        · exact absurd e' e
        · exact hm
      have hgt := hy1 x hxy
      obtain ⟨h1, _⟩ := asc_sub hx hy2 (fun z hz => by
        rcases List.mem_cons.1 (h z hz) with rfl | hm
        · rcases List.mem_cons.1 hz with rfl | hz
          · omega
          · have := hx1 z hz; omega
        · exact hm)
      simp only [List.length_cons] at h1 ⊢
      exact ⟨by omega, fun hl => by omega⟩
theorem asc_upto (n : Nat) : Asc ((List.range n).map Int.ofNat) := by
  rw [Asc, List.pairwise_map]
  exact List.pairwise_lt_range.imp (fun h => by simpa using h)
theorem asc_len {xs : List Int} {n : Nat} (h : Asc xs) (hr : ∀ x, x ∈ xs → 0 ≤ x ∧ x < (n : Int)) : xs.length ≤ n := by
  have := (asc_sub h (asc_upto n) (fun x hx => by
    obtain ⟨h1, h2⟩ := hr x hx
    exact List.mem_map.2 ⟨x.toNat, List.mem_range.2 (by omega), by simp [Int.toNat_of_nonneg h1]⟩)).1
  simpa using this

def insAll (out : List Int) (xs : List Int) : List Int := xs.foldl insL out
theorem insAll_mem (xs : List Int) : ∀ (out : List Int) (x : Int), x ∈ insAll out xs ↔ x ∈ out ∨ x ∈ xs := by
  induction xs with
  | nil => intro out x; simp [insAll]
  | cons y ys ih =>
    intro out x
    have := ih (insL out y) x
    simp only [insAll, List.foldl_cons] at this ⊢
    rw [this, insL_mem, List.mem_cons]
    constructor
    · rintro ((h | h) | h)
      · exact .inr (.inl h)
      · exact .inl h
      · exact .inr (.inr h)
    · rintro (h | h | h)
      · exact .inl (.inr h)
      · exact .inl (.inl h)
      · exact .inr h
theorem insAll_asc (xs : List Int) : ∀ {out : List Int}, Asc out → Asc (insAll out xs) := by
  induction xs with
  | nil => intro out h; exact h
  | cons y ys ih => intro out h; exact ih (insL_asc h)
theorem insAll_take {xs : List Int} {j : Nat} (h : j < xs.length) (out : List Int) : insAll out (xs.take (j + 1)) = insL (insAll out (xs.take j)) (iAt xs j) := by
  rw [take_iAt h, insAll, List.foldl_append]; rfl

/-- What one round does up to a function. -/
def rndAt (cal : Nat → List Int) (out : List Int) (i : Nat) : List Int := if (i : Int) ∈ out then insAll out (cal i) else out
def rndTo (cal : Nat → List Int) (out : List Int) : Nat → List Int
  | 0 => out
  | i + 1 => rndAt cal (rndTo cal out i) i
/-- What all rounds do. -/
def rnds (cal : Nat → List Int) (n : Nat) (f : Int) : Nat → List Int
  | 0 => [f]
  | k + 1 => rndTo cal (rnds cal n f k) n
def reachL (cal : Nat → List Int) (n : Nat) (f : Int) : List Int := rnds cal n f n

section
variable {cal : Nat → List Int} {n : Nat} {f : Int}
theorem rndAt_asc {out : List Int} (h : Asc out) (i : Nat) : Asc (rndAt cal out i) := by
  unfold rndAt; split
  · exact insAll_asc _ h
  · exact h
theorem rndAt_sub {out : List Int} (i : Nat) {x : Int} (h : x ∈ out) : x ∈ rndAt cal out i := by
  unfold rndAt; split
  · exact (insAll_mem _ _ _).2 (.inl h)
  · exact h
theorem rndTo_asc {out : List Int} (h : Asc out) (i : Nat) : Asc (rndTo cal out i) := by
  induction i with
  | zero => exact h
  | succ i ih => exact rndAt_asc ih i
theorem rndTo_le {out : List Int} {i k : Nat} (hik : i ≤ k) {x : Int} (h : x ∈ rndTo cal out i) : x ∈ rndTo cal out k := by
  induction k with
  | zero => obtain rfl : i = 0 := by omega
            exact h
  | succ k ih =>
    by_cases e : i = k + 1
    · subst e; exact h
    · exact rndAt_sub k (ih (by omega))
theorem rndTo_cal {out : List Int} {i : Nat} (hi : i < n) (hm : (i : Int) ∈ out) {x : Int} (hx : x ∈ cal i) : x ∈ rndTo cal out n := by
  refine rndTo_le (i := i + 1) (by omega) ?_
  have hm2 : (i : Int) ∈ rndTo cal out i := rndTo_le (i := 0) (Nat.zero_le _) hm
  show x ∈ rndAt cal _ i
  rw [rndAt, if_pos hm2]
  exact (insAll_mem _ _ _).2 (.inr hx)
theorem rndTo_rch {out : List Int} (h : ∀ x, x ∈ out → Rch cal f x) (i : Nat) : ∀ x, x ∈ rndTo cal out i → Rch cal f x := by
  induction i with
  | zero => exact h
  | succ i ih =>
    intro x hx
    change x ∈ rndAt cal _ i at hx
    unfold rndAt at hx
    split at hx
    · next hm =>
      rcases (insAll_mem _ _ _).1 hx with h1 | h1
      · exact ih x h1
      · exact .step i x (ih _ hm) h1
    · exact ih x hx
theorem rnds_asc (k : Nat) : Asc (rnds cal n f k) := by
  induction k with
  | zero => simp [rnds, Asc]
  | succ k ih => exact rndTo_asc ih n
theorem rnds_rch (k : Nat) : ∀ x, x ∈ rnds cal n f k → Rch cal f x := by
  induction k with
  | zero => intro x hx; rw [rnds, List.mem_singleton] at hx; subst hx; exact .base
  | succ k ih => exact rndTo_rch ih n
theorem rnds_has (k : Nat) : f ∈ rnds cal n f k := by
  induction k with
  | zero => simp [rnds]
  | succ k ih => exact rndTo_le (i := 0) (Nat.zero_le _) ih
/-- Closed below n. -/
def Closed (cal : Nat → List Int) (n : Nat) (out : List Int) : Prop := ∀ i : Nat, i < n → (i : Int) ∈ out → ∀ x, x ∈ cal i → x ∈ out
theorem closed_same {out : List Int} (hA : Asc out) (h : Closed cal n out) (i : Nat) (hi : i ≤ n) : rndTo cal out i = out := by
  induction i with
  | zero => rfl
  | succ i ih =>
    rw [rndTo, ih (by omega), rndAt]
    split
    · next hm =>
      refine asc_ext (insAll_asc _ hA) hA (fun x => ?_)
      rw [insAll_mem]
      exact ⟨fun hx => hx.elim id (h i (by omega) hm x), .inl⟩
    · rfl
theorem rch_range (hf : 0 ≤ f ∧ f < (n : Int)) (hc : ∀ i, i < n → ∀ x, x ∈ cal i → 0 ≤ x ∧ x < (n : Int)) {x : Int} (h : Rch cal f x) : 0 ≤ x ∧ x < (n : Int) := by
  induction h with
  | base => exact hf
  | step i x _ hx ih => exact hc i (by omega) x hx
theorem rnds_closed (k : Nat) : Closed cal n (rnds cal n f k) ∨ k + 1 ≤ (rnds cal n f k).length := by
  induction k with
  | zero => right; simp [rnds]
  | succ k ih =>
    rcases ih with ih | ih
    · left
      rw [rnds, closed_same (rnds_asc k) ih n (Nat.le_refl _)]; exact ih
    · obtain ⟨h1, h2⟩ := asc_sub (rnds_asc (cal := cal) (n := n) (f := f) k) (rnds_asc (k + 1)) (fun x hx => rndTo_le (i := 0) (Nat.zero_le _) hx)
      by_cases hl : (rnds cal n f (k + 1)).length ≤ (rnds cal n f k).length
      · left
        have e := h2 hl
        intro i hi hm x hx
        rw [← e] at hm
        exact rndTo_cal hi hm hx
      · right; omega
theorem reachL_closed (hf : 0 ≤ f ∧ f < (n : Int)) (hc : ∀ i, i < n → ∀ x, x ∈ cal i → 0 ≤ x ∧ x < (n : Int)) : Closed cal n (reachL cal n f) := by
  rcases rnds_closed n with h | h
  · exact h
  · have := asc_len (rnds_asc n) (fun x hx => rch_range hf hc (rnds_rch (cal := cal) (n := n) n x hx))
    omega
theorem reachL_mem (hf : 0 ≤ f ∧ f < (n : Int)) (hc : ∀ i, i < n → ∀ x, x ∈ cal i → 0 ≤ x ∧ x < (n : Int)) (x : Int) : x ∈ reachL cal n f ↔ Rch cal f x := by
  refine ⟨rnds_rch n x, fun h => ?_⟩
  induction h with
  | base => exact rnds_has n
  | step i x h hx ih =>
    have := rch_range hf hc h
    exact reachL_closed hf hc i (by omega) ih x hx
theorem reachL_asc : Asc (reachL cal n f) := rnds_asc n
theorem reachL_len (hf : 0 ≤ f ∧ f < (n : Int)) (hc : ∀ i, i < n → ∀ x, x ∈ cal i → 0 ≤ x ∧ x < (n : Int)) : (reachL cal n f).length ≤ n :=
  asc_len reachL_asc (fun x hx => rch_range hf hc ((reachL_mem hf hc x).1 hx))
theorem rnds_len (hf : 0 ≤ f ∧ f < (n : Int)) (hc : ∀ i, i < n → ∀ x, x ∈ cal i → 0 ≤ x ∧ x < (n : Int)) (k : Nat) : (rnds cal n f k).length ≤ n :=
  asc_len (rnds_asc k) (fun x hx => rch_range hf hc (rnds_rch k x hx))
theorem rndTo_len (hf : 0 ≤ f ∧ f < (n : Int)) (hc : ∀ i, i < n → ∀ x, x ∈ cal i → 0 ≤ x ∧ x < (n : Int)) (k i : Nat) : (rndTo cal (rnds cal n f k) i).length ≤ n :=
  asc_len (rndTo_asc (rnds_asc k) i) (fun x hx => rch_range hf hc (rndTo_rch (rnds_rch k) i x hx))
end

/-- How many are not marked. -/
def unm : List Bool → Nat
  | [] => 0
  | b :: bs => (if b = true then 0 else 1) + unm bs
theorem unm_set : ∀ {bs : List Bool} {i : Nat}, i < bs.length → bAtL bs i = false → unm (bs.set i true) + 1 = unm bs
  | [], i, h, _ => by simp at h
  | b :: bs, 0, _, hb => by
    have : b = false := by simpa [bAtL] using hb
    subst this
    simp [unm]; omega
  | b :: bs, i + 1, h, hb => by
    have := unm_set (bs := bs) (i := i) (by simpa using h) (by simpa [bAtL] using hb)
    simp only [List.set_cons_succ, unm]; omega
theorem bAtL_set {bs : List Bool} {i j : Nat} (hi : i < bs.length) : bAtL (bs.set i true) j = (decide (i = j) || bAtL bs j) := by
  by_cases e : i = j
  · subst e
    rw [bAtL_eq (by simpa using hi)]; simp
  · simp [bAtL, e]

/-- What holds when the program looks at its list of work; `done`: callees of `cur` that were looked at. -/
structure WorkI (cal : Nat → List Int) (n : Nat) (f : Int) (bs : List Bool) (wk : List Int) : Prop where
  len : bs.length = n
  has : bAtL bs f.toNat = true
  rch : ∀ i, i < n → bAtL bs i = true → Rch cal f i
  work : ∀ x, x ∈ wk → 0 ≤ x ∧ x < (n : Int) ∧ bAtL bs x.toNat = true
  closed : ∀ i : Nat, i < n → bAtL bs i = true → (i : Int) ∈ wk ∨ ∀ x, x ∈ cal i → bAtL bs x.toNat = true
section
variable {cal : Nat → List Int} {n : Nat} {f : Int} {bs : List Bool} {wk : List Int}
theorem WorkI.start (hf : 0 ≤ f ∧ f < (n : Int)) : WorkI cal n f ((List.replicate n false).set f.toNat true) [f] := by
  have hl : f.toNat < (List.replicate n false).length := by simp; omega
  have h0 : ∀ j, bAtL (List.replicate n false) j = false := fun j => by
    by_cases h : j < n
    · simp [bAtL, h]
    · simp [bAtL, h]
  refine ⟨by simp, by rw [bAtL_set hl]; simp, fun i hi hb => ?_, fun x hx => ?_, fun i hi hb => ?_⟩
  · rw [bAtL_set hl, h0] at hb
    have : f.toNat = i := by simpa using hb
    have e : (i : Int) = f := by omega
    rw [e]; exact .base
  · rw [List.mem_singleton] at hx
    subst hx
    exact ⟨hf.1, hf.2, by rw [bAtL_set hl]; simp⟩
  · rw [bAtL_set hl, h0] at hb
    have : f.toNat = i := by simpa using hb
    left
    rw [List.mem_singleton]; omega
/-- One callee that is marked goes to the end. -/
theorem WorkI.push (h : WorkI cal n f bs wk) {i : Nat} (hi : i < n) (hb : bAtL bs i = true) {x : Int} (hx : x ∈ cal i) (hr : 0 ≤ x ∧ x < (n : Int)) : WorkI cal n f (bs.set x.toNat true) (wk ++ [x]) := by
  have hl : x.toNat < bs.length := by rw [h.len]; omega
  have mono : ∀ j, bAtL bs j = true → bAtL (bs.set x.toNat true) j = true := fun j hj => by rw [bAtL_set hl, hj]; simp
  refine ⟨by rw [List.length_set]; exact h.len, mono _ h.has, fun j hj hbj => ?_, fun y hy => ?_, fun j hj hbj => ?_⟩
  · rw [bAtL_set hl] at hbj
    simp only [Bool.or_eq_true, decide_eq_true_eq] at hbj
    rcases hbj with e | e
    · have e2 : (j : Int) = x := by omega
      rw [e2]; exact .step i x (h.rch i hi hb) hx
    · exact h.rch j hj e
  · rcases List.mem_append.1 hy with hy | hy
    · obtain ⟨h1, h2, h3⟩ := h.work y hy
      exact ⟨h1, h2, mono _ h3⟩
    · rw [List.mem_singleton] at hy
      subst hy
      exact ⟨hr.1, hr.2, by rw [bAtL_set hl]; simp⟩
  · rw [bAtL_set hl] at hbj
    simp only [Bool.or_eq_true, decide_eq_true_eq] at hbj
    rcases hbj with e | e
    · left
      rw [List.mem_append, List.mem_singleton]
      right; omega
    · rcases h.closed j hj e with h1 | h1
      · left; rw [List.mem_append]; exact .inl h1
      · right; exact fun y hy => mono _ (h1 y hy)
/-- The first of the work is done. -/
theorem WorkI.pop {x : Int} {wk : List Int} (h : WorkI cal n f bs (x :: wk)) (hd : ∀ y, y ∈ cal x.toNat → bAtL bs y.toNat = true) : WorkI cal n f bs wk := by
  refine ⟨h.len, h.has, h.rch, fun y hy => h.work y (by simp [hy]), fun j hj hb => ?_⟩
  rcases h.closed j hj hb with h1 | h1
  · rcases List.mem_cons.1 h1 with e | e
    · right
      have : x.toNat = j := by omega
      rw [this] at hd; exact hd
    · exact .inl e
  · exact .inr h1
theorem WorkI.done (h : WorkI cal n f bs []) (hf : 0 ≤ f ∧ f < (n : Int)) (hc : ∀ i, i < n → ∀ x, x ∈ cal i → 0 ≤ x ∧ x < (n : Int)) : idxL bs = reachL cal n f := by
  refine asc_ext (idxL_asc _) reachL_asc (fun x => ?_)
  rw [idxL_mem, reachL_mem hf hc]
  constructor
  · rintro ⟨i, hi, rfl, hb⟩
    exact h.rch i (by have := h.len; omega) hb
  · intro hr
    have key : bAtL bs x.toNat = true := by
      induction hr with
      | base => exact h.has
      | step i x hr hx ih =>
        have hi := rch_range hf hc hr
        rcases h.closed i (by omega) (by simpa using ih) with h1 | h1
        · simp at h1
        · exact h1 x hx
    have hx := rch_range hf hc hr
    exact ⟨x.toNat, by have := h.len; omega, by omega, key⟩
end
end Go.Proofs.Ytaeddcnakilnlaa
