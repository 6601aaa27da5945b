/- The functions that an expression names, plain: by insertion, and by marks; and that what has a type names functions that there are. -/
import Derived.Test.YtmekdccgjgfiaaaQBK
import Derived.Test.YtmekdccgjgfiaaaQAY
import Derived.Test.YtmekdccgjgfiaaaQAF
import Derived.Test.YtmekdccgjgfiaaaQBB
import Derived.Test.YtmekdccgjgfiaaaQBF
import Derived.Test.YtmekdccgjgfiaaaQBG
import Derived.Deep.RegionHeld3
import Derived.Test.YtmekdccgjgfiaaaQBH
import Derived.Test.YtmekdccgjgfiaaaQBJ
namespace Go.Proofs.Ytmekdccgjgfiaaa
open Go.RowKit

theorem allEs_mk {P : Int → Int → Prop} {es : List ExprL} (h : ∀ j, j < es.length → allE P (eAt es j)) : allEs P es := by
  induction es with
  | nil => trivial
  | cons e es ih => exact ⟨h 0 (by simp), ih (fun j hj => by have := h (j + 1) (by simpa using hj); simpa [eAt] using this)⟩

/-- A node names a function. -/
def isCal (op : Int) : Bool := decide (op = 9) || decide (op = 10)
/-- The reference's visits: insertion. -/
def cvis (op num : Int) (s : List Int) : List Int := if isCal op then insL s num else s
/-- The program's visits: a mark is set. -/
def bvis (op num : Int) (s : List Bool) : List Bool := if isCal op then s.set num.toNat true else s
def calL (e : ExprL) : List Int := visE cvis e []
/-- A node that names a function names one of n. -/
def calIn (n : Nat) (op num : Int) : Prop := isCal op = true → 0 ≤ num ∧ num < (n : Int)

theorem cvis_len1 (op num : Int) (s : List Int) : (cvis op num s).length ≤ s.length + 1 := by
  unfold cvis; split
  · exact insL_len s num
  · omega
mutual
theorem cvisE_len : ∀ (e : ExprL) (s : List Int), (visE cvis e s).length ≤ s.length + nE e
  | .mk op num ks, s => by
    have h := cvisEs_len ks (cvis op num s)
    have h1 := cvis_len1 op num s
    simp only [visE, nE]; omega
theorem cvisEs_len : ∀ (es : List ExprL) (s : List Int), (visEs cvis es s).length ≤ s.length + nEs es
  | [], s => by simp [visEs]
  | e :: es, s => by
    have h1 := cvisE_len e s
    have h2 := cvisEs_len es (visE cvis e s)
    simp only [visEs, nEs]; omega
end
theorem bvis_len (op num : Int) (s : List Bool) : (bvis op num s).length = s.length := by unfold bvis; split <;> simp
mutual
theorem bvisE_len : ∀ (e : ExprL) (s : List Bool), (visE bvis e s).length = s.length
  | .mk op num ks, s => by rw [visE, bvisEs_len ks, bvis_len]
theorem bvisEs_len : ∀ (es : List ExprL) (s : List Bool), (visEs bvis es s).length = s.length
  | [], s => rfl
  | e :: es, s => by rw [visEs, bvisEs_len es, bvisE_len e]
end
theorem idxL_set {s : List Bool} {x : Int} (h0 : 0 ≤ x) (h1 : x < (s.length : Int)) : idxL (s.set x.toNat true) = insL (idxL s) x := by
  refine asc_ext (idxL_asc _) (insL_asc (idxL_asc _)) (fun y => ?_)
  rw [idxL_mem, insL_mem, idxL_mem]
  constructor
  · rintro ⟨i, hi, rfl, hb⟩
    rw [List.length_set] at hi
    by_cases e : x.toNat = i
    · left; omega
    · right
      refine ⟨i, hi, rfl, ?_⟩
      simpa [bAtL, List.getElem?_set, e] using hb
  · rintro (rfl | ⟨i, hi, rfl, hb⟩)
    · refine ⟨y.toNat, by rw [List.length_set]; omega, by omega, ?_⟩
      rw [bAtL_eq (by rw [List.length_set]; omega)]
      simp
    · refine ⟨i, by rw [List.length_set]; exact hi, rfl, ?_⟩
      by_cases e : x.toNat = i
      · subst e
        rw [bAtL_eq (by rw [List.length_set]; exact hi)]
        simp
      · simpa [bAtL, List.getElem?_set, e] using hb
theorem bAtL_setN {bs : List Bool} {i j : Nat} (hi : i < bs.length) : bAtL (bs.set i true) j = (decide (i = j) || bAtL bs j) := by
  by_cases e : i = j
  · subst e
    rw [bAtL_eq (by simpa using hi)]; simp
  · simp [bAtL, e]
theorem idxL_bvis {op num : Int} {s : List Bool} (h : calIn s.length op num) : idxL (bvis op num s) = cvis op num (idxL s) := by
  unfold bvis cvis
  split
  · next hc => exact idxL_set (h hc).1 (h hc).2
  · rfl
mutual
theorem idxL_visE : ∀ (e : ExprL) (s : List Bool), allE (calIn s.length) e → idxL (visE bvis e s) = visE cvis e (idxL s)
  | .mk op num ks, s, h => by
    obtain ⟨h1, h2⟩ := h
    rw [visE, visE, ← idxL_bvis h1]
    exact idxL_visEs ks _ (by rw [bvis_len]; exact h2)
theorem idxL_visEs : ∀ (es : List ExprL) (s : List Bool), allEs (calIn s.length) es → idxL (visEs bvis es s) = visEs cvis es (idxL s)
  | [], s, _ => rfl
  | e :: es, s, h => by
    obtain ⟨h1, h2⟩ := h
    rw [visEs, visEs, ← idxL_visE e s h1]
    exact idxL_visEs es _ (by rw [bvisE_len]; exact h2)
end
theorem idxFrom_none (k n : Nat) : idxFrom k (List.replicate n false) = [] := by
  induction n generalizing k with
  | zero => rfl
  | succ n ih => rw [List.replicate_succ, idxFrom, if_neg (by simp)]; exact ih _
theorem idxL_none (n : Nat) : idxL (List.replicate n false) = [] := idxFrom_none 0 n
/-- What the program marks are the reference's. -/
theorem calL_marks {n : Nat} {e : ExprL} (h : allE (calIn n) e) : idxL (visE bvis e (List.replicate n false)) = calL e := by
  rw [idxL_visE e _ (by rw [List.length_replicate]; exact h), idxL_none, calL]
theorem calL_len (e : ExprL) : (calL e).length ≤ nE e := by have := cvisE_len e []; rw [calL]; simpa using this

theorem calL_range {n : Nat} {e : ExprL} (h : allE (calIn n) e) {x : Int} (hx : x ∈ calL e) : 0 ≤ x ∧ x < (n : Int) := by
  rw [← calL_marks h, idxL_mem] at hx
  obtain ⟨i, hi, rfl, _⟩ := hx
  rw [bvisE_len, List.length_replicate] at hi
  omega
theorem calL_asc {n : Nat} {e : ExprL} (h : allE (calIn n) e) : Asc (calL e) := by rw [← calL_marks h]; exact idxL_asc _

section
variable {ds : List DeclL} {sg : List SigL} (hok : sigsOk ds sg = true)
include hok
theorem simple_kids {op num : Int} {tys : List Int} (h : 0 ≤ simpleL ds sg op num tys) : calIn sg.length op num ∧ ∀ i, i < tys.length → 0 ≤ iAt tys i := by
  obtain ⟨ht, _, _, hs⟩ := sigsOk_parts hok
  unfold simpleL at h
  have no : ∀ {o : Int}, o ≠ 9 → o ≠ 10 → calIn sg.length o num := fun h1 h2 hc => absurd hc (by simp [isCal, h1, h2])
  split at h
  · next e =>
    subst e
    split at h
    · next h1 => exact ⟨no (by omega) (by omega), fun i hi => by rw [h1.1] at hi; simp at hi⟩
    · omega
  split at h
  · next e =>
    split at h
    · next h1 =>
      refine ⟨no (by omega) (by omega), fun i hi => ?_⟩
      rw [h1.2] at hi ⊢
      rcases (show i = 0 ∨ i = 1 by simp at hi; omega) with rfl | rfl <;> simp [iAt]
    · omega
  split at h
  · next e =>
    split at h
    · next h1 =>
      refine ⟨no (by omega) (by omega), fun i hi => ?_⟩
      rw [h1.2] at hi ⊢
      rcases (show i = 0 by simp at hi; omega) with rfl; simp [iAt]
    · omega
  split at h
  · next e =>
    split at h
    · next h1 =>
      obtain ⟨_, h2, h3, h4⟩ := h1
      obtain ⟨q1, q2, q3⟩ := isArr_parts h3
      have := isT_iff.1 (declOk_arrow (typesOk_decl ht (by omega)) q3).1
      refine ⟨no (by omega) (by omega), fun i hi => ?_⟩
      rcases (show i = 0 ∨ i = 1 by omega) with rfl | rfl <;> omega
    · omega
  split at h
  · next e =>
    split at h
    · next h1 =>
      refine ⟨no (by omega) (by omega), fun i hi => ?_⟩
      rw [h1.2] at hi ⊢
      exact (allT_at (conFieldsL_ok ht num).2 hi).1
    · omega
  split at h
  · next e =>
    split at h
    · next h1 =>
      refine ⟨fun _ => ⟨h1.1, h1.2.1⟩, fun i hi => ?_⟩
      rw [h1.2.2] at hi ⊢
      exact (allT_at (sigOk_parts (hs _ (by omega))).2.1 hi).1
    · omega
  split at h
  · next e =>
    split at h
    · next h1 =>
      refine ⟨fun _ => ⟨h1.1, h1.2.1⟩, fun i hi => ?_⟩
      obtain ⟨_, h2, h3, h4⟩ := h1
      rw [h4] at hi ⊢
      rw [List.length_take] at hi
      have e2 : iAt (List.take ((sgAt sg num.toNat).params.length - 1) (sgAt sg num.toNat).params) i = iAt (sgAt sg num.toNat).params i := by
        rw [iAt_get (by rw [List.length_take]; exact hi), iAt_get (by omega)]; simp
      rw [e2]
      exact (allT_at (sigOk_parts (hs _ (by omega))).2.1 (by omega)).1
    · omega
  · omega
omit hok in
theorem oneT_all {ts : List Int} (h : 0 ≤ oneT ts) {i : Nat} (hi : i < ts.length) : 0 ≤ iAt ts i := by
  by_cases h1 : iAt ts i < 0
  · rw [oneT_neg hi (.inr h1)] at h; omega
  · omega
theorem tyE_cal_n (N : Nat) : ∀ (e : ExprL), nE e < N → ∀ vars, 0 ≤ tyE ds sg vars e → allE (calIn sg.length) e := by
  induction N with
  | zero => intro e h; omega
  | succ N ih =>
  intro e hN vars h
  obtain ⟨op, num, ks⟩ := e
  have hk : ∀ j, j < ks.length → nE (eAt ks j) < N := fun j hj => by have := nE_le ks hj; rw [nE] at hN; omega
  have no : op ≠ 9 → op ≠ 10 → calIn sg.length op num := fun h1 h2 hc => absurd hc (by simp [isCal, h1, h2])
  rw [tyE] at h
  split at h
  · next e =>
    split at h
    · next h1 => exact ⟨no (by omega) (by omega), allEs_mk (fun j hj => by omega)⟩
    · omega
  split at h
  · next e =>
    split at h
    · next h1 =>
      rw [tyLet_at ds sg vars h1.2] at h
      split at h
      · next h0 =>
        refine ⟨no (by omega) (by omega), allEs_mk (fun j hj => ?_)⟩
        rcases (show j = 0 ∨ j = 1 by omega) with rfl | rfl
        · exact ih _ (hk 0 hj) _ h0
        · exact ih _ (hk 1 hj) _ h
      · omega
    · omega
  split at h
  · next e =>
    split at h
    · next h1 =>
      refine ⟨no (by omega) (by omega), allEs_mk (fun j hj => ?_)⟩
      rcases j with _ | j
      · have := h1.2.2
        rw [tyHd_at ds sg vars (by omega)] at this
        exact ih _ (hk 0 hj) vars (by omega)
      · have := oneT_all h (i := j) (by rw [tyTl_len]; omega)
        rw [tyTl_at ds sg vars (by omega)] at this
        exact ih _ (hk _ hj) _ this
    · omega
  split at h
  · next e =>
    split at h
    · next h1 =>
      refine ⟨no (by omega) (by omega), allEs_mk (fun j hj => ?_)⟩
      rcases j with _ | j
      · have h2 := h1.2.2
        rw [tyHd_at ds sg vars (by omega)] at h2
        refine ih _ (hk 0 hj) vars ?_
        rw [h2]
        refine Decidable.byContradiction fun hn => ?_
        have := h1.1
        rw [armsL, List.length_map, consL, if_neg (by omega)] at this
        simp at this
      · have := oneT_all h (i := j) (by rw [tyTl_len]; omega)
        rw [tyTl_at ds sg vars (by omega)] at this
        exact ih _ (hk _ hj) _ this
    · omega
  · obtain ⟨h1, h2⟩ := simple_kids hok h
    refine ⟨h1, allEs_mk (fun j hj => ?_)⟩
    have := h2 j (by rw [tyEs_len]; exact hj)
    rw [tyEs_at ds sg vars hj] at this
    exact ih _ (hk j hj) vars this
theorem tyE_cal {e : ExprL} {vars : List Int} (h : 0 ≤ tyE ds sg vars e) : allE (calIn sg.length) e := tyE_cal_n hok _ e (Nat.lt_succ_self _) vars h
end
end Go.Proofs.Ytmekdccgjgfiaaa
/- Valid programs, plain. -/
namespace Go.Proofs.Ytmekdccgjgfiaaa
open Go.RowKit

/-- All numbers in the bodies are in range. -/
def fitP (fs : List FuncL) : Prop := ∀ i, i < fs.length → allE fitN (fAt fs i).body
def bodyOk (ds : List DeclL) (fs : List FuncL) (i : Nat) : Bool := decide (typeTop ds fs (fAt fs i).params (fAt fs i).body = (fAt fs i).result)
/-- A program is valid. -/
def progOk (ds : List DeclL) (fs : List FuncL) : Bool := sigsOk ds (fs.map sigF) && (List.range fs.length).all (bodyOk ds fs)

section
variable {ds : List DeclL} {fs : List FuncL}
theorem progOk_sigs (h : sigsOk ds (fs.map sigF) = false) : progOk ds fs = false := by simp [progOk, h]
theorem progOk_at {i : Nat} (hi : i < fs.length) (h : bodyOk ds fs i = false) : progOk ds fs = false := by
  have e : (List.range fs.length).all (bodyOk ds fs) = false := nAll_false hi h
  simp only [progOk, e, Bool.and_false]
theorem progOk_yes (h1 : sigsOk ds (fs.map sigF) = true) (h : ∀ i, i < fs.length → bodyOk ds fs i = true) : progOk ds fs = true := by
  have e : (List.range fs.length).all (bodyOk ds fs) = true := nAll.2 h
  simp only [progOk, e, h1, Bool.and_self]
theorem progOk_parts (h : progOk ds fs = true) : sigsOk ds (fs.map sigF) = true ∧ ∀ i, i < fs.length → bodyOk ds fs i = true := by
  simp only [progOk, Bool.and_eq_true] at h
  exact ⟨h.1, nAll.1 h.2⟩
theorem sigF_at (h : sigsOk ds (fs.map sigF) = true) {i : Nat} (hi : i < fs.length) : (fAt fs i).params.length ≤ 3 ∧ allT ds.length (fAt fs i).params = true ∧ 0 ≤ (fAt fs i).result := by
  have hs := (sigsOk_parts h).2.2.2 i (by simpa using hi)
  rw [sgAt_sigF fs hi] at hs
  obtain ⟨h1, h2, h3, _⟩ := sigOk_parts hs
  exact ⟨h1, h2, (isT_iff.1 h3).1⟩
theorem progOk_len (h : progOk ds fs = true) : 1 ≤ fs.length ∧ fs.length ≤ 4 := by
  have := sigsOk_parts (progOk_parts h).1
  exact ⟨by simpa using this.2.1, by simpa using this.2.2.1⟩
theorem bodyOk_nodes (h : sigsOk ds (fs.map sigF) = true) {i : Nat} (hi : i < fs.length) (hn : nodesL (fAt fs i).body.kids < 0) : bodyOk ds fs i = false := by
  have := (sigF_at h hi).2.2
  refine decide_eq_false fun e => ?_
  rw [typeTop, if_neg (fun h => h.2.1 hn)] at e
  omega
theorem bodyOk_ty (h : sigsOk ds (fs.map sigF) = true) {i : Nat} (hi : i < fs.length) (hn : ¬ nodesL (fAt fs i).body.kids < 0) : bodyOk ds fs i = decide (tyE ds (fs.map sigF) (fAt fs i).params (fAt fs i).body = (fAt fs i).result) := by
  rw [bodyOk, typeTop, if_pos ⟨h, hn, (sigF_at h hi).2.1⟩]
theorem bodyOk_parts (h : sigsOk ds (fs.map sigF) = true) {i : Nat} (hi : i < fs.length) (hb : bodyOk ds fs i = true) : nEs (fAt fs i).body.kids + 1 ≤ 30 ∧ tyE ds (fs.map sigF) (fAt fs i).params (fAt fs i).body = (fAt fs i).result := by
  by_cases hn : nodesL (fAt fs i).body.kids < 0
  · rw [bodyOk_nodes h hi hn] at hb; cases hb
  · rw [bodyOk_ty h hi hn] at hb
    refine ⟨Decidable.byContradiction fun hc => hn (by rw [nodesL_no hc]; omega), of_decide_eq_true hb⟩
/-- The bodies of a valid program name functions that there are. -/
theorem progOk_cal (h : progOk ds fs = true) {i : Nat} (hi : i < fs.length) : allE (calIn fs.length) (fAt fs i).body := by
  obtain ⟨h1, h2⟩ := progOk_parts h
  have := (bodyOk_parts h1 hi (h2 i hi)).2
  have h3 := (sigF_at h1 hi).2.2
  have := tyE_cal h1 (e := (fAt fs i).body) (vars := (fAt fs i).params) (by omega)
  simpa using this
end
end Go.Proofs.Ytmekdccgjgfiaaa
/- ValidNormal of both packages. -/
namespace Go.Proofs.Ytmekdccgjgfiaaa
open Go.RowKit

def normAt (ds : List DeclL) (rs : List RoutL) (i : Nat) : Bool := decide (¬ stepsL (rtAt rs i).body.steps < 0) && decide (runT ds (rs.map sigR) (rtAt rs i).body.result (rtAt rs i).params (rtAt rs i).body.steps = (rtAt rs i).result)
/-- A normal form is valid. -/
def normOk (ds : List DeclL) (rs : List RoutL) : Bool := sigsOk ds (rs.map sigR) && (List.range rs.length).all (normAt ds rs)
section
variable {ds : List DeclL} {rs : List RoutL}
theorem normOk_sigs (h : sigsOk ds (rs.map sigR) = false) : normOk ds rs = false := by simp [normOk, h]
theorem normOk_at {i : Nat} (hi : i < rs.length) (h : normAt ds rs i = false) : normOk ds rs = false := by
  have e : (List.range rs.length).all (normAt ds rs) = false := nAll_false hi h
  simp only [normOk, e, Bool.and_false]
theorem normOk_yes (h1 : sigsOk ds (rs.map sigR) = true) (h : ∀ i, i < rs.length → normAt ds rs i = true) : normOk ds rs = true := by
  have e : (List.range rs.length).all (normAt ds rs) = true := nAll.2 h
  simp only [normOk, e, h1, Bool.and_self]
theorem normOk_parts (h : normOk ds rs = true) : sigsOk ds (rs.map sigR) = true ∧ ∀ i, i < rs.length → normAt ds rs i = true := by
  simp only [normOk, Bool.and_eq_true] at h
  exact ⟨h.1, nAll.1 h.2⟩
theorem normAt_steps {i : Nat} (h : stepsL (rtAt rs i).body.steps < 0) : normAt ds rs i = false := by
  rw [normAt, decide_eq_false (fun hc => hc h), Bool.false_and]
theorem normAt_ty {i : Nat} (h : ¬ stepsL (rtAt rs i).body.steps < 0) : normAt ds rs i = decide (runT ds (rs.map sigR) (rtAt rs i).body.result (rtAt rs i).params (rtAt rs i).body.steps = (rtAt rs i).result) := by
  rw [normAt, decide_eq_true h, Bool.true_and]
theorem sigR_at (h : sigsOk ds (rs.map sigR) = true) {i : Nat} (hi : i < rs.length) : (rtAt rs i).params.length ≤ 3 ∧ allT ds.length (rtAt rs i).params = true ∧ 0 ≤ (rtAt rs i).result := by
  have hs := (sigsOk_parts h).2.2.2 i (by simpa using hi)
  rw [sgAt_sigR rs hi] at hs
  obtain ⟨h1, h2, h3, _⟩ := sigOk_parts hs
  exact ⟨h1, h2, (isT_iff.1 h3).1⟩
end

set_option maxRecDepth 100000 in
set_option maxHeartbeats 1500000 in
theorem specValidNormal0 (ds : List DeclL) (rs : List RoutL) (a0 : Option Addr) (n0 c0 : Nat) (a1 : Option Addr) (n1 c1 : Nat) (D0 D1 : Nat → Prop) (w : World) (r0 : Rd w D0 (encDecls ds) (.slice a0 n0 c0)) (r1 : Rd w D1 (encRouts rs) (.slice a1 n1 c1)) :
    Calls Try.prog 34 #[.agg #[.slice a0 n0 c0, .slice a1 n1 c1]] w fun e w' => e = .returned (.bool (normOk ds rs)) ∧ Keep w w' := by
  refine calls_k fun Q hQ => ?_
  have K0 := Keep.al w (.cells #[.slice a0 n0 c0, .slice a1 n1 c1] 36)
  have R0a := Lib.hid (rowOf w #[.slice a0 n0 c0, .slice a1 n1 c1] 36)
  obtain ⟨e1, hnc, hm, hat⟩ := routs_at r1.t
  have HL := Lib.hid e1
  have HA := Lib.hid hat
  have HD0 := Lib.hid r0.t
  have HR0 := Lib.hid r1.t
  have KW := Lib.hid K0
  clear K0 r0 r1 e1 hat
  go_enter Try.func34, Try.ntmps34
  go_upto_region 1 with fail
  have QD := Lib.hid (HD0.out.k KW.out)
  have QR := Lib.hid (HR0.out.k KW.out)
  generalize hW : w.alloc (.cells #[.slice a0 n0 c0, .slice a1 n1 c1] 36) = W at *
  clear hW
  have x0 := R0a.out.cell (i := 0) (by simp)
  have x1 := R0a.out.cell (i := 1) (by simp)
  simp at x0 x1
  cases hs : sigsOk ds (rs.map sigR)
  · have V : Hid (normOk ds rs = false) := normOk_sigs hs
    go_wp2_with fail
    refine (specValidNormalSigs ds rs _ _ _ _ _ _ _ _ _ QD.out QR.out).mono ?_
    rw [hs]
    rintro e w2 ⟨rfl, kk⟩
    replace KW := Lib.hid (KW.out.trans kk)
    clear hs kk x0 x1
    go_wp2_with fail
    exact fin_ hQ ⟨ret_b V.out.symm, KW.out⟩
  have V1 := Lib.hid hs
  go_wp2_with fail
  refine (specValidNormalSigs ds rs _ _ _ _ _ _ _ _ _ QD.out QR.out).mono ?_
  rw [hs]
  rintro e w2 ⟨rfl, kk⟩
  replace KW := Lib.hid (KW.out.trans kk)
  replace R0a := Lib.hid (row_ext R0a.out kk (fun h => h))
  clear hs kk x0 x1 QD QR
  go_wp2_with fail
  go_loopw [3] (fun iv wr => ∃ j : Nat, j ≤ n1 ∧ iv = .int .i64 j ∧ Hid (∀ l, l < j → normAt ds rs l = true) ∧ Hid (Keep w wr) ∧ Hid (wr.rowIs w.heap.size 36 2 (fun i => (#[.slice a0 n0 c0, .slice a1 n1 c1] : Array Value).getD i undef))) (fun i _ => n1 - (intOf i).toNat)
  case atStart => exact ⟨0, Nat.zero_le _, rfl, fun j hj => absurd hj (by omega), KW.out, R0a.out⟩
  case round =>
    obtain ⟨wo, rfl⟩ : ∃ wo : World, wo = wr := ⟨_, rfl⟩
    obtain ⟨j, hj, rfl, H, KX, R0x⟩ := hrel
    have x0 := R0x.out.cell (i := 0) (by simp)
    have x1 := R0x.out.cell (i := 1) (by simp)
    simp at x0 x1
    by_cases hlt : j < n1
    case neg =>
      have V : Hid (normOk ds rs = true) := normOk_yes V1.out (fun i hi => H.out i (by have := HL.out; omega))
      go_wp2_with fail
      exact fin_ hQ ⟨ret_b V.out.symm, KX.out⟩
    have HJ : Hid (j < rs.length) := by have := HL.out; show _ < _; omega
    obtain ⟨b, o, rfl, _, a5, n5, c5, a6, n6, c6, a3, n3, c3, d0, d1, d2, d3, d4, r3, _, r4⟩ := HA.out j hlt
    have g0 := KX.out.cq d0 (fun h => h)
    have g1 := KX.out.cq d1 (fun h => h)
    have g2 := KX.out.cq d2 (fun h => h)
    have g3 := KX.out.cq d3 (fun h => h)
    have g4 := KX.out.cq d4 (fun h => h)
    have PT := sigR_at V1.out HJ.out
    have AT := Lib.hid PT.2.1
    have PL := Lib.hid PT.1
    have KB := Keep.al wo (.cells #[.slice a5 n5 c5, .slice a6 n6 c6, .int .i64 (rtAt rs j).result, .slice a3 n3 c3, .int .i64 (rtAt rs j).body.result] 67)
    have KY := Lib.hid (KX.out.trans KB)
    have QP := Lib.hid (r3.k KY.out).kd
    have QB := Lib.hid (r4.k KY.out).kd
    have QN := Lib.hid (NR.kd ⟨HD0.out.k KY.out, HR0.out.k KY.out⟩)
    have R0y := Lib.hid (row_ext R0x.out KB (fun h => h))
    have RBy := Lib.hid (rowOf wo #[.slice a5 n5 c5, .slice a6 n6 c6, .int .i64 (rtAt rs j).result, .slice a3 n3 c3, .int .i64 (rtAt rs j).body.result] 67)
    clear d0 d1 d2 d3 d4 r3 r4 PT
    obtain ⟨N, hN⟩ : ∃ N, stepsL (rtAt rs j).body.steps = N := ⟨_, rfl⟩
    have HN := Lib.hid hN
    clear hN
    go_upto_region 7 with fail
    generalize hW : wo.alloc (.cells #[.slice a5 n5 c5, .slice a6 n6 c6, .int .i64 (rtAt rs j).result, .slice a3 n3 c3, .int .i64 (rtAt rs j).body.result] 67) = W at *
    clear hW x0 x1 g0 g1 g2 g3 g4
    generalize hs4 : wo.heap.size = s4 at *
    clear hs4 KB
    have x0 := R0y.out.cell (i := 0) (by simp)
    have x1 := R0y.out.cell (i := 1) (by simp)
    simp at x0 x1
    have y0 := RBy.out.cell (i := 0) (by simp)
    have y1 := RBy.out.cell (i := 1) (by simp)
    have y2 := RBy.out.cell (i := 2) (by simp)
    have y3 := RBy.out.cell (i := 3) (by simp)
    have y4 := RBy.out.cell (i := 4) (by simp)
    simp at y0 y1 y2 y3 y4
    have pc := Ext.refl0 W
    by_cases hn : N < 0
    · have HN1 : Hid (stepsL (rtAt rs j).body.steps = -1) := by
        show _ = _
        refine stepsL_no (fun hc => ?_)
        have h2 := HN.out
        rw [stepsL_yes hc] at h2
        omega
      have V : Hid (normOk ds rs = false) := normOk_at HJ.out (normAt_steps (by rw [HN.out]; exact hn))
      clear hn
      refine wp_region_held_drew (S := fun w' => w'.cell? ⟨s4, 0, none⟩ = some (.slice a5 n5 c5) ∧ w'.cell? ⟨s4, 1, none⟩ = some (.slice a6 n6 c6) ∧ w'.cell? ⟨s4, 2, none⟩ = some (.int .i64 (rtAt rs j).result) ∧ w'.cell? ⟨s4, 3, none⟩ = some (.slice a3 n3 c3) ∧ w'.cell? ⟨s4, 4, none⟩ = some (.int .i64 (rtAt rs j).body.result) ∧ w'.cell? ⟨w.heap.size, 0, none⟩ = some (.slice a0 n0 c0) ∧ w'.cell? ⟨w.heap.size, 1, none⟩ = some (.slice (some ⟨b, o, none⟩) n1 c1)) (by kernel_rfl) ⟨Keep.at pc y0, Keep.at pc y1, Keep.at pc y2, Keep.at pc y3, Keep.at pc y4, Keep.at pc x0, Keep.at pc x1⟩ (fun hHeld => ?_)
      refine wT 0 hHeld ?_
      try go_frame
      refine wT 1 hHeld ?_
      try go_frame
      refine wO 2 (fun K hK => ?_)
      go_simp
      refine (specStepsOf0 (rtAt rs j).body.steps _ _ _ _ _ _ (QB.out.k pc)).mono ?_
      rw [HN1.out]
      rintro e w3 ⟨rfl, p3⟩
      replace pc := Ext.trans pc p3
      refine hK.out _ _ ⟨Keep.at pc y0, Keep.at pc y1, Keep.at pc y2, Keep.at pc y3, Keep.at pc y4, Keep.at pc x0, Keep.at pc x1⟩ (fun hHeld => ?_)
      clear hK K
      try go_frame
      refine wT 3 hHeld ?_
      try go_frame
      refine wT 4 hHeld ?_
      try go_frame
      refine wS 5 hHeld ?_
      try go_frame
      refine wS 6 hHeld ?_
      try go_frame
      refine wS 7 hHeld ?_
      try go_frame
      refine wS 8 hHeld ?_
      try go_frame
      refine wS 9 hHeld ?_
      try go_frame
      refine wS 10 hHeld ?_
      try go_frame
      refine wS 11 hHeld ?_
      try go_frame
      refine wS 12 hHeld ?_
      try go_frame
      refine wS 13 hHeld ?_
      try go_frame
      refine wT 14 hHeld ?_
      try go_frame
      refine wpAnyH_done (by kernel_rfl) ?_ _
      go_wp2_with fail
      exact fin_ hQ ⟨ret_b V.out.symm, KY.out.trans (Keep.dt pc)⟩
    have NN : Hid (normAt ds rs j = decide (runT ds (rs.map sigR) (rtAt rs j).body.result (rtAt rs j).params (rtAt rs j).body.steps = (rtAt rs j).result)) := normAt_ty (by rw [HN.out]; exact hn)
    have hn' : decide (N < 0) = false := decide_eq_false hn
    have hn0 : 0 ≤ N := by omega
    have HBD : Hid ((rtAt rs j).params.length + 4 * nSs (rtAt rs j).body.steps ≤ 1052000) := by
      show _ ≤ _
      have h1 := PL.out
      have h2 := stepsL_le (ss := (rtAt rs j).body.steps) (by rw [HN.out]; exact hn)
      omega
    obtain ⟨z, hz⟩ : ∃ z, runT ds (rs.map sigR) (rtAt rs j).body.result (rtAt rs j).params (rtAt rs j).body.steps = z := ⟨_, rfl⟩
    have HZ := Lib.hid hz
    clear hz hn
    by_cases ht : z = (rtAt rs j).result
    · have VB : Hid (normAt ds rs j = true) := by show _ = _; rw [NN.out, HZ.out]; exact decide_eq_true ht
      have ht' : (z != (rtAt rs j).result) = false := by simpa using ht
      clear ht
      go_region_held3 (fun w' => w'.cell? ⟨s4, 0, none⟩ = some (.slice a5 n5 c5) ∧ w'.cell? ⟨s4, 1, none⟩ = some (.slice a6 n6 c6) ∧ w'.cell? ⟨s4, 2, none⟩ = some (.int .i64 (rtAt rs j).result) ∧ w'.cell? ⟨s4, 3, none⟩ = some (.slice a3 n3 c3) ∧ w'.cell? ⟨s4, 4, none⟩ = some (.int .i64 (rtAt rs j).body.result) ∧ w'.cell? ⟨w.heap.size, 0, none⟩ = some (.slice a0 n0 c0) ∧ w'.cell? ⟨w.heap.size, 1, none⟩ = some (.slice (some ⟨b, o, none⟩) n1 c1))
        (first | exact ⟨Keep.at pc y0, Keep.at pc y1, Keep.at pc y2, Keep.at pc y3, Keep.at pc y4, Keep.at pc x0, Keep.at pc x1⟩ | go_keep)
        (first
          | (go_at_call 22; refine (specStepsOf0 (rtAt rs j).body.steps _ _ _ _ _ _ (QB.out.k pc)).mono ?_; rw [HN.out]; rintro e w3 ⟨rfl, p3⟩; replace pc := Ext.trans pc p3)
          | (go_at_call 23; refine (specBlk ds rs V1.out _ (rtAt rs j).body.steps _ _ _ _ _ _ _ _ _ (rtAt rs j).params _ _ _ _ (NR.k QN.out pc) (QP.out.k pc) (QB.out.k pc) HBD.out AT.out).mono ?_; rw [HZ.out]; rintro e w5 ⟨rfl, p5⟩; replace pc := Ext.trans pc p5))
      have KE := Lib.hid (KY.out.trans (Keep.dt pc))
      have R0z := Lib.hid (row_ext R0y.out (Keep.dt pc) (fun h => h))
      clear pc y0 y1 y2 y3 y4 x0 x1
      go_wp2_with fail
      go_roundw
      case rel => exact ⟨j + 1, by omega, by go_num, fun l hl => by
        rcases Nat.lt_succ_iff_lt_or_eq.1 hl with h | rfl
        · exact H.out l h
        · exact VB.out, KE.out, R0z.out⟩
      case measure => simp [intOf]; omega
    · have V : Hid (normOk ds rs = false) := normOk_at HJ.out (show normAt ds rs j = false by rw [NN.out, HZ.out]; exact decide_eq_false ht)
      have ht' : (z != (rtAt rs j).result) = true := by simpa using ht
      clear ht
      go_region_held3 (fun w' => w'.cell? ⟨s4, 0, none⟩ = some (.slice a5 n5 c5) ∧ w'.cell? ⟨s4, 1, none⟩ = some (.slice a6 n6 c6) ∧ w'.cell? ⟨s4, 2, none⟩ = some (.int .i64 (rtAt rs j).result) ∧ w'.cell? ⟨s4, 3, none⟩ = some (.slice a3 n3 c3) ∧ w'.cell? ⟨s4, 4, none⟩ = some (.int .i64 (rtAt rs j).body.result) ∧ w'.cell? ⟨w.heap.size, 0, none⟩ = some (.slice a0 n0 c0) ∧ w'.cell? ⟨w.heap.size, 1, none⟩ = some (.slice (some ⟨b, o, none⟩) n1 c1))
        (first | exact ⟨Keep.at pc y0, Keep.at pc y1, Keep.at pc y2, Keep.at pc y3, Keep.at pc y4, Keep.at pc x0, Keep.at pc x1⟩ | go_keep)
        (first
          | (go_at_call 22; refine (specStepsOf0 (rtAt rs j).body.steps _ _ _ _ _ _ (QB.out.k pc)).mono ?_; rw [HN.out]; rintro e w3 ⟨rfl, p3⟩; replace pc := Ext.trans pc p3)
          | (go_at_call 23; refine (specBlk ds rs V1.out _ (rtAt rs j).body.steps _ _ _ _ _ _ _ _ _ (rtAt rs j).params _ _ _ _ (NR.k QN.out pc) (QP.out.k pc) (QB.out.k pc) HBD.out AT.out).mono ?_; rw [HZ.out]; rintro e w5 ⟨rfl, p5⟩; replace pc := Ext.trans pc p5))
      go_wp2_with fail
      exact fin_ hQ ⟨ret_b V.out.symm, KY.out.trans (Keep.dt pc)⟩

theorem specValidNormal (ds : List DeclL) (rs : List RoutL) (a0 : Option Addr) (n0 c0 : Nat) (a1 : Option Addr) (n1 c1 : Nat) (D0 D1 : Nat → Prop) (w : World) (r0 : Rd w D0 (encDecls ds) (.slice a0 n0 c0)) (r1 : Rd w D1 (encRouts rs) (.slice a1 n1 c1)) :
    Calls Try.prog 15 #[.agg #[.slice a0 n0 c0, .slice a1 n1 c1]] w fun e w' => e = .returned (.bool (normOk ds rs)) ∧ Keep w w' := by
  refine calls_k fun Q hQ => ?_
  have K0 := Keep.al w (.cells #[.slice a0 n0 c0, .slice a1 n1 c1] 36)
  go_enter Try.func15, Try.ntmps15
  go_wp2_with fail
  refine (specValidNormal0 _ _ _ _ _ _ _ _ _ _ _ (r0.k K0) (r1.k K0)).mono ?_
  rintro e w1 ⟨rfl, p1⟩
  go_wp2_with fail
  exact fin_ hQ ⟨rfl, K0.trans p1⟩

set_option maxRecDepth 100000 in
set_option maxHeartbeats 1500000 in
theorem implValidNormal (ds : List DeclL) (rs : List RoutL) (a0 : Option Addr) (n0 c0 : Nat) (a1 : Option Addr) (n1 c1 : Nat) (D0 D1 : Nat → Prop) (w : World) (r0 : Rd w D0 (encDecls ds) (.slice a0 n0 c0)) (r1 : Rd w D1 (encRouts rs) (.slice a1 n1 c1)) (ho : okRs rs) :
    Calls Try.prog 16 #[.agg #[.slice a0 n0 c0, .slice a1 n1 c1]] w fun e w' => e = .returned (.bool (normOk ds rs)) ∧ Keep w w' := by
  have HFT := Lib.hid ho
  clear ho
  refine calls_k fun Q hQ => ?_
  have K0 := Keep.al w (.cells #[.slice a0 n0 c0, .slice a1 n1 c1] 36)
  have R0a := Lib.hid (rowOf w #[.slice a0 n0 c0, .slice a1 n1 c1] 36)
  obtain ⟨e1, hnc, hm, hat⟩ := routs_at r1.t
  have HL := Lib.hid e1
  have HA := Lib.hid hat
  have HD0 := Lib.hid r0.t
  have HR0 := Lib.hid r1.t
  have KW := Lib.hid K0
  clear K0 r0 r1 e1 hat
  go_enter Try.func16, Try.ntmps16
  go_upto_region 1 with fail
  have QD := Lib.hid (HD0.out.k KW.out)
  have QR := Lib.hid (HR0.out.k KW.out)
  generalize hW : w.alloc (.cells #[.slice a0 n0 c0, .slice a1 n1 c1] 36) = W at *
  clear hW
  have x0 := R0a.out.cell (i := 0) (by simp)
  have x1 := R0a.out.cell (i := 1) (by simp)
  simp at x0 x1
  go_wp2_with fail
  refine (implNormalSigs ds rs _ _ _ _ _ _ _ _ _ QD.out QR.out).mono ?_
  rintro e w2 ⟨b0, m0, d0, b1, m1, d1, ok, rfl, hok, hsr, kk⟩
  have HS := Lib.hid hok
  have K2 := Keep.al w2 (.cells #[.slice b0 m0 d0, .slice b1 m1 d1] 59)
  have RSa := Lib.hid (rowOf w2 #[.slice b0 m0 d0, .slice b1 m1 d1] 59)
  have HSK : Hid (ok = true → SR (w2.alloc (.cells #[.slice b0 m0 d0, .slice b1 m1 d1] 59)) (fun _ => True) ds (rs.map sigR) b0 m0 d0 b1 m1 d1) := fun h => (hsr h).k K2
  replace kk := kk.trans K2
  replace KW := Lib.hid (KW.out.trans kk)
  replace R0a := Lib.hid (row_ext R0a.out kk (fun h => h))
  clear hok hsr kk K2 x0 x1 QD QR
  go_upto_region 2 with fail
  generalize hW : w2.alloc (.cells #[.slice b0 m0 d0, .slice b1 m1 d1] 59) = W3 at *
  clear hW
  generalize hsx : w2.heap.size = s7 at *
  clear hsx
  cases ok
  · have V : Hid (normOk ds rs = false) := normOk_sigs HS.out.symm
    go_wp2_with fail
    exact fin_ hQ ⟨ret_b V.out.symm, KW.out⟩
  have V1 : Hid (sigsOk ds (rs.map sigR) = true) := HS.out.symm
  have HSQ : Hid (SR W3 (fun _ => True) ds (rs.map sigR) b0 m0 d0 b1 m1 d1) := HSK.out rfl
  clear HSK HS
  have x0 := R0a.out.cell (i := 0) (by simp)
  have x1 := R0a.out.cell (i := 1) (by simp)
  simp at x0 x1
  go_wp2_with fail
  go_loopw [17] (fun iv wr => ∃ j : Nat, j ≤ n1 ∧ iv = .int .i64 j ∧ Hid (∀ l, l < j → normAt ds rs l = true) ∧ Hid (Keep w wr) ∧ Hid (wr.rowIs w.heap.size 36 2 (fun i => (#[.slice a0 n0 c0, .slice a1 n1 c1] : Array Value).getD i undef)) ∧ Hid (wr.rowIs s7 59 2 (fun i => (#[.slice b0 m0 d0, .slice b1 m1 d1] : Array Value).getD i undef)) ∧ Hid (SR wr (fun _ => True) ds (rs.map sigR) b0 m0 d0 b1 m1 d1)) (fun i _ => n1 - (intOf i).toNat)
  case atStart => exact ⟨0, Nat.zero_le _, rfl, fun j hj => absurd hj (by omega), KW.out, R0a.out, RSa.out, HSQ.out⟩
  case round =>
    obtain ⟨wo, rfl⟩ : ∃ wo : World, wo = wr := ⟨_, rfl⟩
    obtain ⟨j, hj, rfl, H, KX, R0x, RSx, HSX⟩ := hrel
    have x0 := R0x.out.cell (i := 0) (by simp)
    have x1 := R0x.out.cell (i := 1) (by simp)
    simp at x0 x1
    by_cases hlt : j < n1
    case neg =>
      have V : Hid (normOk ds rs = true) := normOk_yes V1.out (fun i hi => H.out i (by have := HL.out; omega))
      go_wp2_with fail
      exact fin_ hQ ⟨ret_b V.out.symm, KX.out⟩
    have HJ : Hid (j < rs.length) := by have := HL.out; show _ < _; omega
    obtain ⟨b, o, rfl, _, a5, n5, c5, a6, n6, c6, a3, n3, c3, d0, d1, d2, d3, d4, r3, _, r4⟩ := HA.out j hlt
    have g0 := KX.out.cq d0 (fun h => h)
    have g1 := KX.out.cq d1 (fun h => h)
    have g2 := KX.out.cq d2 (fun h => h)
    have g3 := KX.out.cq d3 (fun h => h)
    have g4 := KX.out.cq d4 (fun h => h)
    have PT := sigR_at V1.out HJ.out
    have AT := Lib.hid PT.2.1
    have PL := Lib.hid PT.1
    have KB := Keep.al wo (.cells #[.slice a5 n5 c5, .slice a6 n6 c6, .int .i64 (rtAt rs j).result, .slice a3 n3 c3, .int .i64 (rtAt rs j).body.result] 67)
    have KY := Lib.hid (KX.out.trans KB)
    have QP := Lib.hid (r3.k KY.out).kd
    have QB := Lib.hid (r4.k KY.out).kd
    have QS := Lib.hid (HSX.out.k (KB.trans (Ext.refl (fun _ => False) _).drew))
    have HSY := Lib.hid (HSX.out.k KB)
    have RSy := Lib.hid (row_ext RSx.out KB (fun h => h))
    have HO := Lib.hid (HFT.out j HJ.out)
    have R0y := Lib.hid (row_ext R0x.out KB (fun h => h))
    have RBy := Lib.hid (rowOf wo #[.slice a5 n5 c5, .slice a6 n6 c6, .int .i64 (rtAt rs j).result, .slice a3 n3 c3, .int .i64 (rtAt rs j).body.result] 67)
    clear d0 d1 d2 d3 d4 r3 r4 PT
    obtain ⟨N, hN⟩ : ∃ N, stepsL (rtAt rs j).body.steps = N := ⟨_, rfl⟩
    have HN := Lib.hid hN
    clear hN
    go_upto_region 7 with fail
    generalize hW : wo.alloc (.cells #[.slice a5 n5 c5, .slice a6 n6 c6, .int .i64 (rtAt rs j).result, .slice a3 n3 c3, .int .i64 (rtAt rs j).body.result] 67) = W at *
    clear hW g0 g1 g2 g3 g4
    generalize hs4 : wo.heap.size = s4 at *
    clear hs4 KB
    have y0 := RBy.out.cell (i := 0) (by simp)
    have y1 := RBy.out.cell (i := 1) (by simp)
    have y2 := RBy.out.cell (i := 2) (by simp)
    have y3 := RBy.out.cell (i := 3) (by simp)
    have y4 := RBy.out.cell (i := 4) (by simp)
    simp at y0 y1 y2 y3 y4
    have z0 := RSy.out.cell (i := 0) (by simp)
    have z1 := RSy.out.cell (i := 1) (by simp)
    simp at z0 z1
    have pc := Ext.refl0 W
    by_cases hn : N < 0
    · have HN1 : Hid (stepsL (rtAt rs j).body.steps = -1) := by
        show _ = _
        refine stepsL_no (fun hc => ?_)
        have h2 := HN.out
        rw [stepsL_yes hc] at h2
        omega
      have V : Hid (normOk ds rs = false) := normOk_at HJ.out (normAt_steps (by rw [HN.out]; exact hn))
      clear hn
      refine wp_region_held_drew (S := fun w' => w'.cell? ⟨s4, 0, none⟩ = some (.slice a5 n5 c5) ∧ w'.cell? ⟨s4, 1, none⟩ = some (.slice a6 n6 c6) ∧ w'.cell? ⟨s4, 2, none⟩ = some (.int .i64 (rtAt rs j).result) ∧ w'.cell? ⟨s4, 3, none⟩ = some (.slice a3 n3 c3) ∧ w'.cell? ⟨s4, 4, none⟩ = some (.int .i64 (rtAt rs j).body.result) ∧ w'.cell? ⟨s7, 0, none⟩ = some (.slice b0 m0 d0) ∧ w'.cell? ⟨s7, 1, none⟩ = some (.slice b1 m1 d1)) (by kernel_rfl) ⟨Keep.at pc y0, Keep.at pc y1, Keep.at pc y2, Keep.at pc y3, Keep.at pc y4, Keep.at pc z0, Keep.at pc z1⟩ (fun hHeld => ?_)
      refine wT 0 hHeld ?_
      try go_frame
      refine wT 1 hHeld ?_
      try go_frame
      refine wO 2 (fun K hK => ?_)
      go_simp
      refine (implStepsOf (rtAt rs j).body.steps _ _ _ _ _ _ (QB.out.k pc)).mono ?_
      rw [HN1.out]
      rintro e w3 ⟨rfl, p3⟩
      replace pc := Ext.trans pc p3
      refine hK.out _ _ ⟨Keep.at pc y0, Keep.at pc y1, Keep.at pc y2, Keep.at pc y3, Keep.at pc y4, Keep.at pc z0, Keep.at pc z1⟩ (fun hHeld => ?_)
      clear hK K
      try go_frame
      refine wT 3 hHeld ?_
      try go_frame
      refine wT 4 hHeld ?_
      try go_frame
      refine wS 5 hHeld ?_
      try go_frame
      refine wS 6 hHeld ?_
      try go_frame
      refine wS 7 hHeld ?_
      try go_frame
      refine wS 8 hHeld ?_
      try go_frame
      refine wS 9 hHeld ?_
      try go_frame
      refine wS 10 hHeld ?_
      try go_frame
      refine wS 11 hHeld ?_
      try go_frame
      refine wS 12 hHeld ?_
      try go_frame
      refine wS 13 hHeld ?_
      try go_frame
      refine wT 14 hHeld ?_
      try go_frame
      refine wpAnyH_done (by kernel_rfl) ?_ _
      go_wp2_with fail
      exact fin_ hQ ⟨ret_b V.out.symm, KY.out.trans (Keep.dt pc)⟩
    have NN : Hid (normAt ds rs j = decide (runT ds (rs.map sigR) (rtAt rs j).body.result (rtAt rs j).params (rtAt rs j).body.steps = (rtAt rs j).result)) := normAt_ty (by rw [HN.out]; exact hn)
    have hn' : decide (N < 0) = false := decide_eq_false hn
    have hn0 : 0 ≤ N := by omega
    have HBD : Hid ((rtAt rs j).params.length + 4 * nSs (rtAt rs j).body.steps ≤ 1052000) := by
      show _ ≤ _
      have h1 := PL.out
      have h2 := stepsL_le (ss := (rtAt rs j).body.steps) (by rw [HN.out]; exact hn)
      omega
    obtain ⟨z, hz⟩ : ∃ z, runT ds (rs.map sigR) (rtAt rs j).body.result (rtAt rs j).params (rtAt rs j).body.steps = z := ⟨_, rfl⟩
    have HZ := Lib.hid hz
    clear hz hn
    by_cases ht : z = (rtAt rs j).result
    · have VB : Hid (normAt ds rs j = true) := by show _ = _; rw [NN.out, HZ.out]; exact decide_eq_true ht
      have ht' : (z != (rtAt rs j).result) = false := by simpa using ht
      clear ht
      go_region_held3 (fun w' => w'.cell? ⟨s4, 0, none⟩ = some (.slice a5 n5 c5) ∧ w'.cell? ⟨s4, 1, none⟩ = some (.slice a6 n6 c6) ∧ w'.cell? ⟨s4, 2, none⟩ = some (.int .i64 (rtAt rs j).result) ∧ w'.cell? ⟨s4, 3, none⟩ = some (.slice a3 n3 c3) ∧ w'.cell? ⟨s4, 4, none⟩ = some (.int .i64 (rtAt rs j).body.result) ∧ w'.cell? ⟨s7, 0, none⟩ = some (.slice b0 m0 d0) ∧ w'.cell? ⟨s7, 1, none⟩ = some (.slice b1 m1 d1))
        (first | exact ⟨Keep.at pc y0, Keep.at pc y1, Keep.at pc y2, Keep.at pc y3, Keep.at pc y4, Keep.at pc z0, Keep.at pc z1⟩ | go_keep)
        (first
          | (go_at_call 29; refine (implStepsOf (rtAt rs j).body.steps _ _ _ _ _ _ (QB.out.k pc)).mono ?_; rw [HN.out]; rintro e w3 ⟨rfl, p3⟩; replace pc := Ext.trans pc p3)
          | (go_at_call 30; refine (implBlk ds (rs.map sigR) V1.out _ (rtAt rs j).body.steps HO.out _ _ _ _ _ _ _ _ _ (rtAt rs j).params _ _ _ _ (QS.out.k pc) (QP.out.k pc).toInts (QB.out.k pc) HBD.out AT.out).mono ?_; rw [HZ.out]; rintro e w5 ⟨rfl, p5⟩; replace pc := Ext.trans pc p5))
      have KE := Lib.hid (KY.out.trans (Keep.dt pc))
      have R0z := Lib.hid (row_ext R0y.out (Keep.dt pc) (fun h => h))
      have RSz := Lib.hid (row_ext RSy.out (Keep.dt pc) (fun h => h))
      have HSZ := Lib.hid (HSY.out.k (Keep.dt pc))
      clear pc y0 y1 y2 y3 y4 z0 z1
      go_wp2_with fail
      go_roundw
      case rel => exact ⟨j + 1, by omega, by go_num, fun l hl => by
        rcases Nat.lt_succ_iff_lt_or_eq.1 hl with h | rfl
        · exact H.out l h
        · exact VB.out, KE.out, R0z.out, RSz.out, HSZ.out⟩
      case measure => simp [intOf]; omega
    · have V : Hid (normOk ds rs = false) := normOk_at HJ.out (show normAt ds rs j = false by rw [NN.out, HZ.out]; exact decide_eq_false ht)
      have ht' : (z != (rtAt rs j).result) = true := by simpa using ht
      clear ht
      go_region_held3 (fun w' => w'.cell? ⟨s4, 0, none⟩ = some (.slice a5 n5 c5) ∧ w'.cell? ⟨s4, 1, none⟩ = some (.slice a6 n6 c6) ∧ w'.cell? ⟨s4, 2, none⟩ = some (.int .i64 (rtAt rs j).result) ∧ w'.cell? ⟨s4, 3, none⟩ = some (.slice a3 n3 c3) ∧ w'.cell? ⟨s4, 4, none⟩ = some (.int .i64 (rtAt rs j).body.result) ∧ w'.cell? ⟨s7, 0, none⟩ = some (.slice b0 m0 d0) ∧ w'.cell? ⟨s7, 1, none⟩ = some (.slice b1 m1 d1))
        (first | exact ⟨Keep.at pc y0, Keep.at pc y1, Keep.at pc y2, Keep.at pc y3, Keep.at pc y4, Keep.at pc z0, Keep.at pc z1⟩ | go_keep)
        (first
          | (go_at_call 29; refine (implStepsOf (rtAt rs j).body.steps _ _ _ _ _ _ (QB.out.k pc)).mono ?_; rw [HN.out]; rintro e w3 ⟨rfl, p3⟩; replace pc := Ext.trans pc p3)
          | (go_at_call 30; refine (implBlk ds (rs.map sigR) V1.out _ (rtAt rs j).body.steps HO.out _ _ _ _ _ _ _ _ _ (rtAt rs j).params _ _ _ _ (QS.out.k pc) (QP.out.k pc).toInts (QB.out.k pc) HBD.out AT.out).mono ?_; rw [HZ.out]; rintro e w5 ⟨rfl, p5⟩; replace pc := Ext.trans pc p5))
      go_wp2_with fail
      exact fin_ hQ ⟨ret_b V.out.symm, KY.out.trans (Keep.dt pc)⟩
end Go.Proofs.Ytmekdccgjgfiaaa
/- The exact law FnExactValidNormal: the walk. -/
namespace Go.Proofs.Ytmekdccgjgfiaaa
open Go.RowKit

set_option linter.unusedVariables false
set_option maxRecDepth 100000 in
set_option maxHeartbeats 4000000 in
theorem fnExactValidNormal_walk (ds : List DeclL) (rs : List RoutL) (a0 : Option Addr) (n0 c0 : Nat) (a1 : Option Addr) (n1 c1 : Nat) (w : World) (r0 : Rd w (fun _ => True) (encDecls ds) (.slice a0 n0 c0)) (r1 : Rd w (fun _ => True) (encRouts rs) (.slice a1 n1 c1)) (hfit : fitRs rs) :
    Calls Try.prog 4 #[.agg #[.slice a0 n0 c0, .slice a1 n1 c1]] w fun e w' => e = .returned (.bool true) ∧ Keep w w' := by
  refine calls_k fun Q hQ => ?_
  have K0 := Keep.al w (.cells #[.slice a0 n0 c0, .slice a1 n1 c1] 25)
  by_cases hs : (1048576 : Int) < ((szD (encDecls ds) + szD (encRouts rs) : Nat) : Int)
  · have V : Hid (szo (szD (encDecls ds) + szD (encRouts rs)) 1048576 = -1) := szo_no (by omega)
    have s0 := r0.k K0
    have s1 := r1.k K0
    go_enter Try.func4, Try.ntmps4
    go_wp2_with fail
    refine (szNormal _ _ _ _ _ _ _ _ _ _ _ s0 s1 (szDeclS _) (szRoutineS _) (by omega) (by omega)).mono ?_
    rw [V.out]
    rintro e w1 ⟨rfl, p1⟩
    go_wp2_with fail
    exact fin_ hQ ⟨rfl, K0.trans p1⟩
  have hz0 : szD (encDecls ds) ≤ 1048576 := by omega
  have hz1 : szD (encRouts rs) ≤ 1048576 := by omega
  have V : Hid (szo (szD (encDecls ds) + szD (encRouts rs)) 1048576 = 1048576 - ((szD (encDecls ds) : Int) + (szD (encRouts rs) : Int))) := by show _ = _; rw [szo_yes (by omega)]; omega
  have t0 : 0 ≤ 1048576 - ((szD (encDecls ds) : Int) + (szD (encRouts rs) : Int)) := by omega
  clear hs
  have HFT := Lib.hid hfit
  clear hfit
  have bk : Keep (w.alloc (.cells #[.slice a0 n0 c0, .slice a1 n1 c1] 25)) (w.alloc (.cells #[.slice a0 n0 c0, .slice a1 n1 c1] 25)) := Ext.refl _ _
  have s0 := r0.k K0
  have s1 := r1.k K0
  go_enter Try.func4, Try.ntmps4
  go_wp2_with fail
  refine (szNormal _ _ _ _ _ _ _ _ _ _ _ s0 s1 (szDeclS _) (szRoutineS _) (by omega) (by omega)).mono ?_
  rw [V.out]
  rintro e w1 ⟨rfl, p1⟩
  replace bk := bk.trans p1
  replace s0 := s0.k p1
  replace s1 := s1.k p1
  clear V
  have x0 := boxk bk 0
  have x1 := boxk bk 1
  simp at x0 x1
  go_wp2_with fail
  refine (toNormal _ _ _ _ _ _ _ _ _ _ s0 hz0 s1 hz1 (toDeclS _) (toRoutineS _)).mono ?_
  rintro e w2 ⟨b0q, b1q, rfl, tsq, pq⟩
  have g0q := (tsq.get 0 _ _ rfl rfl).read
  have g1q := (tsq.get 1 _ _ rfl rfl).read
  clear tsq
  replace bk := bk.trans pq
  replace s0 := s0.k pq
  replace s1 := s1.k pq
  go_wp2_with fail
  refine (specValidNormal _ _ _ _ _ _ _ _ _ _ _ g0q g1q).mono ?_
  rintro e w3 ⟨rfl, p3⟩
  replace bk := bk.trans p3
  replace s0 := s0.k p3
  replace s1 := s1.k p3
  clear g0q g1q
  clear x0 x1
  have x0 := boxk bk 0
  have x1 := boxk bk 1
  simp at x0 x1
  go_wp2_with fail
  refine (toNormal _ _ _ _ _ _ _ _ _ _ s0 hz0 s1 hz1 (toDeclS _) (toRoutineS _)).mono ?_
  rintro e w4 ⟨b0x, b1x, rfl, tsx, px⟩
  have g0x := (tsx.get 0 _ _ rfl rfl).read
  have g1x := (tsx.get 1 _ _ rfl rfl).read
  have k4 := Keep.al w4 (.cells #[.slice b0x n0 n0, .slice b1x n1 n1] 36)
  clear tsx
  have bx : Keep (w4.alloc (.cells #[.slice b0x n0 n0, .slice b1x n1 n1] 36)) (w4.alloc (.cells #[.slice b0x n0 n0, .slice b1x n1 n1] 36)) := Ext.refl _ _
  replace bk := bk.trans px
  replace s0 := s0.k px
  replace s1 := s1.k px
  replace bk := bk.trans k4
  replace s0 := s0.k k4
  replace s1 := s1.k k4
  replace g0x := g0x.k k4
  replace g1x := g1x.k k4
  clear x0 x1
  go_wp2_with fail
  refine (implValidNormal _ _ _ _ _ _ _ _ _ _ _ g0x g1x (okRs_of HFT.out hz1)).mono ?_
  rintro e w5 ⟨rfl, p5⟩
  replace bk := bk.trans p5
  replace s0 := s0.k p5
  replace s1 := s1.k p5
  replace g0x := g0x.k p5
  replace g1x := g1x.k p5
  replace bx := bx.trans p5
  have x0 := boxk bk 0
  have x1 := boxk bk 1
  simp at x0 x1
  have y0 := boxk bx 0
  have y1 := boxk bx 1
  simp at y0 y1
  have s0d := s0.k (w' := w5.drew) (Ext.refl (fun _ => False) w5).drew
  have g0d := g0x.k (w' := w5.drew) (Ext.refl (fun _ => False) w5).drew
  have s1d := s1.k (w' := w5.drew) (Ext.refl (fun _ => False) w5).drew
  have g1d := g1x.k (w' := w5.drew) (Ext.refl (fun _ => False) w5).drew
  go_wp2_with fail
  go_region_held3 (fun w' => w'.cell? ⟨w.heap.size, 0, none⟩ = some (.slice a0 n0 c0) ∧ w'.cell? ⟨w.heap.size, 1, none⟩ = some (.slice a1 n1 c1) ∧ w'.cell? ⟨w4.heap.size, 0, none⟩ = some (.slice b0x n0 n0) ∧ w'.cell? ⟨w4.heap.size, 1, none⟩ = some (.slice b1x n1 n1))
    (first | exact ⟨Keep.at (pa.trans pb) x0, Keep.at (pa.trans pb) x1, Keep.at (pa.trans pb) y0, Keep.at (pa.trans pb) y1⟩ | exact ⟨Keep.at pa x0, Keep.at pa x1, Keep.at pa y0, Keep.at pa y1⟩ | go_keep)
    (first
      | (go_at_call 8; refine (toNormal _ _ _ _ _ _ _ _ _ _ s0d hz0 s1d hz1 (toDeclS _) (toRoutineS _)).mono ?_; rintro e wa ⟨b0a, b1a, rfl, tsa, pa⟩)
      | (go_at_call 12; refine (eqNormal _ _ _ _ _ _ _ _ _ _ _ _ _ _ _ _ _ (g0d.k pa) ((tsa.get 0 _ _ rfl rfl).read) (g1d.k pa) ((tsa.get 1 _ _ rfl rfl).read) (eqDeclS _) (eqRoutineS _)).mono ?_; rintro e wb ⟨rfl, pb⟩))
  go_wp2_with fail
  exact fin_ hQ ⟨rfl, (((K0.trans bk).drew).trans pa).trans pb⟩
end Go.Proofs.Ytmekdccgjgfiaaa
