/- walk: all nodes of an expression are visited by a function value. -/
import Derived.Test.YtaeddcnakilnlaaMGA
namespace Go.Proofs.Ytaeddcnakilnlaa
open Go.RowKit

section
variable {σ : Type} (vis : Int → Int → σ → σ)
mutual
/-- What comes of visiting all nodes. -/
def visE : ExprL → σ → σ
  | .mk op num ks, s => visEs ks (vis op num s)
def visEs : List ExprL → σ → σ
  | [], s => s
  | k :: ks, s => visEs ks (visE k s)
end
theorem visE_eq (e : ExprL) (s : σ) : visE vis e s = visEs vis e.kids (vis e.op e.num s) := by cases e; rfl
theorem visEs_append (a b : List ExprL) (s : σ) : visEs vis (a ++ b) s = visEs vis b (visEs vis a s) := by
  induction a generalizing s with
  | nil => rfl
  | cons k ks ih => simp only [List.cons_append, visEs, ih]
theorem visEs_take (es : List ExprL) {j : Nat} (h : j < es.length) (s : σ) : visEs vis (es.take (j + 1)) s = visE vis (eAt es j) (visEs vis (es.take j) s) := by
  rw [take_succ_eAt es h, visEs_append]; simp only [visEs]
end

set_option maxRecDepth 100000 in
set_option maxHeartbeats 2000000 in
theorem walk_n {σ : Type} (vis : Int → Int → σ → σ) (F : FuncId) (cap : Array Value) (S : Nat → Prop) (Inv : Nat → σ → World → Prop)
    (hF : ∀ (args : Array Value) (w : World), (callFunc F args).run Try.prog w = .ok (.enter F args) w)
    (hI : ∀ k s w w', Inv k s w → Keep w w' → Inv k s w')
    (hv : ∀ (k : Nat) (s : σ) (op num : Int) (a : Option Addr) (n c : Nat) (w : World), k < 30 → Inv k s w → Calls Try.prog F (#[.agg #[.int .i64 op, .int .i64 num, .slice a n c]] ++ cap) w fun e w' => e = .returned (.tuple #[]) ∧ Inv (k + 1) (vis op num s) w' ∧ Ext S w w')
    (N : Nat) : ∀ (op num : Int) (es : List ExprL), nEs es < N → ∀ (k : Nat) (s : σ) (a : Option Addr) (n c : Nat) (D : Nat → Prop) (w : World), Rd w D (encExprs es) (.slice a n c) → (∀ q, D q → ¬ S q) → (∀ q, S q → q < w.heap.size) → k + (nEs es + 1) ≤ 30 → Inv k s w →
    Calls Try.prog 83 #[.agg #[.int .i64 op, .int .i64 num, .slice a n c], .func (.func F) #[] cap] w fun e w' => e = .returned (.tuple #[]) ∧ Inv (k + (nEs es + 1)) (visEs vis es (vis op num s)) w' ∧ Ext S w w' := by
  induction N with
  | zero => intro _ _ es h; omega
  | succ N ihN =>
  intro op num es hN k s a n c D w h hDS hSw hk hInv
  refine calls_k fun Q hQ => ?_
  have K0 := Keep.al w (.cells #[.int .i64 op, .int .i64 num, .slice a n c] 53)
  have hcell := boxk (w2 := w.alloc (.cells #[.int .i64 op, .int .i64 num, .slice a n c] 53)) (Ext.refl _ _) 2
  have h1 := h.k K0
  have I1 := Lib.hid (hI _ _ _ _ hInv K0)
  have HV := Lib.hid hv
  have HI := Lib.hid hI
  have HDS := Lib.hid hDS
  have IH := Lib.hid (fun (j : Nat) (hj : j < es.length) => ihN (eAt es j).op (eAt es j).num (eAt es j).kids (by have := nE_le es hj; have := nE_eq (eAt es j); omega))
  have HB : ¬ S w.heap.size := fun hq => by have := hSw _ hq; omega
  have HSw := Lib.hid hSw
  clear hv hI hInv ihN hN hcell h hDS hSw
  go_enter Try.func83, Try.ntmps83
  go_wp2_with fail
  refine (HV.out k s op num a n c _ (by omega) I1.out).mono ?_
  rintro e w1 ⟨rfl, I2, X1⟩
  have x2 := X1.cell (p := ⟨w.heap.size, 2, none⟩) (by simp) HB
  simp at x2
  have h2 := h1.ext X1 HDS.out
  have X0 : Ext S w w1 := (Keep.to K0).trans X1
  obtain ⟨e1, hnc, hm, hat⟩ := exprs_at h2
  have HL := Lib.hid e1
  have HA := Lib.hid hat
  have J2 := Lib.hid I2
  clear e1 hat h1 I2 I1
  have HS0 : Hid (∀ q, S q → q < w1.heap.size) := fun q hq => Nat.lt_of_lt_of_le (HSw.out q hq) X0.size
  go_wp2_with fail
  go_loopw [12] (fun iv wr => ∃ j : Nat, j ≤ n ∧ iv = .int .i64 j ∧ Hid (Inv (k + 1 + nEs (es.take j)) (visEs vis (es.take j) (vis op num s)) wr) ∧ Ext S w1 wr) (fun i _ => n - (intOf i).toNat)
  case atStart => exact ⟨0, Nat.zero_le _, rfl, by show Inv _ _ _; simpa [nEs, visEs] using J2.out, Ext.refl _ _⟩
  case round =>
    obtain ⟨j, hj, rfl, hI, hX⟩ := hrel
    by_cases hlt : j < n
    · have hst := nEs_take es (j := j) (by have := HL.out; omega)
      have hle := nEs_take_le es (j + 1)
      have hee := nE_eq (eAt es j)
      have hvv := visEs_take vis es (j := j) (by have := HL.out; omega) (vis op num s)
      rw [visE_eq] at hvv
      obtain ⟨b, o, rfl, hd, a2, n2, c2, d0, d1, d2, r2⟩ := HA.out j hlt
      have g0 := (hX.cell (World.block_lt_of_cell? _ _ d0) (HDS.out _ hd)).trans d0
      have g1 := (hX.cell (World.block_lt_of_cell? _ _ d1) (HDS.out _ hd)).trans d1
      have g2 := (hX.cell (World.block_lt_of_cell? _ _ d2) (HDS.out _ hd)).trans d2
      have ka := Keep.al wr (.cells #[.int .i64 (eAt es j).op, .int .i64 (eAt es j).num, .slice a2 n2 c2] 53)
      have q2 := (r2.ext hX HDS.out).k ka
      have I3 := Lib.hid (HI.out _ _ _ _ hI.out ka)
      have hb : k + 1 + nEs (es.take j) + (nEs (eAt es j).kids + 1) ≤ 30 := by omega
      have HS := Lib.hid hst
      have HE := Lib.hid hee
      have HV2 := Lib.hid hvv
      have HX2 := Lib.hid (hX.trans (Keep.to ka))
      have HS3 : ∀ q, S q → q < (wr.alloc (.cells #[.int .i64 (eAt es j).op, .int .i64 (eAt es j).num, .slice a2 n2 c2] 53)).heap.size := fun q hq => by
        have := HS0.out q hq; have := hX.size; simp; omega
      have HSS := Lib.hid HS3
      clear d0 d1 d2 r2 hst hee hvv hI hX ka HS3 hle
      go_wp2_with fail
      refine (IH.out j (by have := HL.out; omega) _ _ _ _ _ D _ q2 HDS.out HSS.out hb I3.out).mono ?_
      rintro e w2 ⟨rfl, I4, X2⟩
      have I5 : Hid (Inv (k + 1 + nEs (es.take (j + 1))) (visEs vis (es.take (j + 1)) (vis op num s)) w2) := by
        show Inv _ _ _
        rw [HV2.out, HS.out, HE.out, ← Nat.add_assoc]; exact I4
      clear I4
      go_wp2_with fail
      go_roundw
      case rel => exact ⟨j + 1, by omega, by go_num, I5, HX2.out.trans X2⟩
      case measure => simp [intOf]; omega
    · have HJ : Hid (j = n) := by show _ = _; omega
      go_wp2_with fail
      refine bodyPost_end (v := .tuple #[]) (by simp [results, Try.results83, go_sem]) rfl (fin_ hQ ⟨rfl, ?_, X0.trans hX⟩)
      have e := HJ.out
      subst e
      have hI2 := hI.out
      rw [List.take_of_length_le (Nat.le_of_eq HL.out)] at hI2
      rw [show k + (nEs es + 1) = k + 1 + nEs es by omega]
      exact hI2
end Go.Proofs.Ytaeddcnakilnlaa
/- walk: all nodes of an expression are visited by a function value; which blocks the visits may change may depend on the world, and the nodes may be known to be of a kind. -/
namespace Go.Proofs.Ytaeddcnakilnlaa
open Go.RowKit

mutual
/-- All nodes are of a kind. -/
def allE (P : Int → Int → Prop) : ExprL → Prop
  | .mk op num ks => P op num ∧ allEs P ks
def allEs (P : Int → Int → Prop) : List ExprL → Prop
  | [] => True
  | k :: ks => allE P k ∧ allEs P ks
end
theorem allE_eq (P : Int → Int → Prop) (e : ExprL) : allE P e ↔ P e.op e.num ∧ allEs P e.kids := by cases e; rfl
theorem allEs_at {P : Int → Int → Prop} {es : List ExprL} (h : allEs P es) {j : Nat} (hj : j < es.length) : allE P (eAt es j) := by
  induction es generalizing j with
  | nil => simp at hj
  | cons e es ih =>
    cases j with
    | zero => exact h.1
    | succ j => exact ih h.2 (by simpa using hj)
mutual
theorem allE_true : ∀ e : ExprL, allE (fun _ _ => True) e
  | .mk _ _ ks => ⟨trivial, allEs_true ks⟩
theorem allEs_true : ∀ es : List ExprL, allEs (fun _ _ => True) es
  | [] => trivial
  | e :: es => ⟨allE_true e, allEs_true es⟩
end

/-- From w to w' only blocks of M change, and none of the old ones has come into M. -/
structure StM (M : World → Nat → Prop) (w w' : World) : Prop where
  ext : Ext (M w) w w'
  old : ∀ r, r < w.heap.size → M w' r → M w r
theorem StM.refl (M : World → Nat → Prop) (w : World) : StM M w w := ⟨Ext.refl _ _, fun _ _ h => h⟩
theorem StM.trans {M : World → Nat → Prop} {w w' w'' : World} (h : StM M w w') (k : StM M w' w'') : StM M w w'' :=
  ⟨h.ext.then_ k.ext (fun i hi hm => h.old i hi hm), fun r hr hm => h.old r hr (k.old r (Nat.lt_of_lt_of_le hr h.ext.size) hm)⟩

set_option maxRecDepth 100000 in
set_option maxHeartbeats 2000000 in
theorem walk_m {σ : Type} (vis : Int → Int → σ → σ) (F : FuncId) (cap : Array Value) (P : Int → Int → Prop) (M : World → Nat → Prop) (Inv : Nat → σ → World → Prop)
    (hF : ∀ (args : Array Value) (w : World), (callFunc F args).run Try.prog w = .ok (.enter F args) w)
    (hI : ∀ k s w w', Inv k s w → Keep w w' → Inv k s w' ∧ ∀ r, M w' r → M w r)
    (hM : ∀ k s w r, Inv k s w → M w r → r < w.heap.size)
    (hv : ∀ (k : Nat) (s : σ) (op num : Int) (a : Option Addr) (n c : Nat) (w : World), k < 30 → P op num → Inv k s w → Calls Try.prog F (#[.agg #[.int .i64 op, .int .i64 num, .slice a n c]] ++ cap) w fun e w' => e = .returned (.tuple #[]) ∧ Inv (k + 1) (vis op num s) w' ∧ StM M w w')
    (N : Nat) : ∀ (op num : Int) (es : List ExprL), nEs es < N → P op num → allEs P es → ∀ (k : Nat) (s : σ) (a : Option Addr) (n c : Nat) (D : Nat → Prop) (w : World), Rd w D (encExprs es) (.slice a n c) → (∀ q, D q → q < w.heap.size ∧ ¬ M w q) → k + (nEs es + 1) ≤ 30 → Inv k s w →
    Calls Try.prog 83 #[.agg #[.int .i64 op, .int .i64 num, .slice a n c], .func (.func F) #[] cap] w fun e w' => e = .returned (.tuple #[]) ∧ Inv (k + (nEs es + 1)) (visEs vis es (vis op num s)) w' ∧ StM M w w' := by
  induction N with
  | zero => intro _ _ es h; omega
  | succ N ihN =>
  intro op num es hN hP hPs k s a n c D w h hD hk hInv
  refine calls_k fun Q hQ => ?_
  have K0 := Keep.al w (.cells #[.int .i64 op, .int .i64 num, .slice a n c] 53)
  have hcell := boxk (w2 := w.alloc (.cells #[.int .i64 op, .int .i64 num, .slice a n c] 53)) (Ext.refl _ _) 2
  have h1 := h.k K0
  have I1 := Lib.hid (hI _ _ _ _ hInv K0).1
  have M1 := (hI _ _ _ _ hInv K0).2
  have ST0 : StM M w (w.alloc (.cells #[.int .i64 op, .int .i64 num, .slice a n c] 53)) := ⟨Keep.to K0, fun r _ hr => M1 r hr⟩
  have HV := Lib.hid hv
  have HI := Lib.hid hI
  have HM := Lib.hid hM
  have HP := Lib.hid hP
  have HPS := Lib.hid hPs
  have IH := Lib.hid (fun (j : Nat) (hj : j < es.length) => ihN (eAt es j).op (eAt es j).num (eAt es j).kids (by have := nE_le es hj; have := nE_eq (eAt es j); omega))
  have HB : ¬ M (w.alloc (.cells #[.int .i64 op, .int .i64 num, .slice a n c] 53)) w.heap.size := fun hq => by have := hM _ _ _ _ hInv (M1 _ hq); omega
  have HD0 := Lib.hid hD
  have HD1 : ∀ q, D q → ¬ M (w.alloc (.cells #[.int .i64 op, .int .i64 num, .slice a n c] 53)) q := fun q hq hm => (hD q hq).2 (M1 q hm)
  have HDS := Lib.hid HD1
  clear hv hI hM hInv ihN hN hcell h hD M1 HD1 hP hPs
  go_enter Try.func83, Try.ntmps83
  go_wp2_with fail
  refine (HV.out k s op num a n c _ (by omega) HP.out I1.out).mono ?_
  rintro e w1 ⟨rfl, I2, X1⟩
  have x2 := X1.ext.cell (p := ⟨w.heap.size, 2, none⟩) (by simp) HB
  simp at x2
  have h2 := h1.ext X1.ext HDS.out
  have X0 : StM M w w1 := ST0.trans X1
  obtain ⟨e1, hnc, hm, hat⟩ := exprs_at h2
  have HL := Lib.hid e1
  have HA := Lib.hid hat
  have J2 := Lib.hid I2
  clear e1 hat h1 I2 I1
  have HS0 : Hid (∀ q, D q → q < w1.heap.size ∧ ¬ M w1 q) := fun q hq => ⟨Nat.lt_of_lt_of_le (HD0.out q hq).1 X0.ext.size, fun hm => (HD0.out q hq).2 (X0.old q (HD0.out q hq).1 hm)⟩
  go_wp2_with fail
  go_loopw [12] (fun iv wr => ∃ j : Nat, j ≤ n ∧ iv = .int .i64 j ∧ Hid (Inv (k + 1 + nEs (es.take j)) (visEs vis (es.take j) (vis op num s)) wr) ∧ StM M w1 wr) (fun i _ => n - (intOf i).toNat)
  case atStart => exact ⟨0, Nat.zero_le _, rfl, by show Inv _ _ _; simpa [nEs, visEs] using J2.out, StM.refl _ _⟩
  case round =>
    obtain ⟨j, hj, rfl, hI, hX⟩ := hrel
    by_cases hlt : j < n
    · have hst := nEs_take es (j := j) (by have := HL.out; omega)
      have hle := nEs_take_le es (j + 1)
      have hee := nE_eq (eAt es j)
      have hvv := visEs_take vis es (j := j) (by have := HL.out; omega) (vis op num s)
      rw [visE_eq] at hvv
      obtain ⟨b, o, rfl, hd, a2, n2, c2, d0, d1, d2, r2⟩ := HA.out j hlt
      have g0 := (hX.ext.cell (World.block_lt_of_cell? _ _ d0) (HS0.out _ hd).2).trans d0
      have g1 := (hX.ext.cell (World.block_lt_of_cell? _ _ d1) (HS0.out _ hd).2).trans d1
      have g2 := (hX.ext.cell (World.block_lt_of_cell? _ _ d2) (HS0.out _ hd).2).trans d2
      have ka := Keep.al wr (.cells #[.int .i64 (eAt es j).op, .int .i64 (eAt es j).num, .slice a2 n2 c2] 53)
      have q2 := (r2.ext hX.ext (fun q hq => (HS0.out q hq).2)).k ka
      have IK := HI.out _ _ _ _ hI.out ka
      have I3 := Lib.hid IK.1
      have ST1 : StM M wr (wr.alloc (.cells #[.int .i64 (eAt es j).op, .int .i64 (eAt es j).num, .slice a2 n2 c2] 53)) := ⟨Keep.to ka, fun r _ hr => IK.2 r hr⟩
      have hb : k + 1 + nEs (es.take j) + (nEs (eAt es j).kids + 1) ≤ 30 := by omega
      have HS := Lib.hid hst
      have HE := Lib.hid hee
      have HV2 := Lib.hid hvv
      have HX2 := Lib.hid (hX.trans ST1)
      have HS3 : ∀ q, D q → q < (wr.alloc (.cells #[.int .i64 (eAt es j).op, .int .i64 (eAt es j).num, .slice a2 n2 c2] 53)).heap.size ∧ ¬ M (wr.alloc (.cells #[.int .i64 (eAt es j).op, .int .i64 (eAt es j).num, .slice a2 n2 c2] 53)) q := fun q hq => ⟨Nat.lt_of_lt_of_le (HS0.out q hq).1 HX2.out.ext.size, fun hm => (HS0.out q hq).2 (HX2.out.old q (HS0.out q hq).1 hm)⟩
      have HPJ := Lib.hid ((allE_eq P _).1 (allEs_at HPS.out (j := j) (by have := HL.out; omega)))
      have HSS := Lib.hid HS3
      clear d0 d1 d2 r2 hst hee hvv hI hX ka HS3 hle IK ST1
      go_wp2_with fail
      refine (IH.out j (by have := HL.out; omega) HPJ.out.1 HPJ.out.2 _ _ _ _ _ D _ q2 HSS.out hb I3.out).mono ?_
      rintro e w2 ⟨rfl, I4, X2⟩
      have I5 : Hid (Inv (k + 1 + nEs (es.take (j + 1))) (visEs vis (es.take (j + 1)) (vis op num s)) w2) := by
        show Inv _ _ _
        rw [HV2.out, HS.out, HE.out, ← Nat.add_assoc]; exact I4
      clear I4
      go_wp2_with fail
      go_roundw
      case rel => exact ⟨j + 1, by omega, by go_num, I5, HX2.out.trans X2⟩
      case measure => simp [intOf]; omega
    · have HJ : Hid (j = n) := by show _ = _; omega
      go_wp2_with fail
      refine bodyPost_end (v := .tuple #[]) (by simp [results, Try.results83, go_sem]) rfl (fin_ hQ ⟨rfl, ?_, X0.trans hX⟩)
      have e := HJ.out
      subst e
      have hI2 := hI.out
      rw [List.take_of_length_le (Nat.le_of_eq HL.out)] at hI2
      rw [show k + (nEs es + 1) = k + 1 + nEs es by omega]
      exact hI2
end Go.Proofs.Ytaeddcnakilnlaa
