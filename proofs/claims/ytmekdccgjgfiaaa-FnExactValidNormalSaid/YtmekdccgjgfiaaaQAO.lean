/- The types of steps, operation by operation, plain. -/
import Derived.Test.YtmekdccgjgfiaaaQAN
namespace Go.Proofs.Ytmekdccgjgfiaaa
open Go.RowKit

section
variable (ds : List DeclL) (sg : List SigL) (sc : List Int) (op num into : Int) (args : List Int) (ks : List BlockL)
theorem stp_num (h : num ≠ 0) (hop : ¬ (op = 0 ∨ op = 6 ∨ op = 8 ∨ op = 9 ∨ op = 10)) : stpT ds sg sc (.mk op num into args ks) = -1 := by
  rw [stpT]
  split
  · rfl
  split
  · rw [if_neg (fun h2 => h h2.1)]
  split
  · omega
  split
  · rfl
  · rw [leafL]
    split
    · rw [cntL, if_neg (fun h2 => h h2.1)]
    split
    · rfl
    · unfold simpleL
      rw [if_neg (by omega)]
      split
      · rw [if_neg (fun h2 => h h2.1)]
      split
      · rw [if_neg (fun h2 => h h2.1)]
      split
      · rw [if_neg (fun h2 => h h2.1)]
      rw [if_neg (by omega), if_neg (by omega), if_neg (by omega)]
theorem stp_rout (h2 : intoOk sc op into = true) (h7 : op ≠ 7) (h8 : op ≠ 8) (h : ks.length = 0) : stpT ds sg sc (.mk op num into args ks) = routS ds sg sc op num args := by
  rw [routS]
  cases ha : argsIn sc args
  · rw [stp_args _ _ _ _ _ _ _ _ ha]; rfl
  · rw [stp_leaf _ _ _ _ _ _ _ _ ha h2 h7 h8 h]; rfl
theorem stp_7 (h2 : intoOk sc 7 into = true) : stpT ds sg sc (.mk 7 0 into args ks) = if typedL sc args [0] = true then kids7 ds sg sc ks else -1 := by
  cases ha : argsIn sc args
  · rw [stp_args _ _ _ _ _ _ _ _ ha, if_neg (fun h => by rw [typedL_iff, ha] at h; exact absurd h.1 (by simp))]
  · rw [stp_if _ _ _ _ _ _ _ ha h2, kids7]
    by_cases h : tysOf sc args = [0]
    · rw [if_pos (typedL_iff.2 ⟨ha, h⟩)]
      by_cases hk : ks.length = 2
      · rw [if_pos ⟨rfl, h, hk⟩, if_pos hk]
      · rw [if_neg (fun h3 => hk h3.2.2), if_neg hk]
    · rw [if_neg (fun h3 => h h3.2.1), if_neg (fun h3 => h (typedL_iff.1 h3).2)]
theorem stp_8 (h2 : intoOk sc 8 into = true) : stpT ds sg sc (.mk 8 num into args ks) = if typedL sc args [num] = true then kids8 ds sg sc num ks else -1 := by
  cases ha : argsIn sc args
  · rw [stp_args _ _ _ _ _ _ _ _ ha, if_neg (fun h => by rw [typedL_iff, ha] at h; exact absurd h.1 (by simp))]
  · rw [stp_match _ _ _ _ _ _ _ ha h2, kids8]
    by_cases h : tysOf sc args = [num]
    · rw [if_pos (typedL_iff.2 ⟨ha, h⟩)]
      by_cases hk : 0 < (armsL ds num).length ∧ ks.length = (armsL ds num).length
      · rw [if_pos ⟨hk.1, hk.2, h⟩, if_pos hk]
      · rw [if_neg (fun h3 => hk ⟨h3.1, h3.2.1⟩), if_neg hk]
    · rw [if_neg (fun h3 => h h3.2.2), if_neg (fun h3 => h (typedL_iff.1 h3).2)]
end
section
variable (ds : List DeclL) (sg : List SigL) (sc : List Int) (num : Int) (args : List Int)
theorem leafL_low {op : Int} (h : op < 10 ∨ 17 < op ∨ 10 < op ∧ op < 14) (tys : List Int) : leafL ds sg op num tys = simpleL ds sg op num tys := by rw [leafL, if_neg (by omega), if_neg (by omega)]
theorem routS_int : routS ds sg sc 0 num args = if args.length = 0 ∧ -999 ≤ num ∧ num ≤ 999 then 0 else -1 := by
  rw [routS, leafL_low _ _ _ (.inl (by omega)), simpleL, if_pos rfl]
  by_cases h : args.length = 0
  · have ha : args = [] := List.eq_nil_of_length_eq_zero h
    subst ha
    rw [if_pos (by rfl)]
    by_cases hr : -999 ≤ num ∧ num ≤ 999
    · rw [if_pos ⟨by rfl, hr⟩, if_pos ⟨rfl, hr⟩]
    · rw [if_neg (fun h3 => hr h3.2), if_neg (fun h3 => hr h3.2)]
  · refine Eq.trans ?_ (if_neg (fun h3 => h h3.1)).symm
    split
    · rw [if_neg (fun h3 => h (by have := congrArg List.length h3.1; rw [tysOf_len] at this; exact this))]
    · rfl
theorem typed_or {T : List Int} {x : Int} : (if argsIn sc args = true then (if tysOf sc args = T then x else -1) else -1) = if typedL sc args T = true then x else -1 := by
  by_cases h : typedL sc args T = true
  · rw [if_pos h, if_pos (typedL_iff.1 h).1, if_pos (typedL_iff.1 h).2]
  · rw [if_neg h]
    split
    · next h1 => rw [if_neg (fun h2 => h (typedL_iff.2 ⟨h1, h2⟩))]
    · rfl
theorem routS_two {op : Int} (h : op = 1 ∨ op = 2 ∨ op = 3 ∨ op = 4) : routS ds sg sc op 0 args = if typedL sc args [0, 0] = true then 0 else -1 := by
  rw [routS, leafL_low _ _ _ (.inl (by omega)), ← typed_or]
  simp only [simpleL, if_neg (show ¬ op = 0 by omega), if_pos h, true_and]
theorem routS_one : routS ds sg sc 5 0 args = if typedL sc args [0] = true then 0 else -1 := by
  rw [routS, leafL_low _ _ _ (.inl (by omega)), ← typed_or]
  simp [simpleL]
theorem routS_con : routS ds sg sc 6 num args = if 0 < conTypeL ds num then (if typedL sc args (conFieldsL ds num) = true then conTypeL ds num else -1) else -1 := by
  rw [routS, leafL_low _ _ _ (.inl (by omega)), ← typed_or]
  by_cases h : 0 < conTypeL ds num
  · simp [simpleL, h]
  · simp [simpleL, h]
theorem routS_cnt {op : Int} (h : 14 ≤ op ∧ op ≤ 17) : routS ds sg sc op 0 args = cntS ds sc op args := by
  rw [routS, cntS, leafL, if_pos h]
theorem routS_other {op : Int} (h : op < 0 ∨ op = 7 ∨ op = 8 ∨ op = 12 ∨ op = 13 ∨ 17 < op) : routS ds sg sc op num args = -1 := by
  rw [routS]
  split
  · rw [leafL_low _ _ _ (by omega)]
    simp only [simpleL]
    rw [if_neg (by omega), if_neg (by omega), if_neg (by omega), if_neg (by omega), if_neg (by omega), if_neg (by omega), if_neg (by omega)]
  · rfl
theorem routS_app : routS ds sg sc 11 0 args = if args.length = 2 ∧ (0 ≤ iAt args 0 ∧ iAt args 0 < (sc.length : Int)) ∧ isArr ds (iAt sc (iAt args 0).toNat) = true ∧ typedL sc (args.drop 1) [(dAt ds ((iAt sc (iAt args 0).toNat).toNat - 1)).from_] = true then (dAt ds ((iAt sc (iAt args 0).toNat).toNat - 1)).to_ else -1 := by
  rw [routS, leafL_low _ _ _ (by omega)]
  have e11 : simpleL ds sg 11 0 (tysOf sc args) = if (tysOf sc args).length = 2 ∧ isArr ds (iAt (tysOf sc args) 0) = true ∧ iAt (tysOf sc args) 1 = (dAt ds ((iAt (tysOf sc args) 0).toNat - 1)).from_ then (dAt ds ((iAt (tysOf sc args) 0).toNat - 1)).to_ else -1 := by simp [simpleL]
  rw [e11]
  by_cases hl : args.length = 2
  · match args, hl with
    | [x, y], _ =>
      have t : tysOf sc [x, y] = [iAt sc x.toNat, iAt sc y.toNat] := rfl
      have a0 : iAt [x, y] 0 = x := rfl
      have d1 : ([x, y] : List Int).drop 1 = [y] := rfl
      rw [t, a0, d1]
      have t0 : iAt [iAt sc x.toNat, iAt sc y.toNat] 0 = iAt sc x.toNat := rfl
      have t1 : iAt [iAt sc x.toNat, iAt sc y.toNat] 1 = iAt sc y.toNat := rfl
      rw [t0, t1]
      have ai : argsIn sc [x, y] = true ↔ (0 ≤ x ∧ x < (sc.length : Int)) ∧ (0 ≤ y ∧ y < (sc.length : Int)) := by simp [argsIn]
      have ty : ∀ f, typedL sc [y] [f] = true ↔ (0 ≤ y ∧ y < (sc.length : Int)) ∧ iAt sc y.toNat = f := fun f => by rw [typedL_iff]; simp [argsIn, tysOf]
      by_cases hall : (0 ≤ x ∧ x < (sc.length : Int)) ∧ isArr ds (iAt sc x.toNat) = true ∧ typedL sc [y] [(dAt ds ((iAt sc x.toNat).toNat - 1)).from_] = true
      · obtain ⟨h1, h2, h3⟩ := hall
        have h4 := (ty _).1 h3
        rw [if_pos (ai.2 ⟨h1, h4.1⟩), if_pos ⟨rfl, h2, h4.2⟩, if_pos ⟨rfl, h1, h2, h3⟩]
      · refine Eq.trans ?_ (if_neg (fun h => hall h.2)).symm
        split
        · next h1 =>
          have h2 := ai.1 h1
          rw [if_neg (fun h => hall ⟨h2.1, h.2.1, (ty _).2 ⟨h2.2, h.2.2⟩⟩)]
        · rfl
  · refine Eq.trans ?_ (if_neg (fun h => hl h.1)).symm
    split
    · rw [if_neg (fun h => hl (by rw [← tysOf_len sc args]; exact h.1))]
    · rfl
end
end Go.Proofs.Ytmekdccgjgfiaaa
/- What stepType of the reference does. -/
namespace Go.Proofs.Ytmekdccgjgfiaaa
open Go.RowKit

/-- What stepType of the reference does for one step. -/
def StS (ds : List DeclL) (rs : List RoutL) (s : StepL) : Prop := ∀ (a0 : Option Addr) (n0 c0 : Nat) (a1 : Option Addr) (n1 c1 : Nat) (av : Option Addr) (nv cv : Nat) (sc : List Int) (aa : Option Addr) (na ca : Nat) (ak : Option Addr) (nk ck : Nat) (w : World),
  NR w ds rs a0 n0 c0 a1 n1 c1 → Rd w (fun _ => True) (encInts sc) (.slice av nv cv) → Rd w (fun _ => True) (encInts s.args) (.slice aa na ca) → Rd w (fun _ => True) (encBlocks s.kids) (.slice ak nk ck) → sc.length + 4 * nS s ≤ 1052000 → allT ds.length sc = true →
  Calls Try.prog 44 #[.agg #[.slice a0 n0 c0, .slice a1 n1 c1], .slice av nv cv, .agg #[.int .i64 s.op, .int .i64 s.num, .int .i64 s.into, .slice aa na ca, .slice ak nk ck]] w fun r w' => r = .returned (.int .i64 (stpT ds (rs.map sigR) sc s)) ∧ Keep w w'

end Go.Proofs.Ytmekdccgjgfiaaa
/- The reference's types of steps. -/
namespace Go.Proofs.Ytmekdccgjgfiaaa
open Go.RowKit

section
variable (ds : List DeclL) (rs : List RoutL) (hok : sigsOk ds (rs.map sigR) = true)
include hok

set_option maxRecDepth 100000 in
set_option maxHeartbeats 4000000 in
theorem specSt_0_z (into : Int) (args : List Int) (ks : List BlockL) (IH0 : ∀ j, j < ks.length → BlS ds rs (bAt ks j).result (bAt ks j).steps) : StS ds rs (.mk 0 0 into args ks) := by
  intro a0 n0 c0 a1 n1 c1 av nv cv sc aa na ca ak nk ck w hp hv ha hk hlen hall
  refine calls_k fun Q hQ => ?_
  change Rd w (fun _ => True) (encInts args) _ at ha
  change Rd w (fun _ => True) (encBlocks ks) _ at hk
  rw [nS] at hlen
  simp only [StepL.op, StepL.num, StepL.into]
  have ht := (sigsOk_parts hok).1
  have hf := Few.of_ok ht
  have hd4 := typesOk_len ht
  have hr4 : rs.length ≤ 4 := by have := (sigsOk_parts hok).2.2.1; simpa using this
  have hn0 : n0 ≤ 4 := by have := (decls_at hp.1).1; omega
  have hnv : nv ≤ 1052000 := by have := (ints_at hv).1; omega
  have hna : na ≤ 9223372036854775807 := (ints_at ha).2.2.1
  have hnk : ks.length = nk := (blocks_at hk).1
  have hnl : args.length = na := (ints_at ha).1
  have K0 := (Keep.al w (.cells #[.slice a0 n0 c0, .slice a1 n1 c1] 36)).trans (Keep.al _ (.cells #[.int .i64 0, .int .i64 0, .int .i64 into, .slice aa na ca, .slice ak nk ck] 89))
  have R0 := (rowOf w #[.slice a0 n0 c0, .slice a1 n1 c1] 36).alloc (.cells #[.int .i64 0, .int .i64 0, .int .i64 into, .slice aa na ca, .slice ak nk ck] 89)
  have R1 := rowOf (w.alloc (.cells #[.slice a0 n0 c0, .slice a1 n1 c1] 36)) #[.int .i64 0, .int .i64 0, .int .i64 into, .slice aa na ca, .slice ak nk ck] 89
  simp only [World.size_alloc] at R1
  have HNK := Lib.hid hnk
  have HNL := Lib.hid hnl
  have HOK := Lib.hid hok
  have HAll := Lib.hid hall
  have HLen := Lib.hid hlen
  have HT := Lib.hid ht
  have HF := Lib.hid hf
  have IH := Lib.hid IH0
  clear hok hall ht IH0 hnk hnl hf
  cases hi : intoOk sc 0 into
  · have V : Hid (stpT ds (rs.map sigR) sc (.mk 0 0 into args ks) = -1) := stp_into _ _ _ _ _ _ _ _ hi
    have HI := Lib.hid hi
    clear hi
    go_enter Try.func44, Try.ntmps44
    go_wp2_with fail
    refine (specValidInto _ _ _ sc 0 0 into _ _ _ _ _ _ _ _ (hv.k K0).toInts (by omega)).mono ?_
    rw [HI.out]
    rintro e w1 ⟨rfl, p1⟩
    have K1 := Lib.hid (K0.trans p1)
    have R0' := Lib.hid (row_ext R0 p1 (fun h => h))
    have R1' := Lib.hid (row_ext R1 p1 (fun h => h))
    have x0 := R0'.out.cell (i := 0) (by simp)
    have x1 := R0'.out.cell (i := 1) (by simp)
    have y0 := R1'.out.cell (i := 0) (by simp)
    have y1 := R1'.out.cell (i := 1) (by simp)
    have y2 := R1'.out.cell (i := 2) (by simp)
    have y3 := R1'.out.cell (i := 3) (by simp)
    have y4 := R1'.out.cell (i := 4) (by simp)
    simp at x0 x1 y0 y1 y2 y3 y4
    clear R0 R1 K0 p1
    go_wp2_with fail
    exact fin_ hQ ⟨ret_i V.out.symm, K1.out⟩
  have HI := Lib.hid hi
  clear hi
  by_cases hk0 : nk = 0
  case neg =>
    have hk1 : 0 < nk := by omega
    have V : Hid (stpT ds (rs.map sigR) sc (.mk 0 0 into args ks) = -1) := stp_kids _ _ _ _ _ _ _ _ (by omega) (by omega) (by have := HNK.out; omega)
    clear hk0
    go_enter Try.func44, Try.ntmps44
    go_wp2_with fail
    refine (specValidInto _ _ _ sc 0 0 into _ _ _ _ _ _ _ _ (hv.k K0).toInts (by omega)).mono ?_
    rw [HI.out]
    rintro e w1 ⟨rfl, p1⟩
    have K1 := Lib.hid (K0.trans p1)
    have R0' := Lib.hid (row_ext R0 p1 (fun h => h))
    have R1' := Lib.hid (row_ext R1 p1 (fun h => h))
    have x0 := R0'.out.cell (i := 0) (by simp)
    have x1 := R0'.out.cell (i := 1) (by simp)
    have y0 := R1'.out.cell (i := 0) (by simp)
    have y1 := R1'.out.cell (i := 1) (by simp)
    have y2 := R1'.out.cell (i := 2) (by simp)
    have y3 := R1'.out.cell (i := 3) (by simp)
    have y4 := R1'.out.cell (i := 4) (by simp)
    simp at x0 x1 y0 y1 y2 y3 y4
    clear R0 R1 K0 p1
    go_wp2_with fail
    exact fin_ hQ ⟨ret_i V.out.symm, K1.out⟩
  subst hk0
  have V0 : Hid (stpT ds (rs.map sigR) sc (.mk 0 0 into args ks) = routS ds (rs.map sigR) sc 0 0 args) := stp_rout _ _ _ _ _ _ _ _ HI.out (by omega) (by omega) HNK.out
  by_cases hz : na = 0
  case neg =>
    have V : Hid (stpT ds (rs.map sigR) sc (.mk 0 0 into args ks) = -1) := by show _ = _; rw [V0.out, routS_int]; rw [if_neg (fun h => hz (by have := HNL.out; omega))]
    have hz' : ((na : Int) == 0) = false := by simp; omega
    clear hz
    go_enter Try.func44, Try.ntmps44
    go_wp2_with fail
    refine (specValidInto _ _ _ sc 0 0 into _ _ _ _ _ _ _ _ (hv.k K0).toInts (by omega)).mono ?_
    rw [HI.out]
    rintro e w1 ⟨rfl, p1⟩
    have K1 := Lib.hid (K0.trans p1)
    have R0' := Lib.hid (row_ext R0 p1 (fun h => h))
    have R1' := Lib.hid (row_ext R1 p1 (fun h => h))
    have x0 := R0'.out.cell (i := 0) (by simp)
    have x1 := R0'.out.cell (i := 1) (by simp)
    have y0 := R1'.out.cell (i := 0) (by simp)
    have y1 := R1'.out.cell (i := 1) (by simp)
    have y2 := R1'.out.cell (i := 2) (by simp)
    have y3 := R1'.out.cell (i := 3) (by simp)
    have y4 := R1'.out.cell (i := 4) (by simp)
    simp at x0 x1 y0 y1 y2 y3 y4
    clear R0 R1 K0 p1
    go_wp2_with fail
    exact fin_ hQ ⟨ret_i V.out.symm, K1.out⟩
  subst hz
  cases hr : decide (-999 ≤ (0 : Int) ∧ (0 : Int) ≤ 999)
  · have V : Hid (stpT ds (rs.map sigR) sc (.mk 0 0 into args ks) = -1) := by show _ = _; rw [V0.out, routS_int]; rw [if_neg (fun h => of_decide_eq_false hr h.2)]
    have HR := Lib.hid hr
    clear hr
    go_enter Try.func44, Try.ntmps44
    go_wp2_with fail
    refine (specValidInto _ _ _ sc 0 0 into _ _ _ _ _ _ _ _ (hv.k K0).toInts (by omega)).mono ?_
    rw [HI.out]
    rintro e w1 ⟨rfl, p1⟩
    have K1 := Lib.hid (K0.trans p1)
    have R0' := Lib.hid (row_ext R0 p1 (fun h => h))
    have R1' := Lib.hid (row_ext R1 p1 (fun h => h))
    have x0 := R0'.out.cell (i := 0) (by simp)
    have x1 := R0'.out.cell (i := 1) (by simp)
    have y0 := R1'.out.cell (i := 0) (by simp)
    have y1 := R1'.out.cell (i := 1) (by simp)
    have y2 := R1'.out.cell (i := 2) (by simp)
    have y3 := R1'.out.cell (i := 3) (by simp)
    have y4 := R1'.out.cell (i := 4) (by simp)
    simp at x0 x1 y0 y1 y2 y3 y4
    clear R0 R1 K0 p1
    go_wp2_with fail
    refine (specInRange _ _ _ _).mono ?_
    rw [HR.out]
    rintro e w2 ⟨rfl, rfl⟩
    go_wp2_with fail
    exact fin_ hQ ⟨ret_i V.out.symm, K1.out⟩
  have V : Hid (stpT ds (rs.map sigR) sc (.mk 0 0 into args ks) = 0) := by show _ = _; rw [V0.out, routS_int]; rw [if_pos ⟨HNL.out, of_decide_eq_true hr⟩]
  have HR := Lib.hid hr
  clear hr
  go_enter Try.func44, Try.ntmps44
  go_wp2_with fail
  refine (specValidInto _ _ _ sc 0 0 into _ _ _ _ _ _ _ _ (hv.k K0).toInts (by omega)).mono ?_
  rw [HI.out]
  rintro e w1 ⟨rfl, p1⟩
  have K1 := Lib.hid (K0.trans p1)
  have R0' := Lib.hid (row_ext R0 p1 (fun h => h))
  have R1' := Lib.hid (row_ext R1 p1 (fun h => h))
  have x0 := R0'.out.cell (i := 0) (by simp)
  have x1 := R0'.out.cell (i := 1) (by simp)
  have y0 := R1'.out.cell (i := 0) (by simp)
  have y1 := R1'.out.cell (i := 1) (by simp)
  have y2 := R1'.out.cell (i := 2) (by simp)
  have y3 := R1'.out.cell (i := 3) (by simp)
  have y4 := R1'.out.cell (i := 4) (by simp)
  simp at x0 x1 y0 y1 y2 y3 y4
  clear R0 R1 K0 p1
  go_wp2_with fail
  refine (specInRange _ _ _ _).mono ?_
  rw [HR.out]
  rintro e w2 ⟨rfl, rfl⟩
  go_wp2_with fail
  exact fin_ hQ ⟨ret_i V.out.symm, K1.out⟩

set_option maxRecDepth 100000 in
set_option maxHeartbeats 4000000 in
theorem specSt_0_n (num : Int) (hn : num ≠ 0) (into : Int) (args : List Int) (ks : List BlockL) (IH0 : ∀ j, j < ks.length → BlS ds rs (bAt ks j).result (bAt ks j).steps) : StS ds rs (.mk 0 num into args ks) := by
  intro a0 n0 c0 a1 n1 c1 av nv cv sc aa na ca ak nk ck w hp hv ha hk hlen hall
  refine calls_k fun Q hQ => ?_
  change Rd w (fun _ => True) (encInts args) _ at ha
  change Rd w (fun _ => True) (encBlocks ks) _ at hk
  rw [nS] at hlen
  simp only [StepL.op, StepL.num, StepL.into]
  have ht := (sigsOk_parts hok).1
  have hf := Few.of_ok ht
  have hd4 := typesOk_len ht
  have hr4 : rs.length ≤ 4 := by have := (sigsOk_parts hok).2.2.1; simpa using this
  have hn0 : n0 ≤ 4 := by have := (decls_at hp.1).1; omega
  have hnv : nv ≤ 1052000 := by have := (ints_at hv).1; omega
  have hna : na ≤ 9223372036854775807 := (ints_at ha).2.2.1
  have hnk : ks.length = nk := (blocks_at hk).1
  have hnl : args.length = na := (ints_at ha).1
  have K0 := (Keep.al w (.cells #[.slice a0 n0 c0, .slice a1 n1 c1] 36)).trans (Keep.al _ (.cells #[.int .i64 0, .int .i64 num, .int .i64 into, .slice aa na ca, .slice ak nk ck] 89))
  have R0 := (rowOf w #[.slice a0 n0 c0, .slice a1 n1 c1] 36).alloc (.cells #[.int .i64 0, .int .i64 num, .int .i64 into, .slice aa na ca, .slice ak nk ck] 89)
  have R1 := rowOf (w.alloc (.cells #[.slice a0 n0 c0, .slice a1 n1 c1] 36)) #[.int .i64 0, .int .i64 num, .int .i64 into, .slice aa na ca, .slice ak nk ck] 89
  simp only [World.size_alloc] at R1
  have HNK := Lib.hid hnk
  have HNL := Lib.hid hnl
  have HOK := Lib.hid hok
  have HAll := Lib.hid hall
  have HLen := Lib.hid hlen
  have HT := Lib.hid ht
  have HF := Lib.hid hf
  have IH := Lib.hid IH0
  clear hok hall ht IH0 hnk hnl hf
  have hn' : (num != 0) = true := by simpa using hn
  clear hn
  cases hi : intoOk sc 0 into
  · have V : Hid (stpT ds (rs.map sigR) sc (.mk 0 num into args ks) = -1) := stp_into _ _ _ _ _ _ _ _ hi
    have HI := Lib.hid hi
    clear hi
    go_enter Try.func44, Try.ntmps44
    go_wp2_with fail
    refine (specHasNum _ _).mono ?_
    rintro e w0 ⟨rfl, rfl⟩
    go_wp2_with fail
    refine (specValidInto _ _ _ sc 0 num into _ _ _ _ _ _ _ _ (hv.k K0).toInts (by omega)).mono ?_
    rw [HI.out]
    rintro e w1 ⟨rfl, p1⟩
    have K1 := Lib.hid (K0.trans p1)
    have R0' := Lib.hid (row_ext R0 p1 (fun h => h))
    have R1' := Lib.hid (row_ext R1 p1 (fun h => h))
    have x0 := R0'.out.cell (i := 0) (by simp)
    have x1 := R0'.out.cell (i := 1) (by simp)
    have y0 := R1'.out.cell (i := 0) (by simp)
    have y1 := R1'.out.cell (i := 1) (by simp)
    have y2 := R1'.out.cell (i := 2) (by simp)
    have y3 := R1'.out.cell (i := 3) (by simp)
    have y4 := R1'.out.cell (i := 4) (by simp)
    simp at x0 x1 y0 y1 y2 y3 y4
    clear R0 R1 K0 p1
    go_wp2_with fail
    exact fin_ hQ ⟨ret_i V.out.symm, K1.out⟩
  have HI := Lib.hid hi
  clear hi
  by_cases hk0 : nk = 0
  case neg =>
    have hk1 : 0 < nk := by omega
    have V : Hid (stpT ds (rs.map sigR) sc (.mk 0 num into args ks) = -1) := stp_kids _ _ _ _ _ _ _ _ (by omega) (by omega) (by have := HNK.out; omega)
    clear hk0
    go_enter Try.func44, Try.ntmps44
    go_wp2_with fail
    refine (specHasNum _ _).mono ?_
    rintro e w0 ⟨rfl, rfl⟩
    go_wp2_with fail
    refine (specValidInto _ _ _ sc 0 num into _ _ _ _ _ _ _ _ (hv.k K0).toInts (by omega)).mono ?_
    rw [HI.out]
    rintro e w1 ⟨rfl, p1⟩
    have K1 := Lib.hid (K0.trans p1)
    have R0' := Lib.hid (row_ext R0 p1 (fun h => h))
    have R1' := Lib.hid (row_ext R1 p1 (fun h => h))
    have x0 := R0'.out.cell (i := 0) (by simp)
    have x1 := R0'.out.cell (i := 1) (by simp)
    have y0 := R1'.out.cell (i := 0) (by simp)
    have y1 := R1'.out.cell (i := 1) (by simp)
    have y2 := R1'.out.cell (i := 2) (by simp)
    have y3 := R1'.out.cell (i := 3) (by simp)
    have y4 := R1'.out.cell (i := 4) (by simp)
    simp at x0 x1 y0 y1 y2 y3 y4
    clear R0 R1 K0 p1
    go_wp2_with fail
    exact fin_ hQ ⟨ret_i V.out.symm, K1.out⟩
  subst hk0
  have V0 : Hid (stpT ds (rs.map sigR) sc (.mk 0 num into args ks) = routS ds (rs.map sigR) sc 0 num args) := stp_rout _ _ _ _ _ _ _ _ HI.out (by omega) (by omega) HNK.out
  by_cases hz : na = 0
  case neg =>
    have V : Hid (stpT ds (rs.map sigR) sc (.mk 0 num into args ks) = -1) := by show _ = _; rw [V0.out, routS_int]; rw [if_neg (fun h => hz (by have := HNL.out; omega))]
    have hz' : ((na : Int) == 0) = false := by simp; omega
    clear hz
    go_enter Try.func44, Try.ntmps44
    go_wp2_with fail
    refine (specHasNum _ _).mono ?_
    rintro e w0 ⟨rfl, rfl⟩
    go_wp2_with fail
    refine (specValidInto _ _ _ sc 0 num into _ _ _ _ _ _ _ _ (hv.k K0).toInts (by omega)).mono ?_
    rw [HI.out]
    rintro e w1 ⟨rfl, p1⟩
    have K1 := Lib.hid (K0.trans p1)
    have R0' := Lib.hid (row_ext R0 p1 (fun h => h))
    have R1' := Lib.hid (row_ext R1 p1 (fun h => h))
    have x0 := R0'.out.cell (i := 0) (by simp)
    have x1 := R0'.out.cell (i := 1) (by simp)
    have y0 := R1'.out.cell (i := 0) (by simp)
    have y1 := R1'.out.cell (i := 1) (by simp)
    have y2 := R1'.out.cell (i := 2) (by simp)
    have y3 := R1'.out.cell (i := 3) (by simp)
    have y4 := R1'.out.cell (i := 4) (by simp)
    simp at x0 x1 y0 y1 y2 y3 y4
    clear R0 R1 K0 p1
    go_wp2_with fail
    exact fin_ hQ ⟨ret_i V.out.symm, K1.out⟩
  subst hz
  cases hr : decide (-999 ≤ num ∧ num ≤ 999)
  · have V : Hid (stpT ds (rs.map sigR) sc (.mk 0 num into args ks) = -1) := by show _ = _; rw [V0.out, routS_int]; rw [if_neg (fun h => of_decide_eq_false hr h.2)]
    have HR := Lib.hid hr
    clear hr
    go_enter Try.func44, Try.ntmps44
    go_wp2_with fail
    refine (specHasNum _ _).mono ?_
    rintro e w0 ⟨rfl, rfl⟩
    go_wp2_with fail
    refine (specValidInto _ _ _ sc 0 num into _ _ _ _ _ _ _ _ (hv.k K0).toInts (by omega)).mono ?_
    rw [HI.out]
    rintro e w1 ⟨rfl, p1⟩
    have K1 := Lib.hid (K0.trans p1)
    have R0' := Lib.hid (row_ext R0 p1 (fun h => h))
    have R1' := Lib.hid (row_ext R1 p1 (fun h => h))
    have x0 := R0'.out.cell (i := 0) (by simp)
    have x1 := R0'.out.cell (i := 1) (by simp)
    have y0 := R1'.out.cell (i := 0) (by simp)
    have y1 := R1'.out.cell (i := 1) (by simp)
    have y2 := R1'.out.cell (i := 2) (by simp)
    have y3 := R1'.out.cell (i := 3) (by simp)
    have y4 := R1'.out.cell (i := 4) (by simp)
    simp at x0 x1 y0 y1 y2 y3 y4
    clear R0 R1 K0 p1
    go_wp2_with fail
    refine (specInRange _ _ _ _).mono ?_
    rw [HR.out]
    rintro e w2 ⟨rfl, rfl⟩
    go_wp2_with fail
    exact fin_ hQ ⟨ret_i V.out.symm, K1.out⟩
  have V : Hid (stpT ds (rs.map sigR) sc (.mk 0 num into args ks) = 0) := by show _ = _; rw [V0.out, routS_int]; rw [if_pos ⟨HNL.out, of_decide_eq_true hr⟩]
  have HR := Lib.hid hr
  clear hr
  go_enter Try.func44, Try.ntmps44
  go_wp2_with fail
  refine (specHasNum _ _).mono ?_
  rintro e w0 ⟨rfl, rfl⟩
  go_wp2_with fail
  refine (specValidInto _ _ _ sc 0 num into _ _ _ _ _ _ _ _ (hv.k K0).toInts (by omega)).mono ?_
  rw [HI.out]
  rintro e w1 ⟨rfl, p1⟩
  have K1 := Lib.hid (K0.trans p1)
  have R0' := Lib.hid (row_ext R0 p1 (fun h => h))
  have R1' := Lib.hid (row_ext R1 p1 (fun h => h))
  have x0 := R0'.out.cell (i := 0) (by simp)
  have x1 := R0'.out.cell (i := 1) (by simp)
  have y0 := R1'.out.cell (i := 0) (by simp)
  have y1 := R1'.out.cell (i := 1) (by simp)
  have y2 := R1'.out.cell (i := 2) (by simp)
  have y3 := R1'.out.cell (i := 3) (by simp)
  have y4 := R1'.out.cell (i := 4) (by simp)
  simp at x0 x1 y0 y1 y2 y3 y4
  clear R0 R1 K0 p1
  go_wp2_with fail
  refine (specInRange _ _ _ _).mono ?_
  rw [HR.out]
  rintro e w2 ⟨rfl, rfl⟩
  go_wp2_with fail
  exact fin_ hQ ⟨ret_i V.out.symm, K1.out⟩

set_option maxRecDepth 100000 in
set_option maxHeartbeats 4000000 in
theorem specSt_1 (into : Int) (args : List Int) (ks : List BlockL) (IH0 : ∀ j, j < ks.length → BlS ds rs (bAt ks j).result (bAt ks j).steps) : StS ds rs (.mk 1 0 into args ks) := by
  intro a0 n0 c0 a1 n1 c1 av nv cv sc aa na ca ak nk ck w hp hv ha hk hlen hall
  refine calls_k fun Q hQ => ?_
  change Rd w (fun _ => True) (encInts args) _ at ha
  change Rd w (fun _ => True) (encBlocks ks) _ at hk
  rw [nS] at hlen
  simp only [StepL.op, StepL.num, StepL.into]
  have ht := (sigsOk_parts hok).1
  have hf := Few.of_ok ht
  have hd4 := typesOk_len ht
  have hr4 : rs.length ≤ 4 := by have := (sigsOk_parts hok).2.2.1; simpa using this
  have hn0 : n0 ≤ 4 := by have := (decls_at hp.1).1; omega
  have hnv : nv ≤ 1052000 := by have := (ints_at hv).1; omega
  have hna : na ≤ 9223372036854775807 := (ints_at ha).2.2.1
  have hnk : ks.length = nk := (blocks_at hk).1
  have hnl : args.length = na := (ints_at ha).1
  have K0 := (Keep.al w (.cells #[.slice a0 n0 c0, .slice a1 n1 c1] 36)).trans (Keep.al _ (.cells #[.int .i64 1, .int .i64 0, .int .i64 into, .slice aa na ca, .slice ak nk ck] 89))
  have R0 := (rowOf w #[.slice a0 n0 c0, .slice a1 n1 c1] 36).alloc (.cells #[.int .i64 1, .int .i64 0, .int .i64 into, .slice aa na ca, .slice ak nk ck] 89)
  have R1 := rowOf (w.alloc (.cells #[.slice a0 n0 c0, .slice a1 n1 c1] 36)) #[.int .i64 1, .int .i64 0, .int .i64 into, .slice aa na ca, .slice ak nk ck] 89
  simp only [World.size_alloc] at R1
  have HNK := Lib.hid hnk
  have HNL := Lib.hid hnl
  have HOK := Lib.hid hok
  have HAll := Lib.hid hall
  have HLen := Lib.hid hlen
  have HT := Lib.hid ht
  have HF := Lib.hid hf
  have IH := Lib.hid IH0
  clear hok hall ht IH0 hnk hnl hf
  cases hi : intoOk sc 1 into
  · have V : Hid (stpT ds (rs.map sigR) sc (.mk 1 0 into args ks) = -1) := stp_into _ _ _ _ _ _ _ _ hi
    have HI := Lib.hid hi
    clear hi
    go_enter Try.func44, Try.ntmps44
    go_wp2_with fail
    refine (specValidInto _ _ _ sc 1 0 into _ _ _ _ _ _ _ _ (hv.k K0).toInts (by omega)).mono ?_
    rw [HI.out]
    rintro e w1 ⟨rfl, p1⟩
    have K1 := Lib.hid (K0.trans p1)
    have R0' := Lib.hid (row_ext R0 p1 (fun h => h))
    have R1' := Lib.hid (row_ext R1 p1 (fun h => h))
    have x0 := R0'.out.cell (i := 0) (by simp)
    have x1 := R0'.out.cell (i := 1) (by simp)
    have y0 := R1'.out.cell (i := 0) (by simp)
    have y1 := R1'.out.cell (i := 1) (by simp)
    have y2 := R1'.out.cell (i := 2) (by simp)
    have y3 := R1'.out.cell (i := 3) (by simp)
    have y4 := R1'.out.cell (i := 4) (by simp)
    simp at x0 x1 y0 y1 y2 y3 y4
    clear R0 R1 K0 p1
    go_wp2_with fail
    exact fin_ hQ ⟨ret_i V.out.symm, K1.out⟩
  have HI := Lib.hid hi
  clear hi
  by_cases hk0 : nk = 0
  case neg =>
    have hk1 : 0 < nk := by omega
    have V : Hid (stpT ds (rs.map sigR) sc (.mk 1 0 into args ks) = -1) := stp_kids _ _ _ _ _ _ _ _ (by omega) (by omega) (by have := HNK.out; omega)
    clear hk0
    go_enter Try.func44, Try.ntmps44
    go_wp2_with fail
    refine (specValidInto _ _ _ sc 1 0 into _ _ _ _ _ _ _ _ (hv.k K0).toInts (by omega)).mono ?_
    rw [HI.out]
    rintro e w1 ⟨rfl, p1⟩
    have K1 := Lib.hid (K0.trans p1)
    have R0' := Lib.hid (row_ext R0 p1 (fun h => h))
    have R1' := Lib.hid (row_ext R1 p1 (fun h => h))
    have x0 := R0'.out.cell (i := 0) (by simp)
    have x1 := R0'.out.cell (i := 1) (by simp)
    have y0 := R1'.out.cell (i := 0) (by simp)
    have y1 := R1'.out.cell (i := 1) (by simp)
    have y2 := R1'.out.cell (i := 2) (by simp)
    have y3 := R1'.out.cell (i := 3) (by simp)
    have y4 := R1'.out.cell (i := 4) (by simp)
    simp at x0 x1 y0 y1 y2 y3 y4
    clear R0 R1 K0 p1
    go_wp2_with fail
    exact fin_ hQ ⟨ret_i V.out.symm, K1.out⟩
  subst hk0
  have V0 : Hid (stpT ds (rs.map sigR) sc (.mk 1 0 into args ks) = routS ds (rs.map sigR) sc 1 0 args) := stp_rout _ _ _ _ _ _ _ _ HI.out (by omega) (by omega) HNK.out
  cases htd : typedL sc args [0, 0]
  · have V : Hid (stpT ds (rs.map sigR) sc (.mk 1 0 into args ks) = -1) := by show _ = _; rw [V0.out, routS_two _ _ _ _ (by omega)]; rw [if_neg (by rw [htd]; simp)]
    have HTD := Lib.hid htd
    clear htd
    go_enter Try.func44, Try.ntmps44
    go_wp2_with fail
    refine (specValidInto _ _ _ sc 1 0 into _ _ _ _ _ _ _ _ (hv.k K0).toInts (by omega)).mono ?_
    rw [HI.out]
    rintro e w1 ⟨rfl, p1⟩
    have K1 := Lib.hid (K0.trans p1)
    have R0' := Lib.hid (row_ext R0 p1 (fun h => h))
    have R1' := Lib.hid (row_ext R1 p1 (fun h => h))
    have x0 := R0'.out.cell (i := 0) (by simp)
    have x1 := R0'.out.cell (i := 1) (by simp)
    have y0 := R1'.out.cell (i := 0) (by simp)
    have y1 := R1'.out.cell (i := 1) (by simp)
    have y2 := R1'.out.cell (i := 2) (by simp)
    have y3 := R1'.out.cell (i := 3) (by simp)
    have y4 := R1'.out.cell (i := 4) (by simp)
    simp at x0 x1 y0 y1 y2 y3 y4
    clear R0 R1 K0 p1
    go_wp2_with fail
    refine (specTyped _ _ _ sc _ _ _ args _ _ _ [0, 0] _ _ _ _ ((hv.k K1.out).k (Keep.al _ _)).toInts ((ha.k K1.out).k (Keep.al _ _)).toInts (lit_intsD w1 (fun _ => True) _ [0, 0] _ 2 trivial rfl rfl (by omega)).toInts (by omega) hna).mono ?_
    rw [HTD.out]
    rintro e w2 ⟨rfl, p2⟩
    have pk := Ext.trans (Keep.al w1 _) p2
    have KE := Lib.hid (K1.out.trans pk)
    have x0 := (pk.cell (World.block_lt_of_cell? _ _ x0) (fun h => h)).trans x0
    have x1 := (pk.cell (World.block_lt_of_cell? _ _ x1) (fun h => h)).trans x1
    have y0 := (pk.cell (World.block_lt_of_cell? _ _ y0) (fun h => h)).trans y0
    have y1 := (pk.cell (World.block_lt_of_cell? _ _ y1) (fun h => h)).trans y1
    have y2 := (pk.cell (World.block_lt_of_cell? _ _ y2) (fun h => h)).trans y2
    have y3 := (pk.cell (World.block_lt_of_cell? _ _ y3) (fun h => h)).trans y3
    have y4 := (pk.cell (World.block_lt_of_cell? _ _ y4) (fun h => h)).trans y4
    clear pk p2
    go_wp2_with fail
    exact fin_ hQ ⟨ret_i V.out.symm, KE.out⟩
  have HTD := Lib.hid htd
  clear htd
  have V : Hid (stpT ds (rs.map sigR) sc (.mk 1 0 into args ks) = 0) := by show _ = _; rw [V0.out, routS_two _ _ _ _ (by omega)]; rw [if_pos HTD.out]
  go_enter Try.func44, Try.ntmps44
  go_wp2_with fail
  refine (specValidInto _ _ _ sc 1 0 into _ _ _ _ _ _ _ _ (hv.k K0).toInts (by omega)).mono ?_
  rw [HI.out]
  rintro e w1 ⟨rfl, p1⟩
  have K1 := Lib.hid (K0.trans p1)
  have R0' := Lib.hid (row_ext R0 p1 (fun h => h))
  have R1' := Lib.hid (row_ext R1 p1 (fun h => h))
  have x0 := R0'.out.cell (i := 0) (by simp)
  have x1 := R0'.out.cell (i := 1) (by simp)
  have y0 := R1'.out.cell (i := 0) (by simp)
  have y1 := R1'.out.cell (i := 1) (by simp)
  have y2 := R1'.out.cell (i := 2) (by simp)
  have y3 := R1'.out.cell (i := 3) (by simp)
  have y4 := R1'.out.cell (i := 4) (by simp)
  simp at x0 x1 y0 y1 y2 y3 y4
  clear R0 R1 K0 p1
  go_wp2_with fail
  refine (specTyped _ _ _ sc _ _ _ args _ _ _ [0, 0] _ _ _ _ ((hv.k K1.out).k (Keep.al _ _)).toInts ((ha.k K1.out).k (Keep.al _ _)).toInts (lit_intsD w1 (fun _ => True) _ [0, 0] _ 2 trivial rfl rfl (by omega)).toInts (by omega) hna).mono ?_
  rw [HTD.out]
  rintro e w2 ⟨rfl, p2⟩
  have pk := Ext.trans (Keep.al w1 _) p2
  have KE := Lib.hid (K1.out.trans pk)
  have x0 := (pk.cell (World.block_lt_of_cell? _ _ x0) (fun h => h)).trans x0
  have x1 := (pk.cell (World.block_lt_of_cell? _ _ x1) (fun h => h)).trans x1
  have y0 := (pk.cell (World.block_lt_of_cell? _ _ y0) (fun h => h)).trans y0
  have y1 := (pk.cell (World.block_lt_of_cell? _ _ y1) (fun h => h)).trans y1
  have y2 := (pk.cell (World.block_lt_of_cell? _ _ y2) (fun h => h)).trans y2
  have y3 := (pk.cell (World.block_lt_of_cell? _ _ y3) (fun h => h)).trans y3
  have y4 := (pk.cell (World.block_lt_of_cell? _ _ y4) (fun h => h)).trans y4
  clear pk p2
  go_wp2_with fail
  exact fin_ hQ ⟨ret_i V.out.symm, KE.out⟩

set_option maxRecDepth 100000 in
set_option maxHeartbeats 4000000 in
theorem specSt_2 (into : Int) (args : List Int) (ks : List BlockL) (IH0 : ∀ j, j < ks.length → BlS ds rs (bAt ks j).result (bAt ks j).steps) : StS ds rs (.mk 2 0 into args ks) := by
  intro a0 n0 c0 a1 n1 c1 av nv cv sc aa na ca ak nk ck w hp hv ha hk hlen hall
  refine calls_k fun Q hQ => ?_
  change Rd w (fun _ => True) (encInts args) _ at ha
  change Rd w (fun _ => True) (encBlocks ks) _ at hk
  rw [nS] at hlen
  simp only [StepL.op, StepL.num, StepL.into]
  have ht := (sigsOk_parts hok).1
  have hf := Few.of_ok ht
  have hd4 := typesOk_len ht
  have hr4 : rs.length ≤ 4 := by have := (sigsOk_parts hok).2.2.1; simpa using this
  have hn0 : n0 ≤ 4 := by have := (decls_at hp.1).1; omega
  have hnv : nv ≤ 1052000 := by have := (ints_at hv).1; omega
  have hna : na ≤ 9223372036854775807 := (ints_at ha).2.2.1
  have hnk : ks.length = nk := (blocks_at hk).1
  have hnl : args.length = na := (ints_at ha).1
  have K0 := (Keep.al w (.cells #[.slice a0 n0 c0, .slice a1 n1 c1] 36)).trans (Keep.al _ (.cells #[.int .i64 2, .int .i64 0, .int .i64 into, .slice aa na ca, .slice ak nk ck] 89))
  have R0 := (rowOf w #[.slice a0 n0 c0, .slice a1 n1 c1] 36).alloc (.cells #[.int .i64 2, .int .i64 0, .int .i64 into, .slice aa na ca, .slice ak nk ck] 89)
  have R1 := rowOf (w.alloc (.cells #[.slice a0 n0 c0, .slice a1 n1 c1] 36)) #[.int .i64 2, .int .i64 0, .int .i64 into, .slice aa na ca, .slice ak nk ck] 89
  simp only [World.size_alloc] at R1
  have HNK := Lib.hid hnk
  have HNL := Lib.hid hnl
  have HOK := Lib.hid hok
  have HAll := Lib.hid hall
  have HLen := Lib.hid hlen
  have HT := Lib.hid ht
  have HF := Lib.hid hf
  have IH := Lib.hid IH0
  clear hok hall ht IH0 hnk hnl hf
  cases hi : intoOk sc 2 into
  · have V : Hid (stpT ds (rs.map sigR) sc (.mk 2 0 into args ks) = -1) := stp_into _ _ _ _ _ _ _ _ hi
    have HI := Lib.hid hi
    clear hi
    go_enter Try.func44, Try.ntmps44
    go_wp2_with fail
    refine (specValidInto _ _ _ sc 2 0 into _ _ _ _ _ _ _ _ (hv.k K0).toInts (by omega)).mono ?_
    rw [HI.out]
    rintro e w1 ⟨rfl, p1⟩
    have K1 := Lib.hid (K0.trans p1)
    have R0' := Lib.hid (row_ext R0 p1 (fun h => h))
    have R1' := Lib.hid (row_ext R1 p1 (fun h => h))
    have x0 := R0'.out.cell (i := 0) (by simp)
    have x1 := R0'.out.cell (i := 1) (by simp)
    have y0 := R1'.out.cell (i := 0) (by simp)
    have y1 := R1'.out.cell (i := 1) (by simp)
    have y2 := R1'.out.cell (i := 2) (by simp)
    have y3 := R1'.out.cell (i := 3) (by simp)
    have y4 := R1'.out.cell (i := 4) (by simp)
    simp at x0 x1 y0 y1 y2 y3 y4
    clear R0 R1 K0 p1
    go_wp2_with fail
    exact fin_ hQ ⟨ret_i V.out.symm, K1.out⟩
  have HI := Lib.hid hi
  clear hi
  by_cases hk0 : nk = 0
  case neg =>
    have hk1 : 0 < nk := by omega
    have V : Hid (stpT ds (rs.map sigR) sc (.mk 2 0 into args ks) = -1) := stp_kids _ _ _ _ _ _ _ _ (by omega) (by omega) (by have := HNK.out; omega)
    clear hk0
    go_enter Try.func44, Try.ntmps44
    go_wp2_with fail
    refine (specValidInto _ _ _ sc 2 0 into _ _ _ _ _ _ _ _ (hv.k K0).toInts (by omega)).mono ?_
    rw [HI.out]
    rintro e w1 ⟨rfl, p1⟩
    have K1 := Lib.hid (K0.trans p1)
    have R0' := Lib.hid (row_ext R0 p1 (fun h => h))
    have R1' := Lib.hid (row_ext R1 p1 (fun h => h))
    have x0 := R0'.out.cell (i := 0) (by simp)
    have x1 := R0'.out.cell (i := 1) (by simp)
    have y0 := R1'.out.cell (i := 0) (by simp)
    have y1 := R1'.out.cell (i := 1) (by simp)
    have y2 := R1'.out.cell (i := 2) (by simp)
    have y3 := R1'.out.cell (i := 3) (by simp)
    have y4 := R1'.out.cell (i := 4) (by simp)
    simp at x0 x1 y0 y1 y2 y3 y4
    clear R0 R1 K0 p1
    go_wp2_with fail
    exact fin_ hQ ⟨ret_i V.out.symm, K1.out⟩
  subst hk0
  have V0 : Hid (stpT ds (rs.map sigR) sc (.mk 2 0 into args ks) = routS ds (rs.map sigR) sc 2 0 args) := stp_rout _ _ _ _ _ _ _ _ HI.out (by omega) (by omega) HNK.out
  cases htd : typedL sc args [0, 0]
  · have V : Hid (stpT ds (rs.map sigR) sc (.mk 2 0 into args ks) = -1) := by show _ = _; rw [V0.out, routS_two _ _ _ _ (by omega)]; rw [if_neg (by rw [htd]; simp)]
    have HTD := Lib.hid htd
    clear htd
    go_enter Try.func44, Try.ntmps44
    go_wp2_with fail
    refine (specValidInto _ _ _ sc 2 0 into _ _ _ _ _ _ _ _ (hv.k K0).toInts (by omega)).mono ?_
    rw [HI.out]
    rintro e w1 ⟨rfl, p1⟩
    have K1 := Lib.hid (K0.trans p1)
    have R0' := Lib.hid (row_ext R0 p1 (fun h => h))
    have R1' := Lib.hid (row_ext R1 p1 (fun h => h))
    have x0 := R0'.out.cell (i := 0) (by simp)
    have x1 := R0'.out.cell (i := 1) (by simp)
    have y0 := R1'.out.cell (i := 0) (by simp)
    have y1 := R1'.out.cell (i := 1) (by simp)
    have y2 := R1'.out.cell (i := 2) (by simp)
    have y3 := R1'.out.cell (i := 3) (by simp)
    have y4 := R1'.out.cell (i := 4) (by simp)
    simp at x0 x1 y0 y1 y2 y3 y4
    clear R0 R1 K0 p1
    go_wp2_with fail
    refine (specTyped _ _ _ sc _ _ _ args _ _ _ [0, 0] _ _ _ _ ((hv.k K1.out).k (Keep.al _ _)).toInts ((ha.k K1.out).k (Keep.al _ _)).toInts (lit_intsD w1 (fun _ => True) _ [0, 0] _ 2 trivial rfl rfl (by omega)).toInts (by omega) hna).mono ?_
    rw [HTD.out]
    rintro e w2 ⟨rfl, p2⟩
    have pk := Ext.trans (Keep.al w1 _) p2
    have KE := Lib.hid (K1.out.trans pk)
    have x0 := (pk.cell (World.block_lt_of_cell? _ _ x0) (fun h => h)).trans x0
    have x1 := (pk.cell (World.block_lt_of_cell? _ _ x1) (fun h => h)).trans x1
    have y0 := (pk.cell (World.block_lt_of_cell? _ _ y0) (fun h => h)).trans y0
    have y1 := (pk.cell (World.block_lt_of_cell? _ _ y1) (fun h => h)).trans y1
    have y2 := (pk.cell (World.block_lt_of_cell? _ _ y2) (fun h => h)).trans y2
    have y3 := (pk.cell (World.block_lt_of_cell? _ _ y3) (fun h => h)).trans y3
    have y4 := (pk.cell (World.block_lt_of_cell? _ _ y4) (fun h => h)).trans y4
    clear pk p2
    go_wp2_with fail
    exact fin_ hQ ⟨ret_i V.out.symm, KE.out⟩
  have HTD := Lib.hid htd
  clear htd
  have V : Hid (stpT ds (rs.map sigR) sc (.mk 2 0 into args ks) = 0) := by show _ = _; rw [V0.out, routS_two _ _ _ _ (by omega)]; rw [if_pos HTD.out]
  go_enter Try.func44, Try.ntmps44
  go_wp2_with fail
  refine (specValidInto _ _ _ sc 2 0 into _ _ _ _ _ _ _ _ (hv.k K0).toInts (by omega)).mono ?_
  rw [HI.out]
  rintro e w1 ⟨rfl, p1⟩
  have K1 := Lib.hid (K0.trans p1)
  have R0' := Lib.hid (row_ext R0 p1 (fun h => h))
  have R1' := Lib.hid (row_ext R1 p1 (fun h => h))
  have x0 := R0'.out.cell (i := 0) (by simp)
  have x1 := R0'.out.cell (i := 1) (by simp)
  have y0 := R1'.out.cell (i := 0) (by simp)
  have y1 := R1'.out.cell (i := 1) (by simp)
  have y2 := R1'.out.cell (i := 2) (by simp)
  have y3 := R1'.out.cell (i := 3) (by simp)
  have y4 := R1'.out.cell (i := 4) (by simp)
  simp at x0 x1 y0 y1 y2 y3 y4
  clear R0 R1 K0 p1
  go_wp2_with fail
  refine (specTyped _ _ _ sc _ _ _ args _ _ _ [0, 0] _ _ _ _ ((hv.k K1.out).k (Keep.al _ _)).toInts ((ha.k K1.out).k (Keep.al _ _)).toInts (lit_intsD w1 (fun _ => True) _ [0, 0] _ 2 trivial rfl rfl (by omega)).toInts (by omega) hna).mono ?_
  rw [HTD.out]
  rintro e w2 ⟨rfl, p2⟩
  have pk := Ext.trans (Keep.al w1 _) p2
  have KE := Lib.hid (K1.out.trans pk)
  have x0 := (pk.cell (World.block_lt_of_cell? _ _ x0) (fun h => h)).trans x0
  have x1 := (pk.cell (World.block_lt_of_cell? _ _ x1) (fun h => h)).trans x1
  have y0 := (pk.cell (World.block_lt_of_cell? _ _ y0) (fun h => h)).trans y0
  have y1 := (pk.cell (World.block_lt_of_cell? _ _ y1) (fun h => h)).trans y1
  have y2 := (pk.cell (World.block_lt_of_cell? _ _ y2) (fun h => h)).trans y2
  have y3 := (pk.cell (World.block_lt_of_cell? _ _ y3) (fun h => h)).trans y3
  have y4 := (pk.cell (World.block_lt_of_cell? _ _ y4) (fun h => h)).trans y4
  clear pk p2
  go_wp2_with fail
  exact fin_ hQ ⟨ret_i V.out.symm, KE.out⟩
end
end Go.Proofs.Ytmekdccgjgfiaaa
