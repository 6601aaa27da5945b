/- The reference's types of steps. -/
import Derived.Test.YtkapldpmjkdmcaaGreatTAG
namespace Go.Proofs.YtkapldpmjkdmcaaGreat
open Go.RowKit

section
variable (ds : List DeclL) (rs : List RoutL) (hok : sigsOk ds (rs.map sigR) = true)
include hok

set_option maxRecDepth 100000 in
set_option maxHeartbeats 4000000 in
theorem specSt_0_z (into : Int) (args : List Int) (ks : List BlockL) (IH0 : ∀ j, j < ks.length → BlS ds rs (bAt ks j).result (bAt ks j).steps) : StS ds rs (.mk 0 0 into args ks) := by
  intro a0 n0 c0 a1 n1 c1 av nv cv sc aa na ca ak nk ck w hp hv ha hk hlen hall
  refine calls_k fun Q hQ => ?_
  change Rd w (fun _ => True) (encInts args) _ at ha
  change Rd w (fun _ => True) (encBlocks ks) _ at hk
  rw [nS] at hlen
  simp only [StepL.op, StepL.num, StepL.into]
  have ht := (sigsOk_parts hok).1
  have hf := Few.of_ok ht
  have hd4 := typesOk_len ht
  have hr4 : rs.length ≤ 4 := by have := (sigsOk_parts hok).2.2.1; simpa using this
  have hn0 : n0 ≤ 4 := by have := (decls_at hp.1).1; omega
  have hnv : nv ≤ 1052000 := by have := (ints_at hv).1; omega
  have hna : na ≤ 9223372036854775807 := (ints_at ha).2.2.1
  have hnk : ks.length = nk := (blocks_at hk).1
  have hnl : args.length = na := (ints_at ha).1
  have K0 := (Keep.al w (.cells #[.slice a0 n0 c0, .slice a1 n1 c1] 30)).trans (Keep.al _ (.cells #[.int .i64 0, .int .i64 0, .int .i64 into, .slice aa na ca, .slice ak nk ck] 136))
  have R0 := (rowOf w #[.slice a0 n0 c0, .slice a1 n1 c1] 30).alloc (.cells #[.int .i64 0, .int .i64 0, .int .i64 into, .slice aa na ca, .slice ak nk ck] 136)
  have R1 := rowOf (w.alloc (.cells #[.slice a0 n0 c0, .slice a1 n1 c1] 30)) #[.int .i64 0, .int .i64 0, .int .i64 into, .slice aa na ca, .slice ak nk ck] 136
  simp only [World.size_alloc] at R1
  have HNK := Lib.hid hnk
  have HNL := Lib.hid hnl
  have HOK := Lib.hid hok
  have HAll := Lib.hid hall
  have HLen := Lib.hid hlen
  have HT := Lib.hid ht
  have HF := Lib.hid hf
  have IH := Lib.hid IH0
  clear hok hall ht IH0 hnk hnl hf
  cases hi : intoOk sc 0 into
  · have V : Hid (stpT ds (rs.map sigR) sc (.mk 0 0 into args ks) = -1) := stp_into _ _ _ _ _ _ _ _ hi
    have HI := Lib.hid hi
    clear hi
    go_enter Tryz.func129, Tryz.ntmps129
    go_wp2_with fail
    refine (specValidInto _ _ _ sc 0 0 into _ _ _ _ _ _ _ _ (hv.k K0).toInts (by omega)).mono ?_
    rw [HI.out]
    rintro e w1 ⟨rfl, p1⟩
    have K1 := Lib.hid (K0.trans p1)
    have R0' := Lib.hid (row_ext R0 p1 (fun h => h))
    have R1' := Lib.hid (row_ext R1 p1 (fun h => h))
    have x0 := R0'.out.cell (i := 0) (by simp)
    have x1 := R0'.out.cell (i := 1) (by simp)
    have y0 := R1'.out.cell (i := 0) (by simp)
    have y1 := R1'.out.cell (i := 1) (by simp)
    have y2 := R1'.out.cell (i := 2) (by simp)
    have y3 := R1'.out.cell (i := 3) (by simp)
    have y4 := R1'.out.cell (i := 4) (by simp)
    simp at x0 x1 y0 y1 y2 y3 y4
    clear R0 R1 K0 p1
    go_wp2_with fail
    exact fin_ hQ ⟨ret_i V.out.symm, K1.out⟩
  have HI := Lib.hid hi
  clear hi
  by_cases hk0 : nk = 0
  case neg =>
    have hk1 : 0 < nk := by omega
    have V : Hid (stpT ds (rs.map sigR) sc (.mk 0 0 into args ks) = -1) := stp_kids _ _ _ _ _ _ _ _ (by omega) (by omega) (by have := HNK.out; omega)
    clear hk0
    go_enter Tryz.func129, Tryz.ntmps129
    go_wp2_with fail
    refine (specValidInto _ _ _ sc 0 0 into _ _ _ _ _ _ _ _ (hv.k K0).toInts (by omega)).mono ?_
    rw [HI.out]
    rintro e w1 ⟨rfl, p1⟩
    have K1 := Lib.hid (K0.trans p1)
    have R0' := Lib.hid (row_ext R0 p1 (fun h => h))
    have R1' := Lib.hid (row_ext R1 p1 (fun h => h))
    have x0 := R0'.out.cell (i := 0) (by simp)
    have x1 := R0'.out.cell (i := 1) (by simp)
    have y0 := R1'.out.cell (i := 0) (by simp)
    have y1 := R1'.out.cell (i := 1) (by simp)
    have y2 := R1'.out.cell (i := 2) (by simp)
    have y3 := R1'.out.cell (i := 3) (by simp)
    have y4 := R1'.out.cell (i := 4) (by simp)
    simp at x0 x1 y0 y1 y2 y3 y4
    clear R0 R1 K0 p1
    go_wp2_with fail
    exact fin_ hQ ⟨ret_i V.out.symm, K1.out⟩
  subst hk0
  have V0 : Hid (stpT ds (rs.map sigR) sc (.mk 0 0 into args ks) = routS ds (rs.map sigR) sc 0 0 args) := stp_rout _ _ _ _ _ _ _ _ HI.out (by omega) (by omega) HNK.out
  by_cases hz : na = 0
  case neg =>
    have V : Hid (stpT ds (rs.map sigR) sc (.mk 0 0 into args ks) = -1) := by show _ = _; rw [V0.out, routS_int]; rw [if_neg (fun h => hz (by have := HNL.out; omega))]
    have hz' : ((na : Int) == 0) = false := by simp; omega
    clear hz
    go_enter Tryz.func129, Tryz.ntmps129
    go_wp2_with fail
    refine (specValidInto _ _ _ sc 0 0 into _ _ _ _ _ _ _ _ (hv.k K0).toInts (by omega)).mono ?_
    rw [HI.out]
    rintro e w1 ⟨rfl, p1⟩
    have K1 := Lib.hid (K0.trans p1)
    have R0' := Lib.hid (row_ext R0 p1 (fun h => h))
    have R1' := Lib.hid (row_ext R1 p1 (fun h => h))
    have x0 := R0'.out.cell (i := 0) (by simp)
    have x1 := R0'.out.cell (i := 1) (by simp)
    have y0 := R1'.out.cell (i := 0) (by simp)
    have y1 := R1'.out.cell (i := 1) (by simp)
    have y2 := R1'.out.cell (i := 2) (by simp)
    have y3 := R1'.out.cell (i := 3) (by simp)
    have y4 := R1'.out.cell (i := 4) (by simp)
    simp at x0 x1 y0 y1 y2 y3 y4
    clear R0 R1 K0 p1
    go_wp2_with fail
    exact fin_ hQ ⟨ret_i V.out.symm, K1.out⟩
  subst hz
  cases hr : decide (-999 ≤ (0 : Int) ∧ (0 : Int) ≤ 999)
  · have V : Hid (stpT ds (rs.map sigR) sc (.mk 0 0 into args ks) = -1) := by show _ = _; rw [V0.out, routS_int]; rw [if_neg (fun h => of_decide_eq_false hr h.2)]
    have HR := Lib.hid hr
    clear hr
    go_enter Tryz.func129, Tryz.ntmps129
    go_wp2_with fail
    refine (specValidInto _ _ _ sc 0 0 into _ _ _ _ _ _ _ _ (hv.k K0).toInts (by omega)).mono ?_
    rw [HI.out]
    rintro e w1 ⟨rfl, p1⟩
    have K1 := Lib.hid (K0.trans p1)
    have R0' := Lib.hid (row_ext R0 p1 (fun h => h))
    have R1' := Lib.hid (row_ext R1 p1 (fun h => h))
    have x0 := R0'.out.cell (i := 0) (by simp)
    have x1 := R0'.out.cell (i := 1) (by simp)
    have y0 := R1'.out.cell (i := 0) (by simp)
    have y1 := R1'.out.cell (i := 1) (by simp)
    have y2 := R1'.out.cell (i := 2) (by simp)
    have y3 := R1'.out.cell (i := 3) (by simp)
    have y4 := R1'.out.cell (i := 4) (by simp)
    simp at x0 x1 y0 y1 y2 y3 y4
    clear R0 R1 K0 p1
    go_wp2_with fail
    refine (specInRange _ _ _ _).mono ?_
    rw [HR.out]
    rintro e w2 ⟨rfl, rfl⟩
    go_wp2_with fail
    exact fin_ hQ ⟨ret_i V.out.symm, K1.out⟩
  have V : Hid (stpT ds (rs.map sigR) sc (.mk 0 0 into args ks) = 0) := by show _ = _; rw [V0.out, routS_int]; rw [if_pos ⟨HNL.out, of_decide_eq_true hr⟩]
  have HR := Lib.hid hr
  clear hr
  go_enter Tryz.func129, Tryz.ntmps129
  go_wp2_with fail
  refine (specValidInto _ _ _ sc 0 0 into _ _ _ _ _ _ _ _ (hv.k K0).toInts (by omega)).mono ?_
  rw [HI.out]
  rintro e w1 ⟨rfl, p1⟩
  have K1 := Lib.hid (K0.trans p1)
  have R0' := Lib.hid (row_ext R0 p1 (fun h => h))
  have R1' := Lib.hid (row_ext R1 p1 (fun h => h))
  have x0 := R0'.out.cell (i := 0) (by simp)
  have x1 := R0'.out.cell (i := 1) (by simp)
  have y0 := R1'.out.cell (i := 0) (by simp)
  have y1 := R1'.out.cell (i := 1) (by simp)
  have y2 := R1'.out.cell (i := 2) (by simp)
  have y3 := R1'.out.cell (i := 3) (by simp)
  have y4 := R1'.out.cell (i := 4) (by simp)
  simp at x0 x1 y0 y1 y2 y3 y4
  clear R0 R1 K0 p1
  go_wp2_with fail
  refine (specInRange _ _ _ _).mono ?_
  rw [HR.out]
  rintro e w2 ⟨rfl, rfl⟩
  go_wp2_with fail
  exact fin_ hQ ⟨ret_i V.out.symm, K1.out⟩

set_option maxRecDepth 100000 in
set_option maxHeartbeats 4000000 in
theorem specSt_0_n (num : Int) (hn : num ≠ 0) (into : Int) (args : List Int) (ks : List BlockL) (IH0 : ∀ j, j < ks.length → BlS ds rs (bAt ks j).result (bAt ks j).steps) : StS ds rs (.mk 0 num into args ks) := by
  intro a0 n0 c0 a1 n1 c1 av nv cv sc aa na ca ak nk ck w hp hv ha hk hlen hall
  refine calls_k fun Q hQ => ?_
  change Rd w (fun _ => True) (encInts args) _ at ha
  change Rd w (fun _ => True) (encBlocks ks) _ at hk
  rw [nS] at hlen
  simp only [StepL.op, StepL.num, StepL.into]
  have ht := (sigsOk_parts hok).1
  have hf := Few.of_ok ht
  have hd4 := typesOk_len ht
  have hr4 : rs.length ≤ 4 := by have := (sigsOk_parts hok).2.2.1; simpa using this
  have hn0 : n0 ≤ 4 := by have := (decls_at hp.1).1; omega
  have hnv : nv ≤ 1052000 := by have := (ints_at hv).1; omega
  have hna : na ≤ 9223372036854775807 := (ints_at ha).2.2.1
  have hnk : ks.length = nk := (blocks_at hk).1
  have hnl : args.length = na := (ints_at ha).1
  have K0 := (Keep.al w (.cells #[.slice a0 n0 c0, .slice a1 n1 c1] 30)).trans (Keep.al _ (.cells #[.int .i64 0, .int .i64 num, .int .i64 into, .slice aa na ca, .slice ak nk ck] 136))
  have R0 := (rowOf w #[.slice a0 n0 c0, .slice a1 n1 c1] 30).alloc (.cells #[.int .i64 0, .int .i64 num, .int .i64 into, .slice aa na ca, .slice ak nk ck] 136)
  have R1 := rowOf (w.alloc (.cells #[.slice a0 n0 c0, .slice a1 n1 c1] 30)) #[.int .i64 0, .int .i64 num, .int .i64 into, .slice aa na ca, .slice ak nk ck] 136
  simp only [World.size_alloc] at R1
  have HNK := Lib.hid hnk
  have HNL := Lib.hid hnl
  have HOK := Lib.hid hok
  have HAll := Lib.hid hall
  have HLen := Lib.hid hlen
  have HT := Lib.hid ht
  have HF := Lib.hid hf
  have IH := Lib.hid IH0
  clear hok hall ht IH0 hnk hnl hf
  have hn' : (num != 0) = true := by simpa using hn
  clear hn
  cases hi : intoOk sc 0 into
  · have V : Hid (stpT ds (rs.map sigR) sc (.mk 0 num into args ks) = -1) := stp_into _ _ _ _ _ _ _ _ hi
    have HI := Lib.hid hi
    clear hi
    go_enter Tryz.func129, Tryz.ntmps129
    go_wp2_with fail
    refine (specHasNum _ _).mono ?_
    rintro e w0 ⟨rfl, rfl⟩
    go_wp2_with fail
    refine (specValidInto _ _ _ sc 0 num into _ _ _ _ _ _ _ _ (hv.k K0).toInts (by omega)).mono ?_
    rw [HI.out]
    rintro e w1 ⟨rfl, p1⟩
    have K1 := Lib.hid (K0.trans p1)
    have R0' := Lib.hid (row_ext R0 p1 (fun h => h))
    have R1' := Lib.hid (row_ext R1 p1 (fun h => h))
    have x0 := R0'.out.cell (i := 0) (by simp)
    have x1 := R0'.out.cell (i := 1) (by simp)
    have y0 := R1'.out.cell (i := 0) (by simp)
    have y1 := R1'.out.cell (i := 1) (by simp)
    have y2 := R1'.out.cell (i := 2) (by simp)
    have y3 := R1'.out.cell (i := 3) (by simp)
    have y4 := R1'.out.cell (i := 4) (by simp)
    simp at x0 x1 y0 y1 y2 y3 y4
    clear R0 R1 K0 p1
    go_wp2_with fail
    exact fin_ hQ ⟨ret_i V.out.symm, K1.out⟩
  have HI := Lib.hid hi
  clear hi
  by_cases hk0 : nk = 0
  case neg =>
    have hk1 : 0 < nk := by omega
    have V : Hid (stpT ds (rs.map sigR) sc (.mk 0 num into args ks) = -1) := stp_kids _ _ _ _ _ _ _ _ (by omega) (by omega) (by have := HNK.out; omega)
    clear hk0
    go_enter Tryz.func129, Tryz.ntmps129
    go_wp2_with fail
    refine (specHasNum _ _).mono ?_
    rintro e w0 ⟨rfl, rfl⟩
    go_wp2_with fail
    refine (specValidInto _ _ _ sc 0 num into _ _ _ _ _ _ _ _ (hv.k K0).toInts (by omega)).mono ?_
    rw [HI.out]
    rintro e w1 ⟨rfl, p1⟩
    have K1 := Lib.hid (K0.trans p1)
    have R0' := Lib.hid (row_ext R0 p1 (fun h => h))
    have R1' := Lib.hid (row_ext R1 p1 (fun h => h))
    have x0 := R0'.out.cell (i := 0) (by simp)
    have x1 := R0'.out.cell (i := 1) (by simp)
    have y0 := R1'.out.cell (i := 0) (by simp)
    have y1 := R1'.out.cell (i := 1) (by simp)
    have y2 := R1'.out.cell (i := 2) (by simp)
    have y3 := R1'.out.cell (i := 3) (by simp)
    have y4 := R1'.out.cell (i := 4) (by simp)
    simp at x0 x1 y0 y1 y2 y3 y4
    clear R0 R1 K0 p1
    go_wp2_with fail
    exact fin_ hQ ⟨ret_i V.out.symm, K1.out⟩
  subst hk0
  have V0 : Hid (stpT ds (rs.map sigR) sc (.mk 0 num into args ks) = routS ds (rs.map sigR) sc 0 num args) := stp_rout _ _ _ _ _ _ _ _ HI.out (by omega) (by omega) HNK.out
  by_cases hz : na = 0
  case neg =>
    have V : Hid (stpT ds (rs.map sigR) sc (.mk 0 num into args ks) = -1) := by show _ = _; rw [V0.out, routS_int]; rw [if_neg (fun h => hz (by have := HNL.out; omega))]
    have hz' : ((na : Int) == 0) = false := by simp; omega
    clear hz
    go_enter Tryz.func129, Tryz.ntmps129
    go_wp2_with fail
    refine (specHasNum _ _).mono ?_
    rintro e w0 ⟨rfl, rfl⟩
    go_wp2_with fail
    refine (specValidInto _ _ _ sc 0 num into _ _ _ _ _ _ _ _ (hv.k K0).toInts (by omega)).mono ?_
    rw [HI.out]
    rintro e w1 ⟨rfl, p1⟩
    have K1 := Lib.hid (K0.trans p1)
    have R0' := Lib.hid (row_ext R0 p1 (fun h => h))
    have R1' := Lib.hid (row_ext R1 p1 (fun h => h))
    have x0 := R0'.out.cell (i := 0) (by simp)
    have x1 := R0'.out.cell (i := 1) (by simp)
    have y0 := R1'.out.cell (i := 0) (by simp)
    have y1 := R1'.out.cell (i := 1) (by simp)
    have y2 := R1'.out.cell (i := 2) (by simp)
    have y3 := R1'.out.cell (i := 3) (by simp)
    have y4 := R1'.out.cell (i := 4) (by simp)
    simp at x0 x1 y0 y1 y2 y3 y4
    clear R0 R1 K0 p1
    go_wp2_with fail
    exact fin_ hQ ⟨ret_i V.out.symm, K1.out⟩
  subst hz
  cases hr : decide (-999 ≤ num ∧ num ≤ 999)
  · have V : Hid (stpT ds (rs.map sigR) sc (.mk 0 num into args ks) = -1) := by show _ = _; rw [V0.out, routS_int]; rw [if_neg (fun h => of_decide_eq_false hr h.2)]
    have HR := Lib.hid hr
    clear hr
    go_enter Tryz.func129, Tryz.ntmps129
    go_wp2_with fail
    refine (specHasNum _ _).mono ?_
    rintro e w0 ⟨rfl, rfl⟩
    go_wp2_with fail
    refine (specValidInto _ _ _ sc 0 num into _ _ _ _ _ _ _ _ (hv.k K0).toInts (by omega)).mono ?_
    rw [HI.out]
    rintro e w1 ⟨rfl, p1⟩
    have K1 := Lib.hid (K0.trans p1)
    have R0' := Lib.hid (row_ext R0 p1 (fun h => h))
    have R1' := Lib.hid (row_ext R1 p1 (fun h => h))
    have x0 := R0'.out.cell (i := 0) (by simp)
    have x1 := R0'.out.cell (i := 1) (by simp)
    have y0 := R1'.out.cell (i := 0) (by simp)
    have y1 := R1'.out.cell (i := 1) (by simp)
    have y2 := R1'.out.cell (i := 2) (by simp)
    have y3 := R1'.out.cell (i := 3) (by simp)
    have y4 := R1'.out.cell (i := 4) (by simp)
    simp at x0 x1 y0 y1 y2 y3 y4
    clear R0 R1 K0 p1
    go_wp2_with fail
    refine (specInRange _ _ _ _).mono ?_
    rw [HR.out]
    rintro e w2 ⟨rfl, rfl⟩
    go_wp2_with fail
    exact fin_ hQ ⟨ret_i V.out.symm, K1.out⟩
  have V : Hid (stpT ds (rs.map sigR) sc (.mk 0 num into args ks) = 0) := by show _ = _; rw [V0.out, routS_int]; rw [if_pos ⟨HNL.out, of_decide_eq_true hr⟩]
  have HR := Lib.hid hr
  clear hr
  go_enter Tryz.func129, Tryz.ntmps129
  go_wp2_with fail
  refine (specHasNum _ _).mono ?_
  rintro e w0 ⟨rfl, rfl⟩
  go_wp2_with fail
  refine (specValidInto _ _ _ sc 0 num into _ _ _ _ _ _ _ _ (hv.k K0).toInts (by omega)).mono ?_
  rw [HI.out]
  rintro e w1 ⟨rfl, p1⟩
  have K1 := Lib.hid (K0.trans p1)
  have R0' := Lib.hid (row_ext R0 p1 (fun h => h))
  have R1' := Lib.hid (row_ext R1 p1 (fun h => h))
  have x0 := R0'.out.cell (i := 0) (by simp)
  have x1 := R0'.out.cell (i := 1) (by simp)
  have y0 := R1'.out.cell (i := 0) (by simp)
  have y1 := R1'.out.cell (i := 1) (by simp)
  have y2 := R1'.out.cell (i := 2) (by simp)
  have y3 := R1'.out.cell (i := 3) (by simp)
  have y4 := R1'.out.cell (i := 4) (by simp)
  simp at x0 x1 y0 y1 y2 y3 y4
  clear R0 R1 K0 p1
  go_wp2_with fail
  refine (specInRange _ _ _ _).mono ?_
  rw [HR.out]
  rintro e w2 ⟨rfl, rfl⟩
  go_wp2_with fail
  exact fin_ hQ ⟨ret_i V.out.symm, K1.out⟩

set_option maxRecDepth 100000 in
set_option maxHeartbeats 4000000 in
theorem specSt_1 (into : Int) (args : List Int) (ks : List BlockL) (IH0 : ∀ j, j < ks.length → BlS ds rs (bAt ks j).result (bAt ks j).steps) : StS ds rs (.mk 1 0 into args ks) := by
  intro a0 n0 c0 a1 n1 c1 av nv cv sc aa na ca ak nk ck w hp hv ha hk hlen hall
  refine calls_k fun Q hQ => ?_
  change Rd w (fun _ => True) (encInts args) _ at ha
  change Rd w (fun _ => True) (encBlocks ks) _ at hk
  rw [nS] at hlen
  simp only [StepL.op, StepL.num, StepL.into]
  have ht := (sigsOk_parts hok).1
  have hf := Few.of_ok ht
  have hd4 := typesOk_len ht
  have hr4 : rs.length ≤ 4 := by have := (sigsOk_parts hok).2.2.1; simpa using this
  have hn0 : n0 ≤ 4 := by have := (decls_at hp.1).1; omega
  have hnv : nv ≤ 1052000 := by have := (ints_at hv).1; omega
  have hna : na ≤ 9223372036854775807 := (ints_at ha).2.2.1
  have hnk : ks.length = nk := (blocks_at hk).1
  have hnl : args.length = na := (ints_at ha).1
  have K0 := (Keep.al w (.cells #[.slice a0 n0 c0, .slice a1 n1 c1] 30)).trans (Keep.al _ (.cells #[.int .i64 1, .int .i64 0, .int .i64 into, .slice aa na ca, .slice ak nk ck] 136))
  have R0 := (rowOf w #[.slice a0 n0 c0, .slice a1 n1 c1] 30).alloc (.cells #[.int .i64 1, .int .i64 0, .int .i64 into, .slice aa na ca, .slice ak nk ck] 136)
  have R1 := rowOf (w.alloc (.cells #[.slice a0 n0 c0, .slice a1 n1 c1] 30)) #[.int .i64 1, .int .i64 0, .int .i64 into, .slice aa na ca, .slice ak nk ck] 136
  simp only [World.size_alloc] at R1
  have HNK := Lib.hid hnk
  have HNL := Lib.hid hnl
  have HOK := Lib.hid hok
  have HAll := Lib.hid hall
  have HLen := Lib.hid hlen
  have HT := Lib.hid ht
  have HF := Lib.hid hf
  have IH := Lib.hid IH0
  clear hok hall ht IH0 hnk hnl hf
  cases hi : intoOk sc 1 into
  · have V : Hid (stpT ds (rs.map sigR) sc (.mk 1 0 into args ks) = -1) := stp_into _ _ _ _ _ _ _ _ hi
    have HI := Lib.hid hi
    clear hi
    go_enter Tryz.func129, Tryz.ntmps129
    go_wp2_with fail
    refine (specValidInto _ _ _ sc 1 0 into _ _ _ _ _ _ _ _ (hv.k K0).toInts (by omega)).mono ?_
    rw [HI.out]
    rintro e w1 ⟨rfl, p1⟩
    have K1 := Lib.hid (K0.trans p1)
    have R0' := Lib.hid (row_ext R0 p1 (fun h => h))
    have R1' := Lib.hid (row_ext R1 p1 (fun h => h))
    have x0 := R0'.out.cell (i := 0) (by simp)
    have x1 := R0'.out.cell (i := 1) (by simp)
    have y0 := R1'.out.cell (i := 0) (by simp)
    have y1 := R1'.out.cell (i := 1) (by simp)
    have y2 := R1'.out.cell (i := 2) (by simp)
    have y3 := R1'.out.cell (i := 3) (by simp)
    have y4 := R1'.out.cell (i := 4) (by simp)
    simp at x0 x1 y0 y1 y2 y3 y4
    clear R0 R1 K0 p1
    go_wp2_with fail
    exact fin_ hQ ⟨ret_i V.out.symm, K1.out⟩
  have HI := Lib.hid hi
  clear hi
  by_cases hk0 : nk = 0
  case neg =>
    have hk1 : 0 < nk := by omega
    have V : Hid (stpT ds (rs.map sigR) sc (.mk 1 0 into args ks) = -1) := stp_kids _ _ _ _ _ _ _ _ (by omega) (by omega) (by have := HNK.out; omega)
    clear hk0
    go_enter Tryz.func129, Tryz.ntmps129
    go_wp2_with fail
    refine (specValidInto _ _ _ sc 1 0 into _ _ _ _ _ _ _ _ (hv.k K0).toInts (by omega)).mono ?_
    rw [HI.out]
    rintro e w1 ⟨rfl, p1⟩
    have K1 := Lib.hid (K0.trans p1)
    have R0' := Lib.hid (row_ext R0 p1 (fun h => h))
    have R1' := Lib.hid (row_ext R1 p1 (fun h => h))
    have x0 := R0'.out.cell (i := 0) (by simp)
    have x1 := R0'.out.cell (i := 1) (by simp)
    have y0 := R1'.out.cell (i := 0) (by simp)
    have y1 := R1'.out.cell (i := 1) (by simp)
    have y2 := R1'.out.cell (i := 2) (by simp)
    have y3 := R1'.out.cell (i := 3) (by simp)
    have y4 := R1'.out.cell (i := 4) (by simp)
    simp at x0 x1 y0 y1 y2 y3 y4
    clear R0 R1 K0 p1
    go_wp2_with fail
    exact fin_ hQ ⟨ret_i V.out.symm, K1.out⟩
  subst hk0
  have V0 : Hid (stpT ds (rs.map sigR) sc (.mk 1 0 into args ks) = routS ds (rs.map sigR) sc 1 0 args) := stp_rout _ _ _ _ _ _ _ _ HI.out (by omega) (by omega) HNK.out
  cases htd : typedL sc args [0, 0]
  · have V : Hid (stpT ds (rs.map sigR) sc (.mk 1 0 into args ks) = -1) := by show _ = _; rw [V0.out, routS_two _ _ _ _ (by omega)]; rw [if_neg (by rw [htd]; simp)]
    have HTD := Lib.hid htd
    clear htd
    go_enter Tryz.func129, Tryz.ntmps129
    go_wp2_with fail
    refine (specValidInto _ _ _ sc 1 0 into _ _ _ _ _ _ _ _ (hv.k K0).toInts (by omega)).mono ?_
    rw [HI.out]
    rintro e w1 ⟨rfl, p1⟩
    have K1 := Lib.hid (K0.trans p1)
    have R0' := Lib.hid (row_ext R0 p1 (fun h => h))
    have R1' := Lib.hid (row_ext R1 p1 (fun h => h))
    have x0 := R0'.out.cell (i := 0) (by simp)
    have x1 := R0'.out.cell (i := 1) (by simp)
    have y0 := R1'.out.cell (i := 0) (by simp)
    have y1 := R1'.out.cell (i := 1) (by simp)
    have y2 := R1'.out.cell (i := 2) (by simp)
    have y3 := R1'.out.cell (i := 3) (by simp)
    have y4 := R1'.out.cell (i := 4) (by simp)
    simp at x0 x1 y0 y1 y2 y3 y4
    clear R0 R1 K0 p1
    go_wp2_with fail
    refine (specTyped _ _ _ sc _ _ _ args _ _ _ [0, 0] _ _ _ _ ((hv.k K1.out).k (Keep.al _ _)).toInts ((ha.k K1.out).k (Keep.al _ _)).toInts (lit_intsD w1 (fun _ => True) _ [0, 0] _ 2 trivial rfl rfl (by omega)).toInts (by omega) hna).mono ?_
    rw [HTD.out]
    rintro e w2 ⟨rfl, p2⟩
    have pk := Ext.trans (Keep.al w1 _) p2
    have KE := Lib.hid (K1.out.trans pk)
    have x0 := (pk.cell (World.block_lt_of_cell? _ _ x0) (fun h => h)).trans x0
    have x1 := (pk.cell (World.block_lt_of_cell? _ _ x1) (fun h => h)).trans x1
    have y0 := (pk.cell (World.block_lt_of_cell? _ _ y0) (fun h => h)).trans y0
    have y1 := (pk.cell (World.block_lt_of_cell? _ _ y1) (fun h => h)).trans y1
    have y2 := (pk.cell (World.block_lt_of_cell? _ _ y2) (fun h => h)).trans y2
    have y3 := (pk.cell (World.block_lt_of_cell? _ _ y3) (fun h => h)).trans y3
    have y4 := (pk.cell (World.block_lt_of_cell? _ _ y4) (fun h => h)).trans y4
    clear pk p2
    go_wp2_with fail
    exact fin_ hQ ⟨ret_i V.out.symm, KE.out⟩
  have HTD := Lib.hid htd
  clear htd
  have V : Hid (stpT ds (rs.map sigR) sc (.mk 1 0 into args ks) = 0) := by show _ = _; rw [V0.out, routS_two _ _ _ _ (by omega)]; rw [if_pos HTD.out]
  go_enter Tryz.func129, Tryz.ntmps129
  go_wp2_with fail
  refine (specValidInto _ _ _ sc 1 0 into _ _ _ _ _ _ _ _ (hv.k K0).toInts (by omega)).mono ?_
  rw [HI.out]
  rintro e w1 ⟨rfl, p1⟩
  have K1 := Lib.hid (K0.trans p1)
  have R0' := Lib.hid (row_ext R0 p1 (fun h => h))
  have R1' := Lib.hid (row_ext R1 p1 (fun h => h))
  have x0 := R0'.out.cell (i := 0) (by simp)
  have x1 := R0'.out.cell (i := 1) (by simp)
  have y0 := R1'.out.cell (i := 0) (by simp)
  have y1 := R1'.out.cell (i := 1) (by simp)
  have y2 := R1'.out.cell (i := 2) (by simp)
  have y3 := R1'.out.cell (i := 3) (by simp)
  have y4 := R1'.out.cell (i := 4) (by simp)
  simp at x0 x1 y0 y1 y2 y3 y4
  clear R0 R1 K0 p1
  go_wp2_with fail
  refine (specTyped _ _ _ sc _ _ _ args _ _ _ [0, 0] _ _ _ _ ((hv.k K1.out).k (Keep.al _ _)).toInts ((ha.k K1.out).k (Keep.al _ _)).toInts (lit_intsD w1 (fun _ => True) _ [0, 0] _ 2 trivial rfl rfl (by omega)).toInts (by omega) hna).mono ?_
  rw [HTD.out]
  rintro e w2 ⟨rfl, p2⟩
  have pk := Ext.trans (Keep.al w1 _) p2
  have KE := Lib.hid (K1.out.trans pk)
  have x0 := (pk.cell (World.block_lt_of_cell? _ _ x0) (fun h => h)).trans x0
  have x1 := (pk.cell (World.block_lt_of_cell? _ _ x1) (fun h => h)).trans x1
  have y0 := (pk.cell (World.block_lt_of_cell? _ _ y0) (fun h => h)).trans y0
  have y1 := (pk.cell (World.block_lt_of_cell? _ _ y1) (fun h => h)).trans y1
  have y2 := (pk.cell (World.block_lt_of_cell? _ _ y2) (fun h => h)).trans y2
  have y3 := (pk.cell (World.block_lt_of_cell? _ _ y3) (fun h => h)).trans y3
  have y4 := (pk.cell (World.block_lt_of_cell? _ _ y4) (fun h => h)).trans y4
  clear pk p2
  go_wp2_with fail
  exact fin_ hQ ⟨ret_i V.out.symm, KE.out⟩

set_option maxRecDepth 100000 in
set_option maxHeartbeats 4000000 in
theorem specSt_2 (into : Int) (args : List Int) (ks : List BlockL) (IH0 : ∀ j, j < ks.length → BlS ds rs (bAt ks j).result (bAt ks j).steps) : StS ds rs (.mk 2 0 into args ks) := by
  intro a0 n0 c0 a1 n1 c1 av nv cv sc aa na ca ak nk ck w hp hv ha hk hlen hall
  refine calls_k fun Q hQ => ?_
  change Rd w (fun _ => True) (encInts args) _ at ha
  change Rd w (fun _ => True) (encBlocks ks) _ at hk
  rw [nS] at hlen
  simp only [StepL.op, StepL.num, StepL.into]
  have ht := (sigsOk_parts hok).1
  have hf := Few.of_ok ht
  have hd4 := typesOk_len ht
  have hr4 : rs.length ≤ 4 := by have := (sigsOk_parts hok).2.2.1; simpa using this
  have hn0 : n0 ≤ 4 := by have := (decls_at hp.1).1; omega
  have hnv : nv ≤ 1052000 := by have := (ints_at hv).1; omega
  have hna : na ≤ 9223372036854775807 := (ints_at ha).2.2.1
  have hnk : ks.length = nk := (blocks_at hk).1
  have hnl : args.length = na := (ints_at ha).1
  have K0 := (Keep.al w (.cells #[.slice a0 n0 c0, .slice a1 n1 c1] 30)).trans (Keep.al _ (.cells #[.int .i64 2, .int .i64 0, .int .i64 into, .slice aa na ca, .slice ak nk ck] 136))
  have R0 := (rowOf w #[.slice a0 n0 c0, .slice a1 n1 c1] 30).alloc (.cells #[.int .i64 2, .int .i64 0, .int .i64 into, .slice aa na ca, .slice ak nk ck] 136)
  have R1 := rowOf (w.alloc (.cells #[.slice a0 n0 c0, .slice a1 n1 c1] 30)) #[.int .i64 2, .int .i64 0, .int .i64 into, .slice aa na ca, .slice ak nk ck] 136
  simp only [World.size_alloc] at R1
  have HNK := Lib.hid hnk
  have HNL := Lib.hid hnl
  have HOK := Lib.hid hok
  have HAll := Lib.hid hall
  have HLen := Lib.hid hlen
  have HT := Lib.hid ht
  have HF := Lib.hid hf
  have IH := Lib.hid IH0
  clear hok hall ht IH0 hnk hnl hf
  cases hi : intoOk sc 2 into
  · have V : Hid (stpT ds (rs.map sigR) sc (.mk 2 0 into args ks) = -1) := stp_into _ _ _ _ _ _ _ _ hi
    have HI := Lib.hid hi
    clear hi
    go_enter Tryz.func129, Tryz.ntmps129
    go_wp2_with fail
    refine (specValidInto _ _ _ sc 2 0 into _ _ _ _ _ _ _ _ (hv.k K0).toInts (by omega)).mono ?_
    rw [HI.out]
    rintro e w1 ⟨rfl, p1⟩
    have K1 := Lib.hid (K0.trans p1)
    have R0' := Lib.hid (row_ext R0 p1 (fun h => h))
    have R1' := Lib.hid (row_ext R1 p1 (fun h => h))
    have x0 := R0'.out.cell (i := 0) (by simp)
    have x1 := R0'.out.cell (i := 1) (by simp)
    have y0 := R1'.out.cell (i := 0) (by simp)
    have y1 := R1'.out.cell (i := 1) (by simp)
    have y2 := R1'.out.cell (i := 2) (by simp)
    have y3 := R1'.out.cell (i := 3) (by simp)
    have y4 := R1'.out.cell (i := 4) (by simp)
    simp at x0 x1 y0 y1 y2 y3 y4
    clear R0 R1 K0 p1
    go_wp2_with fail
    exact fin_ hQ ⟨ret_i V.out.symm, K1.out⟩
  have HI := Lib.hid hi
  clear hi
  by_cases hk0 : nk = 0
  case neg =>
    have hk1 : 0 < nk := by omega
    have V : Hid (stpT ds (rs.map sigR) sc (.mk 2 0 into args ks) = -1) := stp_kids _ _ _ _ _ _ _ _ (by omega) (by omega) (by have := HNK.out; omega)
    clear hk0
    go_enter Tryz.func129, Tryz.ntmps129
    go_wp2_with fail
    refine (specValidInto _ _ _ sc 2 0 into _ _ _ _ _ _ _ _ (hv.k K0).toInts (by omega)).mono ?_
    rw [HI.out]
    rintro e w1 ⟨rfl, p1⟩
    have K1 := Lib.hid (K0.trans p1)
    have R0' := Lib.hid (row_ext R0 p1 (fun h => h))
    have R1' := Lib.hid (row_ext R1 p1 (fun h => h))
    have x0 := R0'.out.cell (i := 0) (by simp)
    have x1 := R0'.out.cell (i := 1) (by simp)
    have y0 := R1'.out.cell (i := 0) (by simp)
    have y1 := R1'.out.cell (i := 1) (by simp)
    have y2 := R1'.out.cell (i := 2) (by simp)
    have y3 := R1'.out.cell (i := 3) (by simp)
    have y4 := R1'.out.cell (i := 4) (by simp)
    simp at x0 x1 y0 y1 y2 y3 y4
    clear R0 R1 K0 p1
    go_wp2_with fail
    exact fin_ hQ ⟨ret_i V.out.symm, K1.out⟩
  subst hk0
  have V0 : Hid (stpT ds (rs.map sigR) sc (.mk 2 0 into args ks) = routS ds (rs.map sigR) sc 2 0 args) := stp_rout _ _ _ _ _ _ _ _ HI.out (by omega) (by omega) HNK.out
  cases htd : typedL sc args [0, 0]
  · have V : Hid (stpT ds (rs.map sigR) sc (.mk 2 0 into args ks) = -1) := by show _ = _; rw [V0.out, routS_two _ _ _ _ (by omega)]; rw [if_neg (by rw [htd]; simp)]
    have HTD := Lib.hid htd
    clear htd
    go_enter Tryz.func129, Tryz.ntmps129
    go_wp2_with fail
    refine (specValidInto _ _ _ sc 2 0 into _ _ _ _ _ _ _ _ (hv.k K0).toInts (by omega)).mono ?_
    rw [HI.out]
    rintro e w1 ⟨rfl, p1⟩
    have K1 := Lib.hid (K0.trans p1)
    have R0' := Lib.hid (row_ext R0 p1 (fun h => h))
    have R1' := Lib.hid (row_ext R1 p1 (fun h => h))
    have x0 := R0'.out.cell (i := 0) (by simp)
    have x1 := R0'.out.cell (i := 1) (by simp)
    have y0 := R1'.out.cell (i := 0) (by simp)
    have y1 := R1'.out.cell (i := 1) (by simp)
    have y2 := R1'.out.cell (i := 2) (by simp)
    have y3 := R1'.out.cell (i := 3) (by simp)
    have y4 := R1'.out.cell (i := 4) (by simp)
    simp at x0 x1 y0 y1 y2 y3 y4
    clear R0 R1 K0 p1
    go_wp2_with fail
    refine (specTyped _ _ _ sc _ _ _ args _ _ _ [0, 0] _ _ _ _ ((hv.k K1.out).k (Keep.al _ _)).toInts ((ha.k K1.out).k (Keep.al _ _)).toInts (lit_intsD w1 (fun _ => True) _ [0, 0] _ 2 trivial rfl rfl (by omega)).toInts (by omega) hna).mono ?_
    rw [HTD.out]
    rintro e w2 ⟨rfl, p2⟩
    have pk := Ext.trans (Keep.al w1 _) p2
    have KE := Lib.hid (K1.out.trans pk)
    have x0 := (pk.cell (World.block_lt_of_cell? _ _ x0) (fun h => h)).trans x0
    have x1 := (pk.cell (World.block_lt_of_cell? _ _ x1) (fun h => h)).trans x1
    have y0 := (pk.cell (World.block_lt_of_cell? _ _ y0) (fun h => h)).trans y0
    have y1 := (pk.cell (World.block_lt_of_cell? _ _ y1) (fun h => h)).trans y1
    have y2 := (pk.cell (World.block_lt_of_cell? _ _ y2) (fun h => h)).trans y2
    have y3 := (pk.cell (World.block_lt_of_cell? _ _ y3) (fun h => h)).trans y3
    have y4 := (pk.cell (World.block_lt_of_cell? _ _ y4) (fun h => h)).trans y4
    clear pk p2
    go_wp2_with fail
    exact fin_ hQ ⟨ret_i V.out.symm, KE.out⟩
  have HTD := Lib.hid htd
  clear htd
  have V : Hid (stpT ds (rs.map sigR) sc (.mk 2 0 into args ks) = 0) := by show _ = _; rw [V0.out, routS_two _ _ _ _ (by omega)]; rw [if_pos HTD.out]
  go_enter Tryz.func129, Tryz.ntmps129
  go_wp2_with fail
  refine (specValidInto _ _ _ sc 2 0 into _ _ _ _ _ _ _ _ (hv.k K0).toInts (by omega)).mono ?_
  rw [HI.out]
  rintro e w1 ⟨rfl, p1⟩
  have K1 := Lib.hid (K0.trans p1)
  have R0' := Lib.hid (row_ext R0 p1 (fun h => h))
  have R1' := Lib.hid (row_ext R1 p1 (fun h => h))
  have x0 := R0'.out.cell (i := 0) (by simp)
  have x1 := R0'.out.cell (i := 1) (by simp)
  have y0 := R1'.out.cell (i := 0) (by simp)
  have y1 := R1'.out.cell (i := 1) (by simp)
  have y2 := R1'.out.cell (i := 2) (by simp)
  have y3 := R1'.out.cell (i := 3) (by simp)
  have y4 := R1'.out.cell (i := 4) (by simp)
  simp at x0 x1 y0 y1 y2 y3 y4
  clear R0 R1 K0 p1
  go_wp2_with fail
  refine (specTyped _ _ _ sc _ _ _ args _ _ _ [0, 0] _ _ _ _ ((hv.k K1.out).k (Keep.al _ _)).toInts ((ha.k K1.out).k (Keep.al _ _)).toInts (lit_intsD w1 (fun _ => True) _ [0, 0] _ 2 trivial rfl rfl (by omega)).toInts (by omega) hna).mono ?_
  rw [HTD.out]
  rintro e w2 ⟨rfl, p2⟩
  have pk := Ext.trans (Keep.al w1 _) p2
  have KE := Lib.hid (K1.out.trans pk)
  have x0 := (pk.cell (World.block_lt_of_cell? _ _ x0) (fun h => h)).trans x0
  have x1 := (pk.cell (World.block_lt_of_cell? _ _ x1) (fun h => h)).trans x1
  have y0 := (pk.cell (World.block_lt_of_cell? _ _ y0) (fun h => h)).trans y0
  have y1 := (pk.cell (World.block_lt_of_cell? _ _ y1) (fun h => h)).trans y1
  have y2 := (pk.cell (World.block_lt_of_cell? _ _ y2) (fun h => h)).trans y2
  have y3 := (pk.cell (World.block_lt_of_cell? _ _ y3) (fun h => h)).trans y3
  have y4 := (pk.cell (World.block_lt_of_cell? _ _ y4) (fun h => h)).trans y4
  clear pk p2
  go_wp2_with fail
  exact fin_ hQ ⟨ret_i V.out.symm, KE.out⟩
end
end Go.Proofs.YtkapldpmjkdmcaaGreat
/- The reference's types of steps. -/
namespace Go.Proofs.YtkapldpmjkdmcaaGreat
open Go.RowKit

section
variable (ds : List DeclL) (rs : List RoutL) (hok : sigsOk ds (rs.map sigR) = true)
include hok

set_option maxRecDepth 100000 in
set_option maxHeartbeats 4000000 in
theorem specSt_3 (into : Int) (args : List Int) (ks : List BlockL) (IH0 : ∀ j, j < ks.length → BlS ds rs (bAt ks j).result (bAt ks j).steps) : StS ds rs (.mk 3 0 into args ks) := by
  intro a0 n0 c0 a1 n1 c1 av nv cv sc aa na ca ak nk ck w hp hv ha hk hlen hall
  refine calls_k fun Q hQ => ?_
  change Rd w (fun _ => True) (encInts args) _ at ha
  change Rd w (fun _ => True) (encBlocks ks) _ at hk
  rw [nS] at hlen
  simp only [StepL.op, StepL.num, StepL.into]
  have ht := (sigsOk_parts hok).1
  have hf := Few.of_ok ht
  have hd4 := typesOk_len ht
  have hr4 : rs.length ≤ 4 := by have := (sigsOk_parts hok).2.2.1; simpa using this
  have hn0 : n0 ≤ 4 := by have := (decls_at hp.1).1; omega
  have hnv : nv ≤ 1052000 := by have := (ints_at hv).1; omega
  have hna : na ≤ 9223372036854775807 := (ints_at ha).2.2.1
  have hnk : ks.length = nk := (blocks_at hk).1
  have hnl : args.length = na := (ints_at ha).1
  have K0 := (Keep.al w (.cells #[.slice a0 n0 c0, .slice a1 n1 c1] 30)).trans (Keep.al _ (.cells #[.int .i64 3, .int .i64 0, .int .i64 into, .slice aa na ca, .slice ak nk ck] 136))
  have R0 := (rowOf w #[.slice a0 n0 c0, .slice a1 n1 c1] 30).alloc (.cells #[.int .i64 3, .int .i64 0, .int .i64 into, .slice aa na ca, .slice ak nk ck] 136)
  have R1 := rowOf (w.alloc (.cells #[.slice a0 n0 c0, .slice a1 n1 c1] 30)) #[.int .i64 3, .int .i64 0, .int .i64 into, .slice aa na ca, .slice ak nk ck] 136
  simp only [World.size_alloc] at R1
  have HNK := Lib.hid hnk
  have HNL := Lib.hid hnl
  have HOK := Lib.hid hok
  have HAll := Lib.hid hall
  have HLen := Lib.hid hlen
  have HT := Lib.hid ht
  have HF := Lib.hid hf
  have IH := Lib.hid IH0
  clear hok hall ht IH0 hnk hnl hf
  cases hi : intoOk sc 3 into
  · have V : Hid (stpT ds (rs.map sigR) sc (.mk 3 0 into args ks) = -1) := stp_into _ _ _ _ _ _ _ _ hi
    have HI := Lib.hid hi
    clear hi
    go_enter Tryz.func129, Tryz.ntmps129
    go_wp2_with fail
    refine (specValidInto _ _ _ sc 3 0 into _ _ _ _ _ _ _ _ (hv.k K0).toInts (by omega)).mono ?_
    rw [HI.out]
    rintro e w1 ⟨rfl, p1⟩
    have K1 := Lib.hid (K0.trans p1)
    have R0' := Lib.hid (row_ext R0 p1 (fun h => h))
    have R1' := Lib.hid (row_ext R1 p1 (fun h => h))
    have x0 := R0'.out.cell (i := 0) (by simp)
    have x1 := R0'.out.cell (i := 1) (by simp)
    have y0 := R1'.out.cell (i := 0) (by simp)
    have y1 := R1'.out.cell (i := 1) (by simp)
    have y2 := R1'.out.cell (i := 2) (by simp)
    have y3 := R1'.out.cell (i := 3) (by simp)
    have y4 := R1'.out.cell (i := 4) (by simp)
    simp at x0 x1 y0 y1 y2 y3 y4
    clear R0 R1 K0 p1
    go_wp2_with fail
    exact fin_ hQ ⟨ret_i V.out.symm, K1.out⟩
  have HI := Lib.hid hi
  clear hi
  by_cases hk0 : nk = 0
  case neg =>
    have hk1 : 0 < nk := by omega
    have V : Hid (stpT ds (rs.map sigR) sc (.mk 3 0 into args ks) = -1) := stp_kids _ _ _ _ _ _ _ _ (by omega) (by omega) (by have := HNK.out; omega)
    clear hk0
    go_enter Tryz.func129, Tryz.ntmps129
    go_wp2_with fail
    refine (specValidInto _ _ _ sc 3 0 into _ _ _ _ _ _ _ _ (hv.k K0).toInts (by omega)).mono ?_
    rw [HI.out]
    rintro e w1 ⟨rfl, p1⟩
    have K1 := Lib.hid (K0.trans p1)
    have R0' := Lib.hid (row_ext R0 p1 (fun h => h))
    have R1' := Lib.hid (row_ext R1 p1 (fun h => h))
    have x0 := R0'.out.cell (i := 0) (by simp)
    have x1 := R0'.out.cell (i := 1) (by simp)
    have y0 := R1'.out.cell (i := 0) (by simp)
    have y1 := R1'.out.cell (i := 1) (by simp)
    have y2 := R1'.out.cell (i := 2) (by simp)
    have y3 := R1'.out.cell (i := 3) (by simp)
    have y4 := R1'.out.cell (i := 4) (by simp)
    simp at x0 x1 y0 y1 y2 y3 y4
    clear R0 R1 K0 p1
    go_wp2_with fail
    exact fin_ hQ ⟨ret_i V.out.symm, K1.out⟩
  subst hk0
  have V0 : Hid (stpT ds (rs.map sigR) sc (.mk 3 0 into args ks) = routS ds (rs.map sigR) sc 3 0 args) := stp_rout _ _ _ _ _ _ _ _ HI.out (by omega) (by omega) HNK.out
  cases htd : typedL sc args [0, 0]
  · have V : Hid (stpT ds (rs.map sigR) sc (.mk 3 0 into args ks) = -1) := by show _ = _; rw [V0.out, routS_two _ _ _ _ (by omega)]; rw [if_neg (by rw [htd]; simp)]
    have HTD := Lib.hid htd
    clear htd
    go_enter Tryz.func129, Tryz.ntmps129
    go_wp2_with fail
    refine (specValidInto _ _ _ sc 3 0 into _ _ _ _ _ _ _ _ (hv.k K0).toInts (by omega)).mono ?_
    rw [HI.out]
    rintro e w1 ⟨rfl, p1⟩
    have K1 := Lib.hid (K0.trans p1)
    have R0' := Lib.hid (row_ext R0 p1 (fun h => h))
    have R1' := Lib.hid (row_ext R1 p1 (fun h => h))
    have x0 := R0'.out.cell (i := 0) (by simp)
    have x1 := R0'.out.cell (i := 1) (by simp)
    have y0 := R1'.out.cell (i := 0) (by simp)
    have y1 := R1'.out.cell (i := 1) (by simp)
    have y2 := R1'.out.cell (i := 2) (by simp)
    have y3 := R1'.out.cell (i := 3) (by simp)
    have y4 := R1'.out.cell (i := 4) (by simp)
    simp at x0 x1 y0 y1 y2 y3 y4
    clear R0 R1 K0 p1
    go_wp2_with fail
    refine (specTyped _ _ _ sc _ _ _ args _ _ _ [0, 0] _ _ _ _ ((hv.k K1.out).k (Keep.al _ _)).toInts ((ha.k K1.out).k (Keep.al _ _)).toInts (lit_intsD w1 (fun _ => True) _ [0, 0] _ 2 trivial rfl rfl (by omega)).toInts (by omega) hna).mono ?_
    rw [HTD.out]
    rintro e w2 ⟨rfl, p2⟩
    have pk := Ext.trans (Keep.al w1 _) p2
    have KE := Lib.hid (K1.out.trans pk)
    have x0 := (pk.cell (World.block_lt_of_cell? _ _ x0) (fun h => h)).trans x0
    have x1 := (pk.cell (World.block_lt_of_cell? _ _ x1) (fun h => h)).trans x1
    have y0 := (pk.cell (World.block_lt_of_cell? _ _ y0) (fun h => h)).trans y0
    have y1 := (pk.cell (World.block_lt_of_cell? _ _ y1) (fun h => h)).trans y1
    have y2 := (pk.cell (World.block_lt_of_cell? _ _ y2) (fun h => h)).trans y2
    have y3 := (pk.cell (World.block_lt_of_cell? _ _ y3) (fun h => h)).trans y3
    have y4 := (pk.cell (World.block_lt_of_cell? _ _ y4) (fun h => h)).trans y4
    clear pk p2
    go_wp2_with fail
    exact fin_ hQ ⟨ret_i V.out.symm, KE.out⟩
  have HTD := Lib.hid htd
  clear htd
  have V : Hid (stpT ds (rs.map sigR) sc (.mk 3 0 into args ks) = 0) := by show _ = _; rw [V0.out, routS_two _ _ _ _ (by omega)]; rw [if_pos HTD.out]
  go_enter Tryz.func129, Tryz.ntmps129
  go_wp2_with fail
  refine (specValidInto _ _ _ sc 3 0 into _ _ _ _ _ _ _ _ (hv.k K0).toInts (by omega)).mono ?_
  rw [HI.out]
  rintro e w1 ⟨rfl, p1⟩
  have K1 := Lib.hid (K0.trans p1)
  have R0' := Lib.hid (row_ext R0 p1 (fun h => h))
  have R1' := Lib.hid (row_ext R1 p1 (fun h => h))
  have x0 := R0'.out.cell (i := 0) (by simp)
  have x1 := R0'.out.cell (i := 1) (by simp)
  have y0 := R1'.out.cell (i := 0) (by simp)
  have y1 := R1'.out.cell (i := 1) (by simp)
  have y2 := R1'.out.cell (i := 2) (by simp)
  have y3 := R1'.out.cell (i := 3) (by simp)
  have y4 := R1'.out.cell (i := 4) (by simp)
  simp at x0 x1 y0 y1 y2 y3 y4
  clear R0 R1 K0 p1
  go_wp2_with fail
  refine (specTyped _ _ _ sc _ _ _ args _ _ _ [0, 0] _ _ _ _ ((hv.k K1.out).k (Keep.al _ _)).toInts ((ha.k K1.out).k (Keep.al _ _)).toInts (lit_intsD w1 (fun _ => True) _ [0, 0] _ 2 trivial rfl rfl (by omega)).toInts (by omega) hna).mono ?_
  rw [HTD.out]
  rintro e w2 ⟨rfl, p2⟩
  have pk := Ext.trans (Keep.al w1 _) p2
  have KE := Lib.hid (K1.out.trans pk)
  have x0 := (pk.cell (World.block_lt_of_cell? _ _ x0) (fun h => h)).trans x0
  have x1 := (pk.cell (World.block_lt_of_cell? _ _ x1) (fun h => h)).trans x1
  have y0 := (pk.cell (World.block_lt_of_cell? _ _ y0) (fun h => h)).trans y0
  have y1 := (pk.cell (World.block_lt_of_cell? _ _ y1) (fun h => h)).trans y1
  have y2 := (pk.cell (World.block_lt_of_cell? _ _ y2) (fun h => h)).trans y2
  have y3 := (pk.cell (World.block_lt_of_cell? _ _ y3) (fun h => h)).trans y3
  have y4 := (pk.cell (World.block_lt_of_cell? _ _ y4) (fun h => h)).trans y4
  clear pk p2
  go_wp2_with fail
  exact fin_ hQ ⟨ret_i V.out.symm, KE.out⟩

set_option maxRecDepth 100000 in
set_option maxHeartbeats 4000000 in
theorem specSt_4 (into : Int) (args : List Int) (ks : List BlockL) (IH0 : ∀ j, j < ks.length → BlS ds rs (bAt ks j).result (bAt ks j).steps) : StS ds rs (.mk 4 0 into args ks) := by
  intro a0 n0 c0 a1 n1 c1 av nv cv sc aa na ca ak nk ck w hp hv ha hk hlen hall
  refine calls_k fun Q hQ => ?_
  change Rd w (fun _ => True) (encInts args) _ at ha
  change Rd w (fun _ => True) (encBlocks ks) _ at hk
  rw [nS] at hlen
  simp only [StepL.op, StepL.num, StepL.into]
  have ht := (sigsOk_parts hok).1
  have hf := Few.of_ok ht
  have hd4 := typesOk_len ht
  have hr4 : rs.length ≤ 4 := by have := (sigsOk_parts hok).2.2.1; simpa using this
  have hn0 : n0 ≤ 4 := by have := (decls_at hp.1).1; omega
  have hnv : nv ≤ 1052000 := by have := (ints_at hv).1; omega
  have hna : na ≤ 9223372036854775807 := (ints_at ha).2.2.1
  have hnk : ks.length = nk := (blocks_at hk).1
  have hnl : args.length = na := (ints_at ha).1
  have K0 := (Keep.al w (.cells #[.slice a0 n0 c0, .slice a1 n1 c1] 30)).trans (Keep.al _ (.cells #[.int .i64 4, .int .i64 0, .int .i64 into, .slice aa na ca, .slice ak nk ck] 136))
  have R0 := (rowOf w #[.slice a0 n0 c0, .slice a1 n1 c1] 30).alloc (.cells #[.int .i64 4, .int .i64 0, .int .i64 into, .slice aa na ca, .slice ak nk ck] 136)
  have R1 := rowOf (w.alloc (.cells #[.slice a0 n0 c0, .slice a1 n1 c1] 30)) #[.int .i64 4, .int .i64 0, .int .i64 into, .slice aa na ca, .slice ak nk ck] 136
  simp only [World.size_alloc] at R1
  have HNK := Lib.hid hnk
  have HNL := Lib.hid hnl
  have HOK := Lib.hid hok
  have HAll := Lib.hid hall
  have HLen := Lib.hid hlen
  have HT := Lib.hid ht
  have HF := Lib.hid hf
  have IH := Lib.hid IH0
  clear hok hall ht IH0 hnk hnl hf
  cases hi : intoOk sc 4 into
  · have V : Hid (stpT ds (rs.map sigR) sc (.mk 4 0 into args ks) = -1) := stp_into _ _ _ _ _ _ _ _ hi
    have HI := Lib.hid hi
    clear hi
    go_enter Tryz.func129, Tryz.ntmps129
    go_wp2_with fail
    refine (specValidInto _ _ _ sc 4 0 into _ _ _ _ _ _ _ _ (hv.k K0).toInts (by omega)).mono ?_
    rw [HI.out]
    rintro e w1 ⟨rfl, p1⟩
    have K1 := Lib.hid (K0.trans p1)
    have R0' := Lib.hid (row_ext R0 p1 (fun h => h))
    have R1' := Lib.hid (row_ext R1 p1 (fun h => h))
    have x0 := R0'.out.cell (i := 0) (by simp)
    have x1 := R0'.out.cell (i := 1) (by simp)
    have y0 := R1'.out.cell (i := 0) (by simp)
    have y1 := R1'.out.cell (i := 1) (by simp)
    have y2 := R1'.out.cell (i := 2) (by simp)
    have y3 := R1'.out.cell (i := 3) (by simp)
    have y4 := R1'.out.cell (i := 4) (by simp)
    simp at x0 x1 y0 y1 y2 y3 y4
    clear R0 R1 K0 p1
    go_wp2_with fail
    exact fin_ hQ ⟨ret_i V.out.symm, K1.out⟩
  have HI := Lib.hid hi
  clear hi
  by_cases hk0 : nk = 0
  case neg =>
    have hk1 : 0 < nk := by omega
    have V : Hid (stpT ds (rs.map sigR) sc (.mk 4 0 into args ks) = -1) := stp_kids _ _ _ _ _ _ _ _ (by omega) (by omega) (by have := HNK.out; omega)
    clear hk0
    go_enter Tryz.func129, Tryz.ntmps129
    go_wp2_with fail
    refine (specValidInto _ _ _ sc 4 0 into _ _ _ _ _ _ _ _ (hv.k K0).toInts (by omega)).mono ?_
    rw [HI.out]
    rintro e w1 ⟨rfl, p1⟩
    have K1 := Lib.hid (K0.trans p1)
    have R0' := Lib.hid (row_ext R0 p1 (fun h => h))
    have R1' := Lib.hid (row_ext R1 p1 (fun h => h))
    have x0 := R0'.out.cell (i := 0) (by simp)
    have x1 := R0'.out.cell (i := 1) (by simp)
    have y0 := R1'.out.cell (i := 0) (by simp)
    have y1 := R1'.out.cell (i := 1) (by simp)
    have y2 := R1'.out.cell (i := 2) (by simp)
    have y3 := R1'.out.cell (i := 3) (by simp)
    have y4 := R1'.out.cell (i := 4) (by simp)
    simp at x0 x1 y0 y1 y2 y3 y4
    clear R0 R1 K0 p1
    go_wp2_with fail
    exact fin_ hQ ⟨ret_i V.out.symm, K1.out⟩
  subst hk0
  have V0 : Hid (stpT ds (rs.map sigR) sc (.mk 4 0 into args ks) = routS ds (rs.map sigR) sc 4 0 args) := stp_rout _ _ _ _ _ _ _ _ HI.out (by omega) (by omega) HNK.out
  cases htd : typedL sc args [0, 0]
  · have V : Hid (stpT ds (rs.map sigR) sc (.mk 4 0 into args ks) = -1) := by show _ = _; rw [V0.out, routS_two _ _ _ _ (by omega)]; rw [if_neg (by rw [htd]; simp)]
    have HTD := Lib.hid htd
    clear htd
    go_enter Tryz.func129, Tryz.ntmps129
    go_wp2_with fail
    refine (specValidInto _ _ _ sc 4 0 into _ _ _ _ _ _ _ _ (hv.k K0).toInts (by omega)).mono ?_
    rw [HI.out]
    rintro e w1 ⟨rfl, p1⟩
    have K1 := Lib.hid (K0.trans p1)
    have R0' := Lib.hid (row_ext R0 p1 (fun h => h))
    have R1' := Lib.hid (row_ext R1 p1 (fun h => h))
    have x0 := R0'.out.cell (i := 0) (by simp)
    have x1 := R0'.out.cell (i := 1) (by simp)
    have y0 := R1'.out.cell (i := 0) (by simp)
    have y1 := R1'.out.cell (i := 1) (by simp)
    have y2 := R1'.out.cell (i := 2) (by simp)
    have y3 := R1'.out.cell (i := 3) (by simp)
    have y4 := R1'.out.cell (i := 4) (by simp)
    simp at x0 x1 y0 y1 y2 y3 y4
    clear R0 R1 K0 p1
    go_wp2_with fail
    refine (specTyped _ _ _ sc _ _ _ args _ _ _ [0, 0] _ _ _ _ ((hv.k K1.out).k (Keep.al _ _)).toInts ((ha.k K1.out).k (Keep.al _ _)).toInts (lit_intsD w1 (fun _ => True) _ [0, 0] _ 2 trivial rfl rfl (by omega)).toInts (by omega) hna).mono ?_
    rw [HTD.out]
    rintro e w2 ⟨rfl, p2⟩
    have pk := Ext.trans (Keep.al w1 _) p2
    have KE := Lib.hid (K1.out.trans pk)
    have x0 := (pk.cell (World.block_lt_of_cell? _ _ x0) (fun h => h)).trans x0
    have x1 := (pk.cell (World.block_lt_of_cell? _ _ x1) (fun h => h)).trans x1
    have y0 := (pk.cell (World.block_lt_of_cell? _ _ y0) (fun h => h)).trans y0
    have y1 := (pk.cell (World.block_lt_of_cell? _ _ y1) (fun h => h)).trans y1
    have y2 := (pk.cell (World.block_lt_of_cell? _ _ y2) (fun h => h)).trans y2
    have y3 := (pk.cell (World.block_lt_of_cell? _ _ y3) (fun h => h)).trans y3
    have y4 := (pk.cell (World.block_lt_of_cell? _ _ y4) (fun h => h)).trans y4
    clear pk p2
    go_wp2_with fail
    exact fin_ hQ ⟨ret_i V.out.symm, KE.out⟩
  have HTD := Lib.hid htd
  clear htd
  have V : Hid (stpT ds (rs.map sigR) sc (.mk 4 0 into args ks) = 0) := by show _ = _; rw [V0.out, routS_two _ _ _ _ (by omega)]; rw [if_pos HTD.out]
  go_enter Tryz.func129, Tryz.ntmps129
  go_wp2_with fail
  refine (specValidInto _ _ _ sc 4 0 into _ _ _ _ _ _ _ _ (hv.k K0).toInts (by omega)).mono ?_
  rw [HI.out]
  rintro e w1 ⟨rfl, p1⟩
  have K1 := Lib.hid (K0.trans p1)
  have R0' := Lib.hid (row_ext R0 p1 (fun h => h))
  have R1' := Lib.hid (row_ext R1 p1 (fun h => h))
  have x0 := R0'.out.cell (i := 0) (by simp)
  have x1 := R0'.out.cell (i := 1) (by simp)
  have y0 := R1'.out.cell (i := 0) (by simp)
  have y1 := R1'.out.cell (i := 1) (by simp)
  have y2 := R1'.out.cell (i := 2) (by simp)
  have y3 := R1'.out.cell (i := 3) (by simp)
  have y4 := R1'.out.cell (i := 4) (by simp)
  simp at x0 x1 y0 y1 y2 y3 y4
  clear R0 R1 K0 p1
  go_wp2_with fail
  refine (specTyped _ _ _ sc _ _ _ args _ _ _ [0, 0] _ _ _ _ ((hv.k K1.out).k (Keep.al _ _)).toInts ((ha.k K1.out).k (Keep.al _ _)).toInts (lit_intsD w1 (fun _ => True) _ [0, 0] _ 2 trivial rfl rfl (by omega)).toInts (by omega) hna).mono ?_
  rw [HTD.out]
  rintro e w2 ⟨rfl, p2⟩
  have pk := Ext.trans (Keep.al w1 _) p2
  have KE := Lib.hid (K1.out.trans pk)
  have x0 := (pk.cell (World.block_lt_of_cell? _ _ x0) (fun h => h)).trans x0
  have x1 := (pk.cell (World.block_lt_of_cell? _ _ x1) (fun h => h)).trans x1
  have y0 := (pk.cell (World.block_lt_of_cell? _ _ y0) (fun h => h)).trans y0
  have y1 := (pk.cell (World.block_lt_of_cell? _ _ y1) (fun h => h)).trans y1
  have y2 := (pk.cell (World.block_lt_of_cell? _ _ y2) (fun h => h)).trans y2
  have y3 := (pk.cell (World.block_lt_of_cell? _ _ y3) (fun h => h)).trans y3
  have y4 := (pk.cell (World.block_lt_of_cell? _ _ y4) (fun h => h)).trans y4
  clear pk p2
  go_wp2_with fail
  exact fin_ hQ ⟨ret_i V.out.symm, KE.out⟩

set_option maxRecDepth 100000 in
set_option maxHeartbeats 4000000 in
theorem specSt_5 (into : Int) (args : List Int) (ks : List BlockL) (IH0 : ∀ j, j < ks.length → BlS ds rs (bAt ks j).result (bAt ks j).steps) : StS ds rs (.mk 5 0 into args ks) := by
  intro a0 n0 c0 a1 n1 c1 av nv cv sc aa na ca ak nk ck w hp hv ha hk hlen hall
  refine calls_k fun Q hQ => ?_
  change Rd w (fun _ => True) (encInts args) _ at ha
  change Rd w (fun _ => True) (encBlocks ks) _ at hk
  rw [nS] at hlen
  simp only [StepL.op, StepL.num, StepL.into]
  have ht := (sigsOk_parts hok).1
  have hf := Few.of_ok ht
  have hd4 := typesOk_len ht
  have hr4 : rs.length ≤ 4 := by have := (sigsOk_parts hok).2.2.1; simpa using this
  have hn0 : n0 ≤ 4 := by have := (decls_at hp.1).1; omega
  have hnv : nv ≤ 1052000 := by have := (ints_at hv).1; omega
  have hna : na ≤ 9223372036854775807 := (ints_at ha).2.2.1
  have hnk : ks.length = nk := (blocks_at hk).1
  have hnl : args.length = na := (ints_at ha).1
  have K0 := (Keep.al w (.cells #[.slice a0 n0 c0, .slice a1 n1 c1] 30)).trans (Keep.al _ (.cells #[.int .i64 5, .int .i64 0, .int .i64 into, .slice aa na ca, .slice ak nk ck] 136))
  have R0 := (rowOf w #[.slice a0 n0 c0, .slice a1 n1 c1] 30).alloc (.cells #[.int .i64 5, .int .i64 0, .int .i64 into, .slice aa na ca, .slice ak nk ck] 136)
  have R1 := rowOf (w.alloc (.cells #[.slice a0 n0 c0, .slice a1 n1 c1] 30)) #[.int .i64 5, .int .i64 0, .int .i64 into, .slice aa na ca, .slice ak nk ck] 136
  simp only [World.size_alloc] at R1
  have HNK := Lib.hid hnk
  have HNL := Lib.hid hnl
  have HOK := Lib.hid hok
  have HAll := Lib.hid hall
  have HLen := Lib.hid hlen
  have HT := Lib.hid ht
  have HF := Lib.hid hf
  have IH := Lib.hid IH0
  clear hok hall ht IH0 hnk hnl hf
  cases hi : intoOk sc 5 into
  · have V : Hid (stpT ds (rs.map sigR) sc (.mk 5 0 into args ks) = -1) := stp_into _ _ _ _ _ _ _ _ hi
    have HI := Lib.hid hi
    clear hi
    go_enter Tryz.func129, Tryz.ntmps129
    go_wp2_with fail
    refine (specValidInto _ _ _ sc 5 0 into _ _ _ _ _ _ _ _ (hv.k K0).toInts (by omega)).mono ?_
    rw [HI.out]
    rintro e w1 ⟨rfl, p1⟩
    have K1 := Lib.hid (K0.trans p1)
    have R0' := Lib.hid (row_ext R0 p1 (fun h => h))
    have R1' := Lib.hid (row_ext R1 p1 (fun h => h))
    have x0 := R0'.out.cell (i := 0) (by simp)
    have x1 := R0'.out.cell (i := 1) (by simp)
    have y0 := R1'.out.cell (i := 0) (by simp)
    have y1 := R1'.out.cell (i := 1) (by simp)
    have y2 := R1'.out.cell (i := 2) (by simp)
    have y3 := R1'.out.cell (i := 3) (by simp)
    have y4 := R1'.out.cell (i := 4) (by simp)
    simp at x0 x1 y0 y1 y2 y3 y4
    clear R0 R1 K0 p1
    go_wp2_with fail
    exact fin_ hQ ⟨ret_i V.out.symm, K1.out⟩
  have HI := Lib.hid hi
  clear hi
  by_cases hk0 : nk = 0
  case neg =>
    have hk1 : 0 < nk := by omega
    have V : Hid (stpT ds (rs.map sigR) sc (.mk 5 0 into args ks) = -1) := stp_kids _ _ _ _ _ _ _ _ (by omega) (by omega) (by have := HNK.out; omega)
    clear hk0
    go_enter Tryz.func129, Tryz.ntmps129
    go_wp2_with fail
    refine (specValidInto _ _ _ sc 5 0 into _ _ _ _ _ _ _ _ (hv.k K0).toInts (by omega)).mono ?_
    rw [HI.out]
    rintro e w1 ⟨rfl, p1⟩
    have K1 := Lib.hid (K0.trans p1)
    have R0' := Lib.hid (row_ext R0 p1 (fun h => h))
    have R1' := Lib.hid (row_ext R1 p1 (fun h => h))
    have x0 := R0'.out.cell (i := 0) (by simp)
    have x1 := R0'.out.cell (i := 1) (by simp)
    have y0 := R1'.out.cell (i := 0) (by simp)
    have y1 := R1'.out.cell (i := 1) (by simp)
    have y2 := R1'.out.cell (i := 2) (by simp)
    have y3 := R1'.out.cell (i := 3) (by simp)
    have y4 := R1'.out.cell (i := 4) (by simp)
    simp at x0 x1 y0 y1 y2 y3 y4
    clear R0 R1 K0 p1
    go_wp2_with fail
    exact fin_ hQ ⟨ret_i V.out.symm, K1.out⟩
  subst hk0
  have V0 : Hid (stpT ds (rs.map sigR) sc (.mk 5 0 into args ks) = routS ds (rs.map sigR) sc 5 0 args) := stp_rout _ _ _ _ _ _ _ _ HI.out (by omega) (by omega) HNK.out
  cases htd : typedL sc args [0]
  · have V : Hid (stpT ds (rs.map sigR) sc (.mk 5 0 into args ks) = -1) := by show _ = _; rw [V0.out, routS_one]; rw [if_neg (by rw [htd]; simp)]
    have HTD := Lib.hid htd
    clear htd
    go_enter Tryz.func129, Tryz.ntmps129
    go_wp2_with fail
    refine (specValidInto _ _ _ sc 5 0 into _ _ _ _ _ _ _ _ (hv.k K0).toInts (by omega)).mono ?_
    rw [HI.out]
    rintro e w1 ⟨rfl, p1⟩
    have K1 := Lib.hid (K0.trans p1)
    have R0' := Lib.hid (row_ext R0 p1 (fun h => h))
    have R1' := Lib.hid (row_ext R1 p1 (fun h => h))
    have x0 := R0'.out.cell (i := 0) (by simp)
    have x1 := R0'.out.cell (i := 1) (by simp)
    have y0 := R1'.out.cell (i := 0) (by simp)
    have y1 := R1'.out.cell (i := 1) (by simp)
    have y2 := R1'.out.cell (i := 2) (by simp)
    have y3 := R1'.out.cell (i := 3) (by simp)
    have y4 := R1'.out.cell (i := 4) (by simp)
    simp at x0 x1 y0 y1 y2 y3 y4
    clear R0 R1 K0 p1
    go_wp2_with fail
    refine (specTyped _ _ _ sc _ _ _ args _ _ _ [0] _ _ _ _ ((hv.k K1.out).k (Keep.al _ _)).toInts ((ha.k K1.out).k (Keep.al _ _)).toInts (lit_intsD w1 (fun _ => True) _ [0] _ 1 trivial rfl rfl (by omega)).toInts (by omega) hna).mono ?_
    rw [HTD.out]
    rintro e w2 ⟨rfl, p2⟩
    have pk := Ext.trans (Keep.al w1 _) p2
    have KE := Lib.hid (K1.out.trans pk)
    have x0 := (pk.cell (World.block_lt_of_cell? _ _ x0) (fun h => h)).trans x0
    have x1 := (pk.cell (World.block_lt_of_cell? _ _ x1) (fun h => h)).trans x1
    have y0 := (pk.cell (World.block_lt_of_cell? _ _ y0) (fun h => h)).trans y0
    have y1 := (pk.cell (World.block_lt_of_cell? _ _ y1) (fun h => h)).trans y1
    have y2 := (pk.cell (World.block_lt_of_cell? _ _ y2) (fun h => h)).trans y2
    have y3 := (pk.cell (World.block_lt_of_cell? _ _ y3) (fun h => h)).trans y3
    have y4 := (pk.cell (World.block_lt_of_cell? _ _ y4) (fun h => h)).trans y4
    clear pk p2
    go_wp2_with fail
    exact fin_ hQ ⟨ret_i V.out.symm, KE.out⟩
  have HTD := Lib.hid htd
  clear htd
  have V : Hid (stpT ds (rs.map sigR) sc (.mk 5 0 into args ks) = 0) := by show _ = _; rw [V0.out, routS_one]; rw [if_pos HTD.out]
  go_enter Tryz.func129, Tryz.ntmps129
  go_wp2_with fail
  refine (specValidInto _ _ _ sc 5 0 into _ _ _ _ _ _ _ _ (hv.k K0).toInts (by omega)).mono ?_
  rw [HI.out]
  rintro e w1 ⟨rfl, p1⟩
  have K1 := Lib.hid (K0.trans p1)
  have R0' := Lib.hid (row_ext R0 p1 (fun h => h))
  have R1' := Lib.hid (row_ext R1 p1 (fun h => h))
  have x0 := R0'.out.cell (i := 0) (by simp)
  have x1 := R0'.out.cell (i := 1) (by simp)
  have y0 := R1'.out.cell (i := 0) (by simp)
  have y1 := R1'.out.cell (i := 1) (by simp)
  have y2 := R1'.out.cell (i := 2) (by simp)
  have y3 := R1'.out.cell (i := 3) (by simp)
  have y4 := R1'.out.cell (i := 4) (by simp)
  simp at x0 x1 y0 y1 y2 y3 y4
  clear R0 R1 K0 p1
  go_wp2_with fail
  refine (specTyped _ _ _ sc _ _ _ args _ _ _ [0] _ _ _ _ ((hv.k K1.out).k (Keep.al _ _)).toInts ((ha.k K1.out).k (Keep.al _ _)).toInts (lit_intsD w1 (fun _ => True) _ [0] _ 1 trivial rfl rfl (by omega)).toInts (by omega) hna).mono ?_
  rw [HTD.out]
  rintro e w2 ⟨rfl, p2⟩
  have pk := Ext.trans (Keep.al w1 _) p2
  have KE := Lib.hid (K1.out.trans pk)
  have x0 := (pk.cell (World.block_lt_of_cell? _ _ x0) (fun h => h)).trans x0
  have x1 := (pk.cell (World.block_lt_of_cell? _ _ x1) (fun h => h)).trans x1
  have y0 := (pk.cell (World.block_lt_of_cell? _ _ y0) (fun h => h)).trans y0
  have y1 := (pk.cell (World.block_lt_of_cell? _ _ y1) (fun h => h)).trans y1
  have y2 := (pk.cell (World.block_lt_of_cell? _ _ y2) (fun h => h)).trans y2
  have y3 := (pk.cell (World.block_lt_of_cell? _ _ y3) (fun h => h)).trans y3
  have y4 := (pk.cell (World.block_lt_of_cell? _ _ y4) (fun h => h)).trans y4
  clear pk p2
  go_wp2_with fail
  exact fin_ hQ ⟨ret_i V.out.symm, KE.out⟩
end
end Go.Proofs.YtkapldpmjkdmcaaGreat
/- The reference's types of steps. -/
namespace Go.Proofs.YtkapldpmjkdmcaaGreat
open Go.RowKit

section
variable (ds : List DeclL) (rs : List RoutL) (hok : sigsOk ds (rs.map sigR) = true)
include hok

set_option maxRecDepth 100000 in
set_option maxHeartbeats 4000000 in
theorem specSt_7 (into : Int) (args : List Int) (ks : List BlockL) (IH0 : ∀ j, j < ks.length → BlS ds rs (bAt ks j).result (bAt ks j).steps) : StS ds rs (.mk 7 0 into args ks) := by
  intro a0 n0 c0 a1 n1 c1 av nv cv sc aa na ca ak nk ck w hp hv ha hk hlen hall
  refine calls_k fun Q hQ => ?_
  change Rd w (fun _ => True) (encInts args) _ at ha
  change Rd w (fun _ => True) (encBlocks ks) _ at hk
  rw [nS] at hlen
  simp only [StepL.op, StepL.num, StepL.into]
  have ht := (sigsOk_parts hok).1
  have hf := Few.of_ok ht
  have hd4 := typesOk_len ht
  have hr4 : rs.length ≤ 4 := by have := (sigsOk_parts hok).2.2.1; simpa using this
  have hn0 : n0 ≤ 4 := by have := (decls_at hp.1).1; omega
  have hnv : nv ≤ 1052000 := by have := (ints_at hv).1; omega
  have hna : na ≤ 9223372036854775807 := (ints_at ha).2.2.1
  have hnk : ks.length = nk := (blocks_at hk).1
  have hnl : args.length = na := (ints_at ha).1
  have K0 := (Keep.al w (.cells #[.slice a0 n0 c0, .slice a1 n1 c1] 30)).trans (Keep.al _ (.cells #[.int .i64 7, .int .i64 0, .int .i64 into, .slice aa na ca, .slice ak nk ck] 136))
  have R0 := (rowOf w #[.slice a0 n0 c0, .slice a1 n1 c1] 30).alloc (.cells #[.int .i64 7, .int .i64 0, .int .i64 into, .slice aa na ca, .slice ak nk ck] 136)
  have R1 := rowOf (w.alloc (.cells #[.slice a0 n0 c0, .slice a1 n1 c1] 30)) #[.int .i64 7, .int .i64 0, .int .i64 into, .slice aa na ca, .slice ak nk ck] 136
  simp only [World.size_alloc] at R1
  have HNK := Lib.hid hnk
  have HNL := Lib.hid hnl
  have HOK := Lib.hid hok
  have HAll := Lib.hid hall
  have HLen := Lib.hid hlen
  have HT := Lib.hid ht
  have HF := Lib.hid hf
  have IH := Lib.hid IH0
  clear hok hall ht IH0 hnk hnl hf
  cases hi : intoOk sc 7 into
  · have V : Hid (stpT ds (rs.map sigR) sc (.mk 7 0 into args ks) = -1) := stp_into _ _ _ _ _ _ _ _ hi
    have HI := Lib.hid hi
    clear hi
    go_enter Tryz.func129, Tryz.ntmps129
    go_wp2_with fail
    refine (specValidInto _ _ _ sc 7 0 into _ _ _ _ _ _ _ _ (hv.k K0).toInts (by omega)).mono ?_
    rw [HI.out]
    rintro e w1 ⟨rfl, p1⟩
    have K1 := Lib.hid (K0.trans p1)
    have R0' := Lib.hid (row_ext R0 p1 (fun h => h))
    have R1' := Lib.hid (row_ext R1 p1 (fun h => h))
    have x0 := R0'.out.cell (i := 0) (by simp)
    have x1 := R0'.out.cell (i := 1) (by simp)
    have y0 := R1'.out.cell (i := 0) (by simp)
    have y1 := R1'.out.cell (i := 1) (by simp)
    have y2 := R1'.out.cell (i := 2) (by simp)
    have y3 := R1'.out.cell (i := 3) (by simp)
    have y4 := R1'.out.cell (i := 4) (by simp)
    simp at x0 x1 y0 y1 y2 y3 y4
    clear R0 R1 K0 p1
    go_wp2_with fail
    exact fin_ hQ ⟨ret_i V.out.symm, K1.out⟩
  have HI := Lib.hid hi
  clear hi
  rcases Nat.eq_zero_or_pos nk with hk0 | hk0
  · subst hk0
    cases htd : typedL sc args [0]
    · have V : Hid (stpT ds (rs.map sigR) sc (.mk 7 0 into args ks) = -1) := by show _ = _; rw [stp_7 _ _ _ _ _ _ HI.out]; rw [if_neg (by rw [htd]; simp)]
      have HTD := Lib.hid htd
      clear htd
      go_enter Tryz.func129, Tryz.ntmps129
      go_wp2_with fail
      refine (specValidInto _ _ _ sc 7 0 into _ _ _ _ _ _ _ _ (hv.k K0).toInts (by omega)).mono ?_
      rw [HI.out]
      rintro e w1 ⟨rfl, p1⟩
      have K1 := Lib.hid (K0.trans p1)
      have R0' := Lib.hid (row_ext R0 p1 (fun h => h))
      have R1' := Lib.hid (row_ext R1 p1 (fun h => h))
      have x0 := R0'.out.cell (i := 0) (by simp)
      have x1 := R0'.out.cell (i := 1) (by simp)
      have y0 := R1'.out.cell (i := 0) (by simp)
      have y1 := R1'.out.cell (i := 1) (by simp)
      have y2 := R1'.out.cell (i := 2) (by simp)
      have y3 := R1'.out.cell (i := 3) (by simp)
      have y4 := R1'.out.cell (i := 4) (by simp)
      simp at x0 x1 y0 y1 y2 y3 y4
      clear R0 R1 K0 p1
      go_wp2_with fail
      refine (specTyped _ _ _ sc _ _ _ args _ _ _ [0] _ _ _ _ ((hv.k K1.out).k (Keep.al _ _)).toInts ((ha.k K1.out).k (Keep.al _ _)).toInts (lit_intsD w1 (fun _ => True) _ [0] _ 1 trivial rfl rfl (by omega)).toInts (by omega) hna).mono ?_
      rw [HTD.out]
      rintro e w2 ⟨rfl, p2⟩
      have pk := Ext.trans (Keep.al w1 _) p2
      have KE := Lib.hid (K1.out.trans pk)
      have x0 := (pk.cell (World.block_lt_of_cell? _ _ x0) (fun h => h)).trans x0
      have x1 := (pk.cell (World.block_lt_of_cell? _ _ x1) (fun h => h)).trans x1
      have y0 := (pk.cell (World.block_lt_of_cell? _ _ y0) (fun h => h)).trans y0
      have y1 := (pk.cell (World.block_lt_of_cell? _ _ y1) (fun h => h)).trans y1
      have y2 := (pk.cell (World.block_lt_of_cell? _ _ y2) (fun h => h)).trans y2
      have y3 := (pk.cell (World.block_lt_of_cell? _ _ y3) (fun h => h)).trans y3
      have y4 := (pk.cell (World.block_lt_of_cell? _ _ y4) (fun h => h)).trans y4
      clear pk p2
      go_wp2_with fail
      exact fin_ hQ ⟨ret_i V.out.symm, KE.out⟩
    have HTD := Lib.hid htd
    clear htd
    have V : Hid (stpT ds (rs.map sigR) sc (.mk 7 0 into args ks) = kids7 ds (rs.map sigR) sc ks) := by show _ = _; rw [stp_7 _ _ _ _ _ _ HI.out]; rw [if_pos HTD.out]
    go_enter Tryz.func129, Tryz.ntmps129
    go_wp2_with fail
    refine (specValidInto _ _ _ sc 7 0 into _ _ _ _ _ _ _ _ (hv.k K0).toInts (by omega)).mono ?_
    rw [HI.out]
    rintro e w1 ⟨rfl, p1⟩
    have K1 := Lib.hid (K0.trans p1)
    have R0' := Lib.hid (row_ext R0 p1 (fun h => h))
    have R1' := Lib.hid (row_ext R1 p1 (fun h => h))
    have x0 := R0'.out.cell (i := 0) (by simp)
    have x1 := R0'.out.cell (i := 1) (by simp)
    have y0 := R1'.out.cell (i := 0) (by simp)
    have y1 := R1'.out.cell (i := 1) (by simp)
    have y2 := R1'.out.cell (i := 2) (by simp)
    have y3 := R1'.out.cell (i := 3) (by simp)
    have y4 := R1'.out.cell (i := 4) (by simp)
    simp at x0 x1 y0 y1 y2 y3 y4
    clear R0 R1 K0 p1
    go_wp2_with fail
    refine (specTyped _ _ _ sc _ _ _ args _ _ _ [0] _ _ _ _ ((hv.k K1.out).k (Keep.al _ _)).toInts ((ha.k K1.out).k (Keep.al _ _)).toInts (lit_intsD w1 (fun _ => True) _ [0] _ 1 trivial rfl rfl (by omega)).toInts (by omega) hna).mono ?_
    rw [HTD.out]
    rintro e w2 ⟨rfl, p2⟩
    have pk := Ext.trans (Keep.al w1 _) p2
    have KE := Lib.hid (K1.out.trans pk)
    have x0 := (pk.cell (World.block_lt_of_cell? _ _ x0) (fun h => h)).trans x0
    have x1 := (pk.cell (World.block_lt_of_cell? _ _ x1) (fun h => h)).trans x1
    have y0 := (pk.cell (World.block_lt_of_cell? _ _ y0) (fun h => h)).trans y0
    have y1 := (pk.cell (World.block_lt_of_cell? _ _ y1) (fun h => h)).trans y1
    have y2 := (pk.cell (World.block_lt_of_cell? _ _ y2) (fun h => h)).trans y2
    have y3 := (pk.cell (World.block_lt_of_cell? _ _ y3) (fun h => h)).trans y3
    have y4 := (pk.cell (World.block_lt_of_cell? _ _ y4) (fun h => h)).trans y4
    clear pk p2
    go_wp2_with fail
    refine (specKids_7 ds rs 0 into ks IH.out _ _ _ _ _ _ _ _ _ sc _ _ _ _ _ _ _ (hp.k KE.out) (hv.k KE.out) (hk.k KE.out) (by have := HLen.out; omega) HAll.out HOK.out).mono ?_
    rintro e w3 ⟨rfl, p3⟩
    go_wp2_with fail
    exact fin_ hQ ⟨ret_i V.out.symm, KE.out.trans p3⟩
  · cases htd : typedL sc args [0]
    · have V : Hid (stpT ds (rs.map sigR) sc (.mk 7 0 into args ks) = -1) := by show _ = _; rw [stp_7 _ _ _ _ _ _ HI.out]; rw [if_neg (by rw [htd]; simp)]
      have HTD := Lib.hid htd
      clear htd
      go_enter Tryz.func129, Tryz.ntmps129
      go_wp2_with fail
      refine (specValidInto _ _ _ sc 7 0 into _ _ _ _ _ _ _ _ (hv.k K0).toInts (by omega)).mono ?_
      rw [HI.out]
      rintro e w1 ⟨rfl, p1⟩
      have K1 := Lib.hid (K0.trans p1)
      have R0' := Lib.hid (row_ext R0 p1 (fun h => h))
      have R1' := Lib.hid (row_ext R1 p1 (fun h => h))
      have x0 := R0'.out.cell (i := 0) (by simp)
      have x1 := R0'.out.cell (i := 1) (by simp)
      have y0 := R1'.out.cell (i := 0) (by simp)
      have y1 := R1'.out.cell (i := 1) (by simp)
      have y2 := R1'.out.cell (i := 2) (by simp)
      have y3 := R1'.out.cell (i := 3) (by simp)
      have y4 := R1'.out.cell (i := 4) (by simp)
      simp at x0 x1 y0 y1 y2 y3 y4
      clear R0 R1 K0 p1
      go_wp2_with fail
      refine (specTyped _ _ _ sc _ _ _ args _ _ _ [0] _ _ _ _ ((hv.k K1.out).k (Keep.al _ _)).toInts ((ha.k K1.out).k (Keep.al _ _)).toInts (lit_intsD w1 (fun _ => True) _ [0] _ 1 trivial rfl rfl (by omega)).toInts (by omega) hna).mono ?_
      rw [HTD.out]
      rintro e w2 ⟨rfl, p2⟩
      have pk := Ext.trans (Keep.al w1 _) p2
      have KE := Lib.hid (K1.out.trans pk)
      have x0 := (pk.cell (World.block_lt_of_cell? _ _ x0) (fun h => h)).trans x0
      have x1 := (pk.cell (World.block_lt_of_cell? _ _ x1) (fun h => h)).trans x1
      have y0 := (pk.cell (World.block_lt_of_cell? _ _ y0) (fun h => h)).trans y0
      have y1 := (pk.cell (World.block_lt_of_cell? _ _ y1) (fun h => h)).trans y1
      have y2 := (pk.cell (World.block_lt_of_cell? _ _ y2) (fun h => h)).trans y2
      have y3 := (pk.cell (World.block_lt_of_cell? _ _ y3) (fun h => h)).trans y3
      have y4 := (pk.cell (World.block_lt_of_cell? _ _ y4) (fun h => h)).trans y4
      clear pk p2
      go_wp2_with fail
      exact fin_ hQ ⟨ret_i V.out.symm, KE.out⟩
    have HTD := Lib.hid htd
    clear htd
    have V : Hid (stpT ds (rs.map sigR) sc (.mk 7 0 into args ks) = kids7 ds (rs.map sigR) sc ks) := by show _ = _; rw [stp_7 _ _ _ _ _ _ HI.out]; rw [if_pos HTD.out]
    go_enter Tryz.func129, Tryz.ntmps129
    go_wp2_with fail
    refine (specValidInto _ _ _ sc 7 0 into _ _ _ _ _ _ _ _ (hv.k K0).toInts (by omega)).mono ?_
    rw [HI.out]
    rintro e w1 ⟨rfl, p1⟩
    have K1 := Lib.hid (K0.trans p1)
    have R0' := Lib.hid (row_ext R0 p1 (fun h => h))
    have R1' := Lib.hid (row_ext R1 p1 (fun h => h))
    have x0 := R0'.out.cell (i := 0) (by simp)
    have x1 := R0'.out.cell (i := 1) (by simp)
    have y0 := R1'.out.cell (i := 0) (by simp)
    have y1 := R1'.out.cell (i := 1) (by simp)
    have y2 := R1'.out.cell (i := 2) (by simp)
    have y3 := R1'.out.cell (i := 3) (by simp)
    have y4 := R1'.out.cell (i := 4) (by simp)
    simp at x0 x1 y0 y1 y2 y3 y4
    clear R0 R1 K0 p1
    go_wp2_with fail
    refine (specTyped _ _ _ sc _ _ _ args _ _ _ [0] _ _ _ _ ((hv.k K1.out).k (Keep.al _ _)).toInts ((ha.k K1.out).k (Keep.al _ _)).toInts (lit_intsD w1 (fun _ => True) _ [0] _ 1 trivial rfl rfl (by omega)).toInts (by omega) hna).mono ?_
    rw [HTD.out]
    rintro e w2 ⟨rfl, p2⟩
    have pk := Ext.trans (Keep.al w1 _) p2
    have KE := Lib.hid (K1.out.trans pk)
    have x0 := (pk.cell (World.block_lt_of_cell? _ _ x0) (fun h => h)).trans x0
    have x1 := (pk.cell (World.block_lt_of_cell? _ _ x1) (fun h => h)).trans x1
    have y0 := (pk.cell (World.block_lt_of_cell? _ _ y0) (fun h => h)).trans y0
    have y1 := (pk.cell (World.block_lt_of_cell? _ _ y1) (fun h => h)).trans y1
    have y2 := (pk.cell (World.block_lt_of_cell? _ _ y2) (fun h => h)).trans y2
    have y3 := (pk.cell (World.block_lt_of_cell? _ _ y3) (fun h => h)).trans y3
    have y4 := (pk.cell (World.block_lt_of_cell? _ _ y4) (fun h => h)).trans y4
    clear pk p2
    go_wp2_with fail
    refine (specKids_7 ds rs 0 into ks IH.out _ _ _ _ _ _ _ _ _ sc _ _ _ _ _ _ _ (hp.k KE.out) (hv.k KE.out) (hk.k KE.out) (by have := HLen.out; omega) HAll.out HOK.out).mono ?_
    rintro e w3 ⟨rfl, p3⟩
    go_wp2_with fail
    exact fin_ hQ ⟨ret_i V.out.symm, KE.out.trans p3⟩
end
end Go.Proofs.YtkapldpmjkdmcaaGreat
/- The reference's types of steps. -/
namespace Go.Proofs.YtkapldpmjkdmcaaGreat
open Go.RowKit

section
variable (ds : List DeclL) (rs : List RoutL) (hok : sigsOk ds (rs.map sigR) = true)
include hok

set_option maxRecDepth 100000 in
set_option maxHeartbeats 4000000 in
theorem specSt_8_z (into : Int) (args : List Int) (ks : List BlockL) (IH0 : ∀ j, j < ks.length → BlS ds rs (bAt ks j).result (bAt ks j).steps) : StS ds rs (.mk 8 0 into args ks) := by
  intro a0 n0 c0 a1 n1 c1 av nv cv sc aa na ca ak nk ck w hp hv ha hk hlen hall
  refine calls_k fun Q hQ => ?_
  change Rd w (fun _ => True) (encInts args) _ at ha
  change Rd w (fun _ => True) (encBlocks ks) _ at hk
  rw [nS] at hlen
  simp only [StepL.op, StepL.num, StepL.into]
  have ht := (sigsOk_parts hok).1
  have hf := Few.of_ok ht
  have hd4 := typesOk_len ht
  have hr4 : rs.length ≤ 4 := by have := (sigsOk_parts hok).2.2.1; simpa using this
  have hn0 : n0 ≤ 4 := by have := (decls_at hp.1).1; omega
  have hnv : nv ≤ 1052000 := by have := (ints_at hv).1; omega
  have hna : na ≤ 9223372036854775807 := (ints_at ha).2.2.1
  have hnk : ks.length = nk := (blocks_at hk).1
  have hnl : args.length = na := (ints_at ha).1
  have K0 := (Keep.al w (.cells #[.slice a0 n0 c0, .slice a1 n1 c1] 30)).trans (Keep.al _ (.cells #[.int .i64 8, .int .i64 0, .int .i64 into, .slice aa na ca, .slice ak nk ck] 136))
  have R0 := (rowOf w #[.slice a0 n0 c0, .slice a1 n1 c1] 30).alloc (.cells #[.int .i64 8, .int .i64 0, .int .i64 into, .slice aa na ca, .slice ak nk ck] 136)
  have R1 := rowOf (w.alloc (.cells #[.slice a0 n0 c0, .slice a1 n1 c1] 30)) #[.int .i64 8, .int .i64 0, .int .i64 into, .slice aa na ca, .slice ak nk ck] 136
  simp only [World.size_alloc] at R1
  have HNK := Lib.hid hnk
  have HNL := Lib.hid hnl
  have HOK := Lib.hid hok
  have HAll := Lib.hid hall
  have HLen := Lib.hid hlen
  have HT := Lib.hid ht
  have HF := Lib.hid hf
  have IH := Lib.hid IH0
  clear hok hall ht IH0 hnk hnl hf
  cases hi : intoOk sc 8 into
  · have V : Hid (stpT ds (rs.map sigR) sc (.mk 8 0 into args ks) = -1) := stp_into _ _ _ _ _ _ _ _ hi
    have HI := Lib.hid hi
    clear hi
    go_enter Tryz.func129, Tryz.ntmps129
    go_wp2_with fail
    refine (specValidInto _ _ _ sc 8 0 into _ _ _ _ _ _ _ _ (hv.k K0).toInts (by omega)).mono ?_
    rw [HI.out]
    rintro e w1 ⟨rfl, p1⟩
    have K1 := Lib.hid (K0.trans p1)
    have R0' := Lib.hid (row_ext R0 p1 (fun h => h))
    have R1' := Lib.hid (row_ext R1 p1 (fun h => h))
    have x0 := R0'.out.cell (i := 0) (by simp)
    have x1 := R0'.out.cell (i := 1) (by simp)
    have y0 := R1'.out.cell (i := 0) (by simp)
    have y1 := R1'.out.cell (i := 1) (by simp)
    have y2 := R1'.out.cell (i := 2) (by simp)
    have y3 := R1'.out.cell (i := 3) (by simp)
    have y4 := R1'.out.cell (i := 4) (by simp)
    simp at x0 x1 y0 y1 y2 y3 y4
    clear R0 R1 K0 p1
    go_wp2_with fail
    exact fin_ hQ ⟨ret_i V.out.symm, K1.out⟩
  have HI := Lib.hid hi
  clear hi
  rcases Nat.eq_zero_or_pos nk with hk0 | hk0
  · subst hk0
    cases htd : typedL sc args [0]
    · have V : Hid (stpT ds (rs.map sigR) sc (.mk 8 0 into args ks) = -1) := by show _ = _; rw [stp_8 _ _ _ _ _ _ _ HI.out]; rw [if_neg (by rw [htd]; simp)]
      have HTD := Lib.hid htd
      clear htd
      go_enter Tryz.func129, Tryz.ntmps129
      go_wp2_with fail
      refine (specValidInto _ _ _ sc 8 0 into _ _ _ _ _ _ _ _ (hv.k K0).toInts (by omega)).mono ?_
      rw [HI.out]
      rintro e w1 ⟨rfl, p1⟩
      have K1 := Lib.hid (K0.trans p1)
      have R0' := Lib.hid (row_ext R0 p1 (fun h => h))
      have R1' := Lib.hid (row_ext R1 p1 (fun h => h))
      have x0 := R0'.out.cell (i := 0) (by simp)
      have x1 := R0'.out.cell (i := 1) (by simp)
      have y0 := R1'.out.cell (i := 0) (by simp)
      have y1 := R1'.out.cell (i := 1) (by simp)
      have y2 := R1'.out.cell (i := 2) (by simp)
      have y3 := R1'.out.cell (i := 3) (by simp)
      have y4 := R1'.out.cell (i := 4) (by simp)
      simp at x0 x1 y0 y1 y2 y3 y4
      clear R0 R1 K0 p1
      go_wp2_with fail
      refine (specTyped _ _ _ sc _ _ _ args _ _ _ [0] _ _ _ _ ((hv.k K1.out).k (Keep.al _ _)).toInts ((ha.k K1.out).k (Keep.al _ _)).toInts (lit_intsD w1 (fun _ => True) _ [0] _ 1 trivial rfl rfl (by omega)).toInts (by omega) hna).mono ?_
      rw [HTD.out]
      rintro e w2 ⟨rfl, p2⟩
      have pk := Ext.trans (Keep.al w1 _) p2
      have KE := Lib.hid (K1.out.trans pk)
      have x0 := (pk.cell (World.block_lt_of_cell? _ _ x0) (fun h => h)).trans x0
      have x1 := (pk.cell (World.block_lt_of_cell? _ _ x1) (fun h => h)).trans x1
      have y0 := (pk.cell (World.block_lt_of_cell? _ _ y0) (fun h => h)).trans y0
      have y1 := (pk.cell (World.block_lt_of_cell? _ _ y1) (fun h => h)).trans y1
      have y2 := (pk.cell (World.block_lt_of_cell? _ _ y2) (fun h => h)).trans y2
      have y3 := (pk.cell (World.block_lt_of_cell? _ _ y3) (fun h => h)).trans y3
      have y4 := (pk.cell (World.block_lt_of_cell? _ _ y4) (fun h => h)).trans y4
      clear pk p2
      go_wp2_with fail
      exact fin_ hQ ⟨ret_i V.out.symm, KE.out⟩
    have HTD := Lib.hid htd
    clear htd
    have V : Hid (stpT ds (rs.map sigR) sc (.mk 8 0 into args ks) = kids8 ds (rs.map sigR) sc 0 ks) := by show _ = _; rw [stp_8 _ _ _ _ _ _ _ HI.out]; rw [if_pos HTD.out]
    go_enter Tryz.func129, Tryz.ntmps129
    go_wp2_with fail
    refine (specValidInto _ _ _ sc 8 0 into _ _ _ _ _ _ _ _ (hv.k K0).toInts (by omega)).mono ?_
    rw [HI.out]
    rintro e w1 ⟨rfl, p1⟩
    have K1 := Lib.hid (K0.trans p1)
    have R0' := Lib.hid (row_ext R0 p1 (fun h => h))
    have R1' := Lib.hid (row_ext R1 p1 (fun h => h))
    have x0 := R0'.out.cell (i := 0) (by simp)
    have x1 := R0'.out.cell (i := 1) (by simp)
    have y0 := R1'.out.cell (i := 0) (by simp)
    have y1 := R1'.out.cell (i := 1) (by simp)
    have y2 := R1'.out.cell (i := 2) (by simp)
    have y3 := R1'.out.cell (i := 3) (by simp)
    have y4 := R1'.out.cell (i := 4) (by simp)
    simp at x0 x1 y0 y1 y2 y3 y4
    clear R0 R1 K0 p1
    go_wp2_with fail
    refine (specTyped _ _ _ sc _ _ _ args _ _ _ [0] _ _ _ _ ((hv.k K1.out).k (Keep.al _ _)).toInts ((ha.k K1.out).k (Keep.al _ _)).toInts (lit_intsD w1 (fun _ => True) _ [0] _ 1 trivial rfl rfl (by omega)).toInts (by omega) hna).mono ?_
    rw [HTD.out]
    rintro e w2 ⟨rfl, p2⟩
    have pk := Ext.trans (Keep.al w1 _) p2
    have KE := Lib.hid (K1.out.trans pk)
    have x0 := (pk.cell (World.block_lt_of_cell? _ _ x0) (fun h => h)).trans x0
    have x1 := (pk.cell (World.block_lt_of_cell? _ _ x1) (fun h => h)).trans x1
    have y0 := (pk.cell (World.block_lt_of_cell? _ _ y0) (fun h => h)).trans y0
    have y1 := (pk.cell (World.block_lt_of_cell? _ _ y1) (fun h => h)).trans y1
    have y2 := (pk.cell (World.block_lt_of_cell? _ _ y2) (fun h => h)).trans y2
    have y3 := (pk.cell (World.block_lt_of_cell? _ _ y3) (fun h => h)).trans y3
    have y4 := (pk.cell (World.block_lt_of_cell? _ _ y4) (fun h => h)).trans y4
    clear pk p2
    go_wp2_with fail
    refine (specKids_8 ds rs 0 into ks IH.out _ _ _ _ _ _ _ _ _ sc _ _ _ _ _ _ _ (hp.k KE.out) (hv.k KE.out) (hk.k KE.out) (by have := HLen.out; omega) HAll.out HOK.out).mono ?_
    rintro e w3 ⟨rfl, p3⟩
    go_wp2_with fail
    exact fin_ hQ ⟨ret_i V.out.symm, KE.out.trans p3⟩
  · cases htd : typedL sc args [0]
    · have V : Hid (stpT ds (rs.map sigR) sc (.mk 8 0 into args ks) = -1) := by show _ = _; rw [stp_8 _ _ _ _ _ _ _ HI.out]; rw [if_neg (by rw [htd]; simp)]
      have HTD := Lib.hid htd
      clear htd
      go_enter Tryz.func129, Tryz.ntmps129
      go_wp2_with fail
      refine (specValidInto _ _ _ sc 8 0 into _ _ _ _ _ _ _ _ (hv.k K0).toInts (by omega)).mono ?_
      rw [HI.out]
      rintro e w1 ⟨rfl, p1⟩
      have K1 := Lib.hid (K0.trans p1)
      have R0' := Lib.hid (row_ext R0 p1 (fun h => h))
      have R1' := Lib.hid (row_ext R1 p1 (fun h => h))
      have x0 := R0'.out.cell (i := 0) (by simp)
      have x1 := R0'.out.cell (i := 1) (by simp)
      have y0 := R1'.out.cell (i := 0) (by simp)
      have y1 := R1'.out.cell (i := 1) (by simp)
      have y2 := R1'.out.cell (i := 2) (by simp)
      have y3 := R1'.out.cell (i := 3) (by simp)
      have y4 := R1'.out.cell (i := 4) (by simp)
      simp at x0 x1 y0 y1 y2 y3 y4
      clear R0 R1 K0 p1
      go_wp2_with fail
      refine (specTyped _ _ _ sc _ _ _ args _ _ _ [0] _ _ _ _ ((hv.k K1.out).k (Keep.al _ _)).toInts ((ha.k K1.out).k (Keep.al _ _)).toInts (lit_intsD w1 (fun _ => True) _ [0] _ 1 trivial rfl rfl (by omega)).toInts (by omega) hna).mono ?_
      rw [HTD.out]
      rintro e w2 ⟨rfl, p2⟩
      have pk := Ext.trans (Keep.al w1 _) p2
      have KE := Lib.hid (K1.out.trans pk)
      have x0 := (pk.cell (World.block_lt_of_cell? _ _ x0) (fun h => h)).trans x0
      have x1 := (pk.cell (World.block_lt_of_cell? _ _ x1) (fun h => h)).trans x1
      have y0 := (pk.cell (World.block_lt_of_cell? _ _ y0) (fun h => h)).trans y0
      have y1 := (pk.cell (World.block_lt_of_cell? _ _ y1) (fun h => h)).trans y1
      have y2 := (pk.cell (World.block_lt_of_cell? _ _ y2) (fun h => h)).trans y2
      have y3 := (pk.cell (World.block_lt_of_cell? _ _ y3) (fun h => h)).trans y3
      have y4 := (pk.cell (World.block_lt_of_cell? _ _ y4) (fun h => h)).trans y4
      clear pk p2
      go_wp2_with fail
      exact fin_ hQ ⟨ret_i V.out.symm, KE.out⟩
    have HTD := Lib.hid htd
    clear htd
    have V : Hid (stpT ds (rs.map sigR) sc (.mk 8 0 into args ks) = kids8 ds (rs.map sigR) sc 0 ks) := by show _ = _; rw [stp_8 _ _ _ _ _ _ _ HI.out]; rw [if_pos HTD.out]
    go_enter Tryz.func129, Tryz.ntmps129
    go_wp2_with fail
    refine (specValidInto _ _ _ sc 8 0 into _ _ _ _ _ _ _ _ (hv.k K0).toInts (by omega)).mono ?_
    rw [HI.out]
    rintro e w1 ⟨rfl, p1⟩
    have K1 := Lib.hid (K0.trans p1)
    have R0' := Lib.hid (row_ext R0 p1 (fun h => h))
    have R1' := Lib.hid (row_ext R1 p1 (fun h => h))
    have x0 := R0'.out.cell (i := 0) (by simp)
    have x1 := R0'.out.cell (i := 1) (by simp)
    have y0 := R1'.out.cell (i := 0) (by simp)
    have y1 := R1'.out.cell (i := 1) (by simp)
    have y2 := R1'.out.cell (i := 2) (by simp)
    have y3 := R1'.out.cell (i := 3) (by simp)
    have y4 := R1'.out.cell (i := 4) (by simp)
    simp at x0 x1 y0 y1 y2 y3 y4
    clear R0 R1 K0 p1
    go_wp2_with fail
    refine (specTyped _ _ _ sc _ _ _ args _ _ _ [0] _ _ _ _ ((hv.k K1.out).k (Keep.al _ _)).toInts ((ha.k K1.out).k (Keep.al _ _)).toInts (lit_intsD w1 (fun _ => True) _ [0] _ 1 trivial rfl rfl (by omega)).toInts (by omega) hna).mono ?_
    rw [HTD.out]
    rintro e w2 ⟨rfl, p2⟩
    have pk := Ext.trans (Keep.al w1 _) p2
    have KE := Lib.hid (K1.out.trans pk)
    have x0 := (pk.cell (World.block_lt_of_cell? _ _ x0) (fun h => h)).trans x0
    have x1 := (pk.cell (World.block_lt_of_cell? _ _ x1) (fun h => h)).trans x1
    have y0 := (pk.cell (World.block_lt_of_cell? _ _ y0) (fun h => h)).trans y0
    have y1 := (pk.cell (World.block_lt_of_cell? _ _ y1) (fun h => h)).trans y1
    have y2 := (pk.cell (World.block_lt_of_cell? _ _ y2) (fun h => h)).trans y2
    have y3 := (pk.cell (World.block_lt_of_cell? _ _ y3) (fun h => h)).trans y3
    have y4 := (pk.cell (World.block_lt_of_cell? _ _ y4) (fun h => h)).trans y4
    clear pk p2
    go_wp2_with fail
    refine (specKids_8 ds rs 0 into ks IH.out _ _ _ _ _ _ _ _ _ sc _ _ _ _ _ _ _ (hp.k KE.out) (hv.k KE.out) (hk.k KE.out) (by have := HLen.out; omega) HAll.out HOK.out).mono ?_
    rintro e w3 ⟨rfl, p3⟩
    go_wp2_with fail
    exact fin_ hQ ⟨ret_i V.out.symm, KE.out.trans p3⟩

set_option maxRecDepth 100000 in
set_option maxHeartbeats 4000000 in
theorem specSt_8_n (num : Int) (hn : num ≠ 0) (into : Int) (args : List Int) (ks : List BlockL) (IH0 : ∀ j, j < ks.length → BlS ds rs (bAt ks j).result (bAt ks j).steps) : StS ds rs (.mk 8 num into args ks) := by
  intro a0 n0 c0 a1 n1 c1 av nv cv sc aa na ca ak nk ck w hp hv ha hk hlen hall
  refine calls_k fun Q hQ => ?_
  change Rd w (fun _ => True) (encInts args) _ at ha
  change Rd w (fun _ => True) (encBlocks ks) _ at hk
  rw [nS] at hlen
  simp only [StepL.op, StepL.num, StepL.into]
  have ht := (sigsOk_parts hok).1
  have hf := Few.of_ok ht
  have hd4 := typesOk_len ht
  have hr4 : rs.length ≤ 4 := by have := (sigsOk_parts hok).2.2.1; simpa using this
  have hn0 : n0 ≤ 4 := by have := (decls_at hp.1).1; omega
  have hnv : nv ≤ 1052000 := by have := (ints_at hv).1; omega
  have hna : na ≤ 9223372036854775807 := (ints_at ha).2.2.1
  have hnk : ks.length = nk := (blocks_at hk).1
  have hnl : args.length = na := (ints_at ha).1
  have K0 := (Keep.al w (.cells #[.slice a0 n0 c0, .slice a1 n1 c1] 30)).trans (Keep.al _ (.cells #[.int .i64 8, .int .i64 num, .int .i64 into, .slice aa na ca, .slice ak nk ck] 136))
  have R0 := (rowOf w #[.slice a0 n0 c0, .slice a1 n1 c1] 30).alloc (.cells #[.int .i64 8, .int .i64 num, .int .i64 into, .slice aa na ca, .slice ak nk ck] 136)
  have R1 := rowOf (w.alloc (.cells #[.slice a0 n0 c0, .slice a1 n1 c1] 30)) #[.int .i64 8, .int .i64 num, .int .i64 into, .slice aa na ca, .slice ak nk ck] 136
  simp only [World.size_alloc] at R1
  have HNK := Lib.hid hnk
  have HNL := Lib.hid hnl
  have HOK := Lib.hid hok
  have HAll := Lib.hid hall
  have HLen := Lib.hid hlen
  have HT := Lib.hid ht
  have HF := Lib.hid hf
  have IH := Lib.hid IH0
  clear hok hall ht IH0 hnk hnl hf
  have hn' : (num != 0) = true := by simpa using hn
  clear hn
  cases hi : intoOk sc 8 into
  · have V : Hid (stpT ds (rs.map sigR) sc (.mk 8 num into args ks) = -1) := stp_into _ _ _ _ _ _ _ _ hi
    have HI := Lib.hid hi
    clear hi
    go_enter Tryz.func129, Tryz.ntmps129
    go_wp2_with fail
    refine (specHasNum _ _).mono ?_
    rintro e w0 ⟨rfl, rfl⟩
    go_wp2_with fail
    refine (specValidInto _ _ _ sc 8 num into _ _ _ _ _ _ _ _ (hv.k K0).toInts (by omega)).mono ?_
    rw [HI.out]
    rintro e w1 ⟨rfl, p1⟩
    have K1 := Lib.hid (K0.trans p1)
    have R0' := Lib.hid (row_ext R0 p1 (fun h => h))
    have R1' := Lib.hid (row_ext R1 p1 (fun h => h))
    have x0 := R0'.out.cell (i := 0) (by simp)
    have x1 := R0'.out.cell (i := 1) (by simp)
    have y0 := R1'.out.cell (i := 0) (by simp)
    have y1 := R1'.out.cell (i := 1) (by simp)
    have y2 := R1'.out.cell (i := 2) (by simp)
    have y3 := R1'.out.cell (i := 3) (by simp)
    have y4 := R1'.out.cell (i := 4) (by simp)
    simp at x0 x1 y0 y1 y2 y3 y4
    clear R0 R1 K0 p1
    go_wp2_with fail
    exact fin_ hQ ⟨ret_i V.out.symm, K1.out⟩
  have HI := Lib.hid hi
  clear hi
  rcases Nat.eq_zero_or_pos nk with hk0 | hk0
  · subst hk0
    cases htd : typedL sc args [num]
    · have V : Hid (stpT ds (rs.map sigR) sc (.mk 8 num into args ks) = -1) := by show _ = _; rw [stp_8 _ _ _ _ _ _ _ HI.out]; rw [if_neg (by rw [htd]; simp)]
      have HTD := Lib.hid htd
      clear htd
      go_enter Tryz.func129, Tryz.ntmps129
      go_wp2_with fail
      refine (specHasNum _ _).mono ?_
      rintro e w0 ⟨rfl, rfl⟩
      go_wp2_with fail
      refine (specValidInto _ _ _ sc 8 num into _ _ _ _ _ _ _ _ (hv.k K0).toInts (by omega)).mono ?_
      rw [HI.out]
      rintro e w1 ⟨rfl, p1⟩
      have K1 := Lib.hid (K0.trans p1)
      have R0' := Lib.hid (row_ext R0 p1 (fun h => h))
      have R1' := Lib.hid (row_ext R1 p1 (fun h => h))
      have x0 := R0'.out.cell (i := 0) (by simp)
      have x1 := R0'.out.cell (i := 1) (by simp)
      have y0 := R1'.out.cell (i := 0) (by simp)
      have y1 := R1'.out.cell (i := 1) (by simp)
      have y2 := R1'.out.cell (i := 2) (by simp)
      have y3 := R1'.out.cell (i := 3) (by simp)
      have y4 := R1'.out.cell (i := 4) (by simp)
      simp at x0 x1 y0 y1 y2 y3 y4
      clear R0 R1 K0 p1
      go_wp2_with fail
      refine (specTyped _ _ _ sc _ _ _ args _ _ _ [num] _ _ _ _ ((hv.k K1.out).k (Keep.al _ _)).toInts ((ha.k K1.out).k (Keep.al _ _)).toInts (lit_intsD w1 (fun _ => True) _ [num] _ 1 trivial rfl rfl (by omega)).toInts (by omega) hna).mono ?_
      rw [HTD.out]
      rintro e w2 ⟨rfl, p2⟩
      have pk := Ext.trans (Keep.al w1 _) p2
      have KE := Lib.hid (K1.out.trans pk)
      have x0 := (pk.cell (World.block_lt_of_cell? _ _ x0) (fun h => h)).trans x0
      have x1 := (pk.cell (World.block_lt_of_cell? _ _ x1) (fun h => h)).trans x1
      have y0 := (pk.cell (World.block_lt_of_cell? _ _ y0) (fun h => h)).trans y0
      have y1 := (pk.cell (World.block_lt_of_cell? _ _ y1) (fun h => h)).trans y1
      have y2 := (pk.cell (World.block_lt_of_cell? _ _ y2) (fun h => h)).trans y2
      have y3 := (pk.cell (World.block_lt_of_cell? _ _ y3) (fun h => h)).trans y3
      have y4 := (pk.cell (World.block_lt_of_cell? _ _ y4) (fun h => h)).trans y4
      clear pk p2
      go_wp2_with fail
      exact fin_ hQ ⟨ret_i V.out.symm, KE.out⟩
    have HTD := Lib.hid htd
    clear htd
    have V : Hid (stpT ds (rs.map sigR) sc (.mk 8 num into args ks) = kids8 ds (rs.map sigR) sc num ks) := by show _ = _; rw [stp_8 _ _ _ _ _ _ _ HI.out]; rw [if_pos HTD.out]
    go_enter Tryz.func129, Tryz.ntmps129
    go_wp2_with fail
    refine (specHasNum _ _).mono ?_
    rintro e w0 ⟨rfl, rfl⟩
    go_wp2_with fail
    refine (specValidInto _ _ _ sc 8 num into _ _ _ _ _ _ _ _ (hv.k K0).toInts (by omega)).mono ?_
    rw [HI.out]
    rintro e w1 ⟨rfl, p1⟩
    have K1 := Lib.hid (K0.trans p1)
    have R0' := Lib.hid (row_ext R0 p1 (fun h => h))
    have R1' := Lib.hid (row_ext R1 p1 (fun h => h))
    have x0 := R0'.out.cell (i := 0) (by simp)
    have x1 := R0'.out.cell (i := 1) (by simp)
    have y0 := R1'.out.cell (i := 0) (by simp)
    have y1 := R1'.out.cell (i := 1) (by simp)
    have y2 := R1'.out.cell (i := 2) (by simp)
    have y3 := R1'.out.cell (i := 3) (by simp)
    have y4 := R1'.out.cell (i := 4) (by simp)
    simp at x0 x1 y0 y1 y2 y3 y4
    clear R0 R1 K0 p1
    go_wp2_with fail
    refine (specTyped _ _ _ sc _ _ _ args _ _ _ [num] _ _ _ _ ((hv.k K1.out).k (Keep.al _ _)).toInts ((ha.k K1.out).k (Keep.al _ _)).toInts (lit_intsD w1 (fun _ => True) _ [num] _ 1 trivial rfl rfl (by omega)).toInts (by omega) hna).mono ?_
    rw [HTD.out]
    rintro e w2 ⟨rfl, p2⟩
    have pk := Ext.trans (Keep.al w1 _) p2
    have KE := Lib.hid (K1.out.trans pk)
    have x0 := (pk.cell (World.block_lt_of_cell? _ _ x0) (fun h => h)).trans x0
    have x1 := (pk.cell (World.block_lt_of_cell? _ _ x1) (fun h => h)).trans x1
    have y0 := (pk.cell (World.block_lt_of_cell? _ _ y0) (fun h => h)).trans y0
    have y1 := (pk.cell (World.block_lt_of_cell? _ _ y1) (fun h => h)).trans y1
    have y2 := (pk.cell (World.block_lt_of_cell? _ _ y2) (fun h => h)).trans y2
    have y3 := (pk.cell (World.block_lt_of_cell? _ _ y3) (fun h => h)).trans y3
    have y4 := (pk.cell (World.block_lt_of_cell? _ _ y4) (fun h => h)).trans y4
    clear pk p2
    go_wp2_with fail
    refine (specKids_8 ds rs num into ks IH.out _ _ _ _ _ _ _ _ _ sc _ _ _ _ _ _ _ (hp.k KE.out) (hv.k KE.out) (hk.k KE.out) (by have := HLen.out; omega) HAll.out HOK.out).mono ?_
    rintro e w3 ⟨rfl, p3⟩
    go_wp2_with fail
    exact fin_ hQ ⟨ret_i V.out.symm, KE.out.trans p3⟩
  · cases htd : typedL sc args [num]
    · have V : Hid (stpT ds (rs.map sigR) sc (.mk 8 num into args ks) = -1) := by show _ = _; rw [stp_8 _ _ _ _ _ _ _ HI.out]; rw [if_neg (by rw [htd]; simp)]
      have HTD := Lib.hid htd
      clear htd
      go_enter Tryz.func129, Tryz.ntmps129
      go_wp2_with fail
      refine (specHasNum _ _).mono ?_
      rintro e w0 ⟨rfl, rfl⟩
      go_wp2_with fail
      refine (specValidInto _ _ _ sc 8 num into _ _ _ _ _ _ _ _ (hv.k K0).toInts (by omega)).mono ?_
      rw [HI.out]
      rintro e w1 ⟨rfl, p1⟩
      have K1 := Lib.hid (K0.trans p1)
      have R0' := Lib.hid (row_ext R0 p1 (fun h => h))
      have R1' := Lib.hid (row_ext R1 p1 (fun h => h))
      have x0 := R0'.out.cell (i := 0) (by simp)
      have x1 := R0'.out.cell (i := 1) (by simp)
      have y0 := R1'.out.cell (i := 0) (by simp)
      have y1 := R1'.out.cell (i := 1) (by simp)
      have y2 := R1'.out.cell (i := 2) (by simp)
      have y3 := R1'.out.cell (i := 3) (by simp)
      have y4 := R1'.out.cell (i := 4) (by simp)
      simp at x0 x1 y0 y1 y2 y3 y4
      clear R0 R1 K0 p1
      go_wp2_with fail
      refine (specTyped _ _ _ sc _ _ _ args _ _ _ [num] _ _ _ _ ((hv.k K1.out).k (Keep.al _ _)).toInts ((ha.k K1.out).k (Keep.al _ _)).toInts (lit_intsD w1 (fun _ => True) _ [num] _ 1 trivial rfl rfl (by omega)).toInts (by omega) hna).mono ?_
      rw [HTD.out]
      rintro e w2 ⟨rfl, p2⟩
      have pk := Ext.trans (Keep.al w1 _) p2
      have KE := Lib.hid (K1.out.trans pk)
      have x0 := (pk.cell (World.block_lt_of_cell? _ _ x0) (fun h => h)).trans x0
      have x1 := (pk.cell (World.block_lt_of_cell? _ _ x1) (fun h => h)).trans x1
      have y0 := (pk.cell (World.block_lt_of_cell? _ _ y0) (fun h => h)).trans y0
      have y1 := (pk.cell (World.block_lt_of_cell? _ _ y1) (fun h => h)).trans y1
      have y2 := (pk.cell (World.block_lt_of_cell? _ _ y2) (fun h => h)).trans y2
      have y3 := (pk.cell (World.block_lt_of_cell? _ _ y3) (fun h => h)).trans y3
      have y4 := (pk.cell (World.block_lt_of_cell? _ _ y4) (fun h => h)).trans y4
      clear pk p2
      go_wp2_with fail
      exact fin_ hQ ⟨ret_i V.out.symm, KE.out⟩
    have HTD := Lib.hid htd
    clear htd
    have V : Hid (stpT ds (rs.map sigR) sc (.mk 8 num into args ks) = kids8 ds (rs.map sigR) sc num ks) := by show _ = _; rw [stp_8 _ _ _ _ _ _ _ HI.out]; rw [if_pos HTD.out]
    go_enter Tryz.func129, Tryz.ntmps129
    go_wp2_with fail
    refine (specHasNum _ _).mono ?_
    rintro e w0 ⟨rfl, rfl⟩
    go_wp2_with fail
    refine (specValidInto _ _ _ sc 8 num into _ _ _ _ _ _ _ _ (hv.k K0).toInts (by omega)).mono ?_
    rw [HI.out]
    rintro e w1 ⟨rfl, p1⟩
    have K1 := Lib.hid (K0.trans p1)
    have R0' := Lib.hid (row_ext R0 p1 (fun h => h))
    have R1' := Lib.hid (row_ext R1 p1 (fun h => h))
    have x0 := R0'.out.cell (i := 0) (by simp)
    have x1 := R0'.out.cell (i := 1) (by simp)
    have y0 := R1'.out.cell (i := 0) (by simp)
    have y1 := R1'.out.cell (i := 1) (by simp)
    have y2 := R1'.out.cell (i := 2) (by simp)
    have y3 := R1'.out.cell (i := 3) (by simp)
    have y4 := R1'.out.cell (i := 4) (by simp)
    simp at x0 x1 y0 y1 y2 y3 y4
    clear R0 R1 K0 p1
    go_wp2_with fail
    refine (specTyped _ _ _ sc _ _ _ args _ _ _ [num] _ _ _ _ ((hv.k K1.out).k (Keep.al _ _)).toInts ((ha.k K1.out).k (Keep.al _ _)).toInts (lit_intsD w1 (fun _ => True) _ [num] _ 1 trivial rfl rfl (by omega)).toInts (by omega) hna).mono ?_
    rw [HTD.out]
    rintro e w2 ⟨rfl, p2⟩
    have pk := Ext.trans (Keep.al w1 _) p2
    have KE := Lib.hid (K1.out.trans pk)
    have x0 := (pk.cell (World.block_lt_of_cell? _ _ x0) (fun h => h)).trans x0
    have x1 := (pk.cell (World.block_lt_of_cell? _ _ x1) (fun h => h)).trans x1
    have y0 := (pk.cell (World.block_lt_of_cell? _ _ y0) (fun h => h)).trans y0
    have y1 := (pk.cell (World.block_lt_of_cell? _ _ y1) (fun h => h)).trans y1
    have y2 := (pk.cell (World.block_lt_of_cell? _ _ y2) (fun h => h)).trans y2
    have y3 := (pk.cell (World.block_lt_of_cell? _ _ y3) (fun h => h)).trans y3
    have y4 := (pk.cell (World.block_lt_of_cell? _ _ y4) (fun h => h)).trans y4
    clear pk p2
    go_wp2_with fail
    refine (specKids_8 ds rs num into ks IH.out _ _ _ _ _ _ _ _ _ sc _ _ _ _ _ _ _ (hp.k KE.out) (hv.k KE.out) (hk.k KE.out) (by have := HLen.out; omega) HAll.out HOK.out).mono ?_
    rintro e w3 ⟨rfl, p3⟩
    go_wp2_with fail
    exact fin_ hQ ⟨ret_i V.out.symm, KE.out.trans p3⟩
end
end Go.Proofs.YtkapldpmjkdmcaaGreat
