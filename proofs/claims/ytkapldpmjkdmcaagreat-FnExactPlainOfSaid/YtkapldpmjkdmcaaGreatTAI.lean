/- The reference's types of steps. -/
import Derived.Test.YtkapldpmjkdmcaaGreatTAG
import Derived.Test.YtkapldpmjkdmcaaGreatTAA
namespace Go.Proofs.YtkapldpmjkdmcaaGreat
open Go.RowKit

section
variable (ds : List DeclL) (rs : List RoutL) (hok : sigsOk ds (rs.map sigR) = true)
include hok

set_option maxRecDepth 100000 in
set_option maxHeartbeats 4000000 in
theorem specSt_9_z (into : Int) (args : List Int) (ks : List BlockL) (IH0 : ∀ j, j < ks.length → BlS ds rs (bAt ks j).result (bAt ks j).steps) : StS ds rs (.mk 9 0 into args ks) := by
  intro a0 n0 c0 a1 n1 c1 av nv cv sc aa na ca ak nk ck w hp hv ha hk hlen hall
  refine calls_k fun Q hQ => ?_
  change Rd w (fun _ => True) (encInts args) _ at ha
  change Rd w (fun _ => True) (encBlocks ks) _ at hk
  rw [nS] at hlen
  simp only [StepL.op, StepL.num, StepL.into]
  have ht := (sigsOk_parts hok).1
  have hf := Few.of_ok ht
  have hd4 := typesOk_len ht
  have hr4 : rs.length ≤ 4 := by have := (sigsOk_parts hok).2.2.1; simpa using this
  have hn0 : n0 ≤ 4 := by have := (decls_at hp.1).1; omega
  have hnv : nv ≤ 1052000 := by have := (ints_at hv).1; omega
  have hna : na ≤ 9223372036854775807 := (ints_at ha).2.2.1
  have hnk : ks.length = nk := (blocks_at hk).1
  have hnl : args.length = na := (ints_at ha).1
  have K0 := (Keep.al w (.cells #[.slice a0 n0 c0, .slice a1 n1 c1] 30)).trans (Keep.al _ (.cells #[.int .i64 9, .int .i64 0, .int .i64 into, .slice aa na ca, .slice ak nk ck] 136))
  have R0 := (rowOf w #[.slice a0 n0 c0, .slice a1 n1 c1] 30).alloc (.cells #[.int .i64 9, .int .i64 0, .int .i64 into, .slice aa na ca, .slice ak nk ck] 136)
  have R1 := rowOf (w.alloc (.cells #[.slice a0 n0 c0, .slice a1 n1 c1] 30)) #[.int .i64 9, .int .i64 0, .int .i64 into, .slice aa na ca, .slice ak nk ck] 136
  simp only [World.size_alloc] at R1
  have HNK := Lib.hid hnk
  have HNL := Lib.hid hnl
  have HOK := Lib.hid hok
  have HAll := Lib.hid hall
  have HLen := Lib.hid hlen
  have HT := Lib.hid ht
  have HF := Lib.hid hf
  have IH := Lib.hid IH0
  clear hok hall ht IH0 hnk hnl hf
  cases hi : intoOk sc 9 into
  · have V : Hid (stpT ds (rs.map sigR) sc (.mk 9 0 into args ks) = -1) := stp_into _ _ _ _ _ _ _ _ hi
    have HI := Lib.hid hi
    clear hi
    go_enter Tryz.func129, Tryz.ntmps129
    go_wp2_with fail
    refine (specValidInto _ _ _ sc 9 0 into _ _ _ _ _ _ _ _ (hv.k K0).toInts (by omega)).mono ?_
    rw [HI.out]
    rintro e w1 ⟨rfl, p1⟩
    have K1 := Lib.hid (K0.trans p1)
    have R0' := Lib.hid (row_ext R0 p1 (fun h => h))
    have R1' := Lib.hid (row_ext R1 p1 (fun h => h))
    have x0 := R0'.out.cell (i := 0) (by simp)
    have x1 := R0'.out.cell (i := 1) (by simp)
    have y0 := R1'.out.cell (i := 0) (by simp)
    have y1 := R1'.out.cell (i := 1) (by simp)
    have y2 := R1'.out.cell (i := 2) (by simp)
    have y3 := R1'.out.cell (i := 3) (by simp)
    have y4 := R1'.out.cell (i := 4) (by simp)
    simp at x0 x1 y0 y1 y2 y3 y4
    clear R0 R1 K0 p1
    go_wp2_with fail
    exact fin_ hQ ⟨ret_i V.out.symm, K1.out⟩
  have HI := Lib.hid hi
  clear hi
  by_cases hk0 : nk = 0
  case neg =>
    have hk1 : 0 < nk := by omega
    have V : Hid (stpT ds (rs.map sigR) sc (.mk 9 0 into args ks) = -1) := stp_kids _ _ _ _ _ _ _ _ (by omega) (by omega) (by have := HNK.out; omega)
    clear hk0
    go_enter Tryz.func129, Tryz.ntmps129
    go_wp2_with fail
    refine (specValidInto _ _ _ sc 9 0 into _ _ _ _ _ _ _ _ (hv.k K0).toInts (by omega)).mono ?_
    rw [HI.out]
    rintro e w1 ⟨rfl, p1⟩
    have K1 := Lib.hid (K0.trans p1)
    have R0' := Lib.hid (row_ext R0 p1 (fun h => h))
    have R1' := Lib.hid (row_ext R1 p1 (fun h => h))
    have x0 := R0'.out.cell (i := 0) (by simp)
    have x1 := R0'.out.cell (i := 1) (by simp)
    have y0 := R1'.out.cell (i := 0) (by simp)
    have y1 := R1'.out.cell (i := 1) (by simp)
    have y2 := R1'.out.cell (i := 2) (by simp)
    have y3 := R1'.out.cell (i := 3) (by simp)
    have y4 := R1'.out.cell (i := 4) (by simp)
    simp at x0 x1 y0 y1 y2 y3 y4
    clear R0 R1 K0 p1
    go_wp2_with fail
    exact fin_ hQ ⟨ret_i V.out.symm, K1.out⟩
  subst hk0
  have V0 : Hid (stpT ds (rs.map sigR) sc (.mk 9 0 into args ks) = routS ds (rs.map sigR) sc 9 0 args) := stp_rout _ _ _ _ _ _ _ _ HI.out (by omega) (by omega) HNK.out
  go_enter Tryz.func129, Tryz.ntmps129
  go_wp2_with fail
  refine (specValidInto _ _ _ sc 9 0 into _ _ _ _ _ _ _ _ (hv.k K0).toInts (by omega)).mono ?_
  rw [HI.out]
  rintro e w1 ⟨rfl, p1⟩
  have K1 := Lib.hid (K0.trans p1)
  have R0' := Lib.hid (row_ext R0 p1 (fun h => h))
  have R1' := Lib.hid (row_ext R1 p1 (fun h => h))
  have x0 := R0'.out.cell (i := 0) (by simp)
  have x1 := R0'.out.cell (i := 1) (by simp)
  have y0 := R1'.out.cell (i := 0) (by simp)
  have y1 := R1'.out.cell (i := 1) (by simp)
  have y2 := R1'.out.cell (i := 2) (by simp)
  have y3 := R1'.out.cell (i := 3) (by simp)
  have y4 := R1'.out.cell (i := 4) (by simp)
  simp at x0 x1 y0 y1 y2 y3 y4
  clear R0 R1 K0 p1
  go_wp2_with fail
  refine (specRoutineType ds rs 9 0 into (by omega) _ _ _ _ _ _ _ _ _ sc _ _ _ args _ _ _ _ _ (hp.k K1.out) (hv.k K1.out) (ha.k K1.out) (by omega) hd4 hr4).mono ?_
  rintro e w2 ⟨rfl, p2⟩
  go_wp2_with fail
  exact fin_ hQ ⟨ret_i V0.out.symm, K1.out.trans p2⟩

set_option maxRecDepth 100000 in
set_option maxHeartbeats 4000000 in
theorem specSt_9_n (num : Int) (hn : num ≠ 0) (into : Int) (args : List Int) (ks : List BlockL) (IH0 : ∀ j, j < ks.length → BlS ds rs (bAt ks j).result (bAt ks j).steps) : StS ds rs (.mk 9 num into args ks) := by
  intro a0 n0 c0 a1 n1 c1 av nv cv sc aa na ca ak nk ck w hp hv ha hk hlen hall
  refine calls_k fun Q hQ => ?_
  change Rd w (fun _ => True) (encInts args) _ at ha
  change Rd w (fun _ => True) (encBlocks ks) _ at hk
  rw [nS] at hlen
  simp only [StepL.op, StepL.num, StepL.into]
  have ht := (sigsOk_parts hok).1
  have hf := Few.of_ok ht
  have hd4 := typesOk_len ht
  have hr4 : rs.length ≤ 4 := by have := (sigsOk_parts hok).2.2.1; simpa using this
  have hn0 : n0 ≤ 4 := by have := (decls_at hp.1).1; omega
  have hnv : nv ≤ 1052000 := by have := (ints_at hv).1; omega
  have hna : na ≤ 9223372036854775807 := (ints_at ha).2.2.1
  have hnk : ks.length = nk := (blocks_at hk).1
  have hnl : args.length = na := (ints_at ha).1
  have K0 := (Keep.al w (.cells #[.slice a0 n0 c0, .slice a1 n1 c1] 30)).trans (Keep.al _ (.cells #[.int .i64 9, .int .i64 num, .int .i64 into, .slice aa na ca, .slice ak nk ck] 136))
  have R0 := (rowOf w #[.slice a0 n0 c0, .slice a1 n1 c1] 30).alloc (.cells #[.int .i64 9, .int .i64 num, .int .i64 into, .slice aa na ca, .slice ak nk ck] 136)
  have R1 := rowOf (w.alloc (.cells #[.slice a0 n0 c0, .slice a1 n1 c1] 30)) #[.int .i64 9, .int .i64 num, .int .i64 into, .slice aa na ca, .slice ak nk ck] 136
  simp only [World.size_alloc] at R1
  have HNK := Lib.hid hnk
  have HNL := Lib.hid hnl
  have HOK := Lib.hid hok
  have HAll := Lib.hid hall
  have HLen := Lib.hid hlen
  have HT := Lib.hid ht
  have HF := Lib.hid hf
  have IH := Lib.hid IH0
  clear hok hall ht IH0 hnk hnl hf
  have hn' : (num != 0) = true := by simpa using hn
  clear hn
  cases hi : intoOk sc 9 into
  · have V : Hid (stpT ds (rs.map sigR) sc (.mk 9 num into args ks) = -1) := stp_into _ _ _ _ _ _ _ _ hi
    have HI := Lib.hid hi
    clear hi
    go_enter Tryz.func129, Tryz.ntmps129
    go_wp2_with fail
    refine (specHasNum _ _).mono ?_
    rintro e w0 ⟨rfl, rfl⟩
    go_wp2_with fail
    refine (specValidInto _ _ _ sc 9 num into _ _ _ _ _ _ _ _ (hv.k K0).toInts (by omega)).mono ?_
    rw [HI.out]
    rintro e w1 ⟨rfl, p1⟩
    have K1 := Lib.hid (K0.trans p1)
    have R0' := Lib.hid (row_ext R0 p1 (fun h => h))
    have R1' := Lib.hid (row_ext R1 p1 (fun h => h))
    have x0 := R0'.out.cell (i := 0) (by simp)
    have x1 := R0'.out.cell (i := 1) (by simp)
    have y0 := R1'.out.cell (i := 0) (by simp)
    have y1 := R1'.out.cell (i := 1) (by simp)
    have y2 := R1'.out.cell (i := 2) (by simp)
    have y3 := R1'.out.cell (i := 3) (by simp)
    have y4 := R1'.out.cell (i := 4) (by simp)
    simp at x0 x1 y0 y1 y2 y3 y4
    clear R0 R1 K0 p1
    go_wp2_with fail
    exact fin_ hQ ⟨ret_i V.out.symm, K1.out⟩
  have HI := Lib.hid hi
  clear hi
  by_cases hk0 : nk = 0
  case neg =>
    have hk1 : 0 < nk := by omega
    have V : Hid (stpT ds (rs.map sigR) sc (.mk 9 num into args ks) = -1) := stp_kids _ _ _ _ _ _ _ _ (by omega) (by omega) (by have := HNK.out; omega)
    clear hk0
    go_enter Tryz.func129, Tryz.ntmps129
    go_wp2_with fail
    refine (specHasNum _ _).mono ?_
    rintro e w0 ⟨rfl, rfl⟩
    go_wp2_with fail
    refine (specValidInto _ _ _ sc 9 num into _ _ _ _ _ _ _ _ (hv.k K0).toInts (by omega)).mono ?_
    rw [HI.out]
    rintro e w1 ⟨rfl, p1⟩
    have K1 := Lib.hid (K0.trans p1)
    have R0' := Lib.hid (row_ext R0 p1 (fun h => h))
    have R1' := Lib.hid (row_ext R1 p1 (fun h => h))
    have x0 := R0'.out.cell (i := 0) (by simp)
    have x1 := R0'.out.cell (i := 1) (by simp)
    have y0 := R1'.out.cell (i := 0) (by simp)
    have y1 := R1'.out.cell (i := 1) (by simp)
    have y2 := R1'.out.cell (i := 2) (by simp)
    have y3 := R1'.out.cell (i := 3) (by simp)
    have y4 := R1'.out.cell (i := 4) (by simp)
    simp at x0 x1 y0 y1 y2 y3 y4
    clear R0 R1 K0 p1
    go_wp2_with fail
    exact fin_ hQ ⟨ret_i V.out.symm, K1.out⟩
  subst hk0
  have V0 : Hid (stpT ds (rs.map sigR) sc (.mk 9 num into args ks) = routS ds (rs.map sigR) sc 9 num args) := stp_rout _ _ _ _ _ _ _ _ HI.out (by omega) (by omega) HNK.out
  go_enter Tryz.func129, Tryz.ntmps129
  go_wp2_with fail
  refine (specHasNum _ _).mono ?_
  rintro e w0 ⟨rfl, rfl⟩
  go_wp2_with fail
  refine (specValidInto _ _ _ sc 9 num into _ _ _ _ _ _ _ _ (hv.k K0).toInts (by omega)).mono ?_
  rw [HI.out]
  rintro e w1 ⟨rfl, p1⟩
  have K1 := Lib.hid (K0.trans p1)
  have R0' := Lib.hid (row_ext R0 p1 (fun h => h))
  have R1' := Lib.hid (row_ext R1 p1 (fun h => h))
  have x0 := R0'.out.cell (i := 0) (by simp)
  have x1 := R0'.out.cell (i := 1) (by simp)
  have y0 := R1'.out.cell (i := 0) (by simp)
  have y1 := R1'.out.cell (i := 1) (by simp)
  have y2 := R1'.out.cell (i := 2) (by simp)
  have y3 := R1'.out.cell (i := 3) (by simp)
  have y4 := R1'.out.cell (i := 4) (by simp)
  simp at x0 x1 y0 y1 y2 y3 y4
  clear R0 R1 K0 p1
  go_wp2_with fail
  refine (specRoutineType ds rs 9 num into (by omega) _ _ _ _ _ _ _ _ _ sc _ _ _ args _ _ _ _ _ (hp.k K1.out) (hv.k K1.out) (ha.k K1.out) (by omega) hd4 hr4).mono ?_
  rintro e w2 ⟨rfl, p2⟩
  go_wp2_with fail
  exact fin_ hQ ⟨ret_i V0.out.symm, K1.out.trans p2⟩

set_option maxRecDepth 100000 in
set_option maxHeartbeats 4000000 in
theorem specSt_10_z (into : Int) (args : List Int) (ks : List BlockL) (IH0 : ∀ j, j < ks.length → BlS ds rs (bAt ks j).result (bAt ks j).steps) : StS ds rs (.mk 10 0 into args ks) := by
  intro a0 n0 c0 a1 n1 c1 av nv cv sc aa na ca ak nk ck w hp hv ha hk hlen hall
  refine calls_k fun Q hQ => ?_
  change Rd w (fun _ => True) (encInts args) _ at ha
  change Rd w (fun _ => True) (encBlocks ks) _ at hk
  rw [nS] at hlen
  simp only [StepL.op, StepL.num, StepL.into]
  have ht := (sigsOk_parts hok).1
  have hf := Few.of_ok ht
  have hd4 := typesOk_len ht
  have hr4 : rs.length ≤ 4 := by have := (sigsOk_parts hok).2.2.1; simpa using this
  have hn0 : n0 ≤ 4 := by have := (decls_at hp.1).1; omega
  have hnv : nv ≤ 1052000 := by have := (ints_at hv).1; omega
  have hna : na ≤ 9223372036854775807 := (ints_at ha).2.2.1
  have hnk : ks.length = nk := (blocks_at hk).1
  have hnl : args.length = na := (ints_at ha).1
  have K0 := (Keep.al w (.cells #[.slice a0 n0 c0, .slice a1 n1 c1] 30)).trans (Keep.al _ (.cells #[.int .i64 10, .int .i64 0, .int .i64 into, .slice aa na ca, .slice ak nk ck] 136))
  have R0 := (rowOf w #[.slice a0 n0 c0, .slice a1 n1 c1] 30).alloc (.cells #[.int .i64 10, .int .i64 0, .int .i64 into, .slice aa na ca, .slice ak nk ck] 136)
  have R1 := rowOf (w.alloc (.cells #[.slice a0 n0 c0, .slice a1 n1 c1] 30)) #[.int .i64 10, .int .i64 0, .int .i64 into, .slice aa na ca, .slice ak nk ck] 136
  simp only [World.size_alloc] at R1
  have HNK := Lib.hid hnk
  have HNL := Lib.hid hnl
  have HOK := Lib.hid hok
  have HAll := Lib.hid hall
  have HLen := Lib.hid hlen
  have HT := Lib.hid ht
  have HF := Lib.hid hf
  have IH := Lib.hid IH0
  clear hok hall ht IH0 hnk hnl hf
  cases hi : intoOk sc 10 into
  · have V : Hid (stpT ds (rs.map sigR) sc (.mk 10 0 into args ks) = -1) := stp_into _ _ _ _ _ _ _ _ hi
    have HI := Lib.hid hi
    clear hi
    go_enter Tryz.func129, Tryz.ntmps129
    go_wp2_with fail
    refine (specValidInto _ _ _ sc 10 0 into _ _ _ _ _ _ _ _ (hv.k K0).toInts (by omega)).mono ?_
    rw [HI.out]
    rintro e w1 ⟨rfl, p1⟩
    have K1 := Lib.hid (K0.trans p1)
    have R0' := Lib.hid (row_ext R0 p1 (fun h => h))
    have R1' := Lib.hid (row_ext R1 p1 (fun h => h))
    have x0 := R0'.out.cell (i := 0) (by simp)
    have x1 := R0'.out.cell (i := 1) (by simp)
    have y0 := R1'.out.cell (i := 0) (by simp)
    have y1 := R1'.out.cell (i := 1) (by simp)
    have y2 := R1'.out.cell (i := 2) (by simp)
    have y3 := R1'.out.cell (i := 3) (by simp)
    have y4 := R1'.out.cell (i := 4) (by simp)
    simp at x0 x1 y0 y1 y2 y3 y4
    clear R0 R1 K0 p1
    go_wp2_with fail
    exact fin_ hQ ⟨ret_i V.out.symm, K1.out⟩
  have HI := Lib.hid hi
  clear hi
  by_cases hk0 : nk = 0
  case neg =>
    have hk1 : 0 < nk := by omega
    have V : Hid (stpT ds (rs.map sigR) sc (.mk 10 0 into args ks) = -1) := stp_kids _ _ _ _ _ _ _ _ (by omega) (by omega) (by have := HNK.out; omega)
    clear hk0
    go_enter Tryz.func129, Tryz.ntmps129
    go_wp2_with fail
    refine (specValidInto _ _ _ sc 10 0 into _ _ _ _ _ _ _ _ (hv.k K0).toInts (by omega)).mono ?_
    rw [HI.out]
    rintro e w1 ⟨rfl, p1⟩
    have K1 := Lib.hid (K0.trans p1)
    have R0' := Lib.hid (row_ext R0 p1 (fun h => h))
    have R1' := Lib.hid (row_ext R1 p1 (fun h => h))
    have x0 := R0'.out.cell (i := 0) (by simp)
    have x1 := R0'.out.cell (i := 1) (by simp)
    have y0 := R1'.out.cell (i := 0) (by simp)
    have y1 := R1'.out.cell (i := 1) (by simp)
    have y2 := R1'.out.cell (i := 2) (by simp)
    have y3 := R1'.out.cell (i := 3) (by simp)
    have y4 := R1'.out.cell (i := 4) (by simp)
    simp at x0 x1 y0 y1 y2 y3 y4
    clear R0 R1 K0 p1
    go_wp2_with fail
    exact fin_ hQ ⟨ret_i V.out.symm, K1.out⟩
  subst hk0
  have V0 : Hid (stpT ds (rs.map sigR) sc (.mk 10 0 into args ks) = routS ds (rs.map sigR) sc 10 0 args) := stp_rout _ _ _ _ _ _ _ _ HI.out (by omega) (by omega) HNK.out
  go_enter Tryz.func129, Tryz.ntmps129
  go_wp2_with fail
  refine (specValidInto _ _ _ sc 10 0 into _ _ _ _ _ _ _ _ (hv.k K0).toInts (by omega)).mono ?_
  rw [HI.out]
  rintro e w1 ⟨rfl, p1⟩
  have K1 := Lib.hid (K0.trans p1)
  have R0' := Lib.hid (row_ext R0 p1 (fun h => h))
  have R1' := Lib.hid (row_ext R1 p1 (fun h => h))
  have x0 := R0'.out.cell (i := 0) (by simp)
  have x1 := R0'.out.cell (i := 1) (by simp)
  have y0 := R1'.out.cell (i := 0) (by simp)
  have y1 := R1'.out.cell (i := 1) (by simp)
  have y2 := R1'.out.cell (i := 2) (by simp)
  have y3 := R1'.out.cell (i := 3) (by simp)
  have y4 := R1'.out.cell (i := 4) (by simp)
  simp at x0 x1 y0 y1 y2 y3 y4
  clear R0 R1 K0 p1
  go_wp2_with fail
  refine (specRoutineType ds rs 10 0 into (by omega) _ _ _ _ _ _ _ _ _ sc _ _ _ args _ _ _ _ _ (hp.k K1.out) (hv.k K1.out) (ha.k K1.out) (by omega) hd4 hr4).mono ?_
  rintro e w2 ⟨rfl, p2⟩
  go_wp2_with fail
  exact fin_ hQ ⟨ret_i V0.out.symm, K1.out.trans p2⟩

set_option maxRecDepth 100000 in
set_option maxHeartbeats 4000000 in
theorem specSt_10_n (num : Int) (hn : num ≠ 0) (into : Int) (args : List Int) (ks : List BlockL) (IH0 : ∀ j, j < ks.length → BlS ds rs (bAt ks j).result (bAt ks j).steps) : StS ds rs (.mk 10 num into args ks) := by
  intro a0 n0 c0 a1 n1 c1 av nv cv sc aa na ca ak nk ck w hp hv ha hk hlen hall
  refine calls_k fun Q hQ => ?_
  change Rd w (fun _ => True) (encInts args) _ at ha
  change Rd w (fun _ => True) (encBlocks ks) _ at hk
  rw [nS] at hlen
  simp only [StepL.op, StepL.num, StepL.into]
  have ht := (sigsOk_parts hok).1
  have hf := Few.of_ok ht
  have hd4 := typesOk_len ht
  have hr4 : rs.length ≤ 4 := by have := (sigsOk_parts hok).2.2.1; simpa using this
  have hn0 : n0 ≤ 4 := by have := (decls_at hp.1).1; omega
  have hnv : nv ≤ 1052000 := by have := (ints_at hv).1; omega
  have hna : na ≤ 9223372036854775807 := (ints_at ha).2.2.1
  have hnk : ks.length = nk := (blocks_at hk).1
  have hnl : args.length = na := (ints_at ha).1
  have K0 := (Keep.al w (.cells #[.slice a0 n0 c0, .slice a1 n1 c1] 30)).trans (Keep.al _ (.cells #[.int .i64 10, .int .i64 num, .int .i64 into, .slice aa na ca, .slice ak nk ck] 136))
  have R0 := (rowOf w #[.slice a0 n0 c0, .slice a1 n1 c1] 30).alloc (.cells #[.int .i64 10, .int .i64 num, .int .i64 into, .slice aa na ca, .slice ak nk ck] 136)
  have R1 := rowOf (w.alloc (.cells #[.slice a0 n0 c0, .slice a1 n1 c1] 30)) #[.int .i64 10, .int .i64 num, .int .i64 into, .slice aa na ca, .slice ak nk ck] 136
  simp only [World.size_alloc] at R1
  have HNK := Lib.hid hnk
  have HNL := Lib.hid hnl
  have HOK := Lib.hid hok
  have HAll := Lib.hid hall
  have HLen := Lib.hid hlen
  have HT := Lib.hid ht
  have HF := Lib.hid hf
  have IH := Lib.hid IH0
  clear hok hall ht IH0 hnk hnl hf
  have hn' : (num != 0) = true := by simpa using hn
  clear hn
  cases hi : intoOk sc 10 into
  · have V : Hid (stpT ds (rs.map sigR) sc (.mk 10 num into args ks) = -1) := stp_into _ _ _ _ _ _ _ _ hi
    have HI := Lib.hid hi
    clear hi
    go_enter Tryz.func129, Tryz.ntmps129
    go_wp2_with fail
    refine (specHasNum _ _).mono ?_
    rintro e w0 ⟨rfl, rfl⟩
    go_wp2_with fail
    refine (specValidInto _ _ _ sc 10 num into _ _ _ _ _ _ _ _ (hv.k K0).toInts (by omega)).mono ?_
    rw [HI.out]
    rintro e w1 ⟨rfl, p1⟩
    have K1 := Lib.hid (K0.trans p1)
    have R0' := Lib.hid (row_ext R0 p1 (fun h => h))
    have R1' := Lib.hid (row_ext R1 p1 (fun h => h))
    have x0 := R0'.out.cell (i := 0) (by simp)
    have x1 := R0'.out.cell (i := 1) (by simp)
    have y0 := R1'.out.cell (i := 0) (by simp)
    have y1 := R1'.out.cell (i := 1) (by simp)
    have y2 := R1'.out.cell (i := 2) (by simp)
    have y3 := R1'.out.cell (i := 3) (by simp)
    have y4 := R1'.out.cell (i := 4) (by simp)
    simp at x0 x1 y0 y1 y2 y3 y4
    clear R0 R1 K0 p1
    go_wp2_with fail
    exact fin_ hQ ⟨ret_i V.out.symm, K1.out⟩
  have HI := Lib.hid hi
  clear hi
  by_cases hk0 : nk = 0
  case neg =>
    have hk1 : 0 < nk := by omega
    have V : Hid (stpT ds (rs.map sigR) sc (.mk 10 num into args ks) = -1) := stp_kids _ _ _ _ _ _ _ _ (by omega) (by omega) (by have := HNK.out; omega)
    clear hk0
    go_enter Tryz.func129, Tryz.ntmps129
    go_wp2_with fail
    refine (specHasNum _ _).mono ?_
    rintro e w0 ⟨rfl, rfl⟩
    go_wp2_with fail
    refine (specValidInto _ _ _ sc 10 num into _ _ _ _ _ _ _ _ (hv.k K0).toInts (by omega)).mono ?_
    rw [HI.out]
    rintro e w1 ⟨rfl, p1⟩
    have K1 := Lib.hid (K0.trans p1)
    have R0' := Lib.hid (row_ext R0 p1 (fun h => h))
    have R1' := Lib.hid (row_ext R1 p1 (fun h => h))
    have x0 := R0'.out.cell (i := 0) (by simp)
    have x1 := R0'.out.cell (i := 1) (by simp)
    have y0 := R1'.out.cell (i := 0) (by simp)
    have y1 := R1'.out.cell (i := 1) (by simp)
    have y2 := R1'.out.cell (i := 2) (by simp)
    have y3 := R1'.out.cell (i := 3) (by simp)
    have y4 := R1'.out.cell (i := 4) (by simp)
    simp at x0 x1 y0 y1 y2 y3 y4
    clear R0 R1 K0 p1
    go_wp2_with fail
    exact fin_ hQ ⟨ret_i V.out.symm, K1.out⟩
  subst hk0
  have V0 : Hid (stpT ds (rs.map sigR) sc (.mk 10 num into args ks) = routS ds (rs.map sigR) sc 10 num args) := stp_rout _ _ _ _ _ _ _ _ HI.out (by omega) (by omega) HNK.out
  go_enter Tryz.func129, Tryz.ntmps129
  go_wp2_with fail
  refine (specHasNum _ _).mono ?_
  rintro e w0 ⟨rfl, rfl⟩
  go_wp2_with fail
  refine (specValidInto _ _ _ sc 10 num into _ _ _ _ _ _ _ _ (hv.k K0).toInts (by omega)).mono ?_
  rw [HI.out]
  rintro e w1 ⟨rfl, p1⟩
  have K1 := Lib.hid (K0.trans p1)
  have R0' := Lib.hid (row_ext R0 p1 (fun h => h))
  have R1' := Lib.hid (row_ext R1 p1 (fun h => h))
  have x0 := R0'.out.cell (i := 0) (by simp)
  have x1 := R0'.out.cell (i := 1) (by simp)
  have y0 := R1'.out.cell (i := 0) (by simp)
  have y1 := R1'.out.cell (i := 1) (by simp)
  have y2 := R1'.out.cell (i := 2) (by simp)
  have y3 := R1'.out.cell (i := 3) (by simp)
  have y4 := R1'.out.cell (i := 4) (by simp)
  simp at x0 x1 y0 y1 y2 y3 y4
  clear R0 R1 K0 p1
  go_wp2_with fail
  refine (specRoutineType ds rs 10 num into (by omega) _ _ _ _ _ _ _ _ _ sc _ _ _ args _ _ _ _ _ (hp.k K1.out) (hv.k K1.out) (ha.k K1.out) (by omega) hd4 hr4).mono ?_
  rintro e w2 ⟨rfl, p2⟩
  go_wp2_with fail
  exact fin_ hQ ⟨ret_i V0.out.symm, K1.out.trans p2⟩

set_option maxRecDepth 100000 in
set_option maxHeartbeats 4000000 in
theorem specSt_14 (into : Int) (args : List Int) (ks : List BlockL) (IH0 : ∀ j, j < ks.length → BlS ds rs (bAt ks j).result (bAt ks j).steps) : StS ds rs (.mk 14 0 into args ks) := by
  intro a0 n0 c0 a1 n1 c1 av nv cv sc aa na ca ak nk ck w hp hv ha hk hlen hall
  refine calls_k fun Q hQ => ?_
  change Rd w (fun _ => True) (encInts args) _ at ha
  change Rd w (fun _ => True) (encBlocks ks) _ at hk
  rw [nS] at hlen
  simp only [StepL.op, StepL.num, StepL.into]
  have ht := (sigsOk_parts hok).1
  have hf := Few.of_ok ht
  have hd4 := typesOk_len ht
  have hr4 : rs.length ≤ 4 := by have := (sigsOk_parts hok).2.2.1; simpa using this
  have hn0 : n0 ≤ 4 := by have := (decls_at hp.1).1; omega
  have hnv : nv ≤ 1052000 := by have := (ints_at hv).1; omega
  have hna : na ≤ 9223372036854775807 := (ints_at ha).2.2.1
  have hnk : ks.length = nk := (blocks_at hk).1
  have hnl : args.length = na := (ints_at ha).1
  have K0 := (Keep.al w (.cells #[.slice a0 n0 c0, .slice a1 n1 c1] 30)).trans (Keep.al _ (.cells #[.int .i64 14, .int .i64 0, .int .i64 into, .slice aa na ca, .slice ak nk ck] 136))
  have R0 := (rowOf w #[.slice a0 n0 c0, .slice a1 n1 c1] 30).alloc (.cells #[.int .i64 14, .int .i64 0, .int .i64 into, .slice aa na ca, .slice ak nk ck] 136)
  have R1 := rowOf (w.alloc (.cells #[.slice a0 n0 c0, .slice a1 n1 c1] 30)) #[.int .i64 14, .int .i64 0, .int .i64 into, .slice aa na ca, .slice ak nk ck] 136
  simp only [World.size_alloc] at R1
  have HNK := Lib.hid hnk
  have HNL := Lib.hid hnl
  have HOK := Lib.hid hok
  have HAll := Lib.hid hall
  have HLen := Lib.hid hlen
  have HT := Lib.hid ht
  have HF := Lib.hid hf
  have IH := Lib.hid IH0
  clear hok hall ht IH0 hnk hnl hf
  cases hi : intoOk sc 14 into
  · have V : Hid (stpT ds (rs.map sigR) sc (.mk 14 0 into args ks) = -1) := stp_into _ _ _ _ _ _ _ _ hi
    have HI := Lib.hid hi
    clear hi
    go_enter Tryz.func129, Tryz.ntmps129
    go_wp2_with fail
    refine (specValidInto _ _ _ sc 14 0 into _ _ _ _ _ _ _ _ (hv.k K0).toInts (by omega)).mono ?_
    rw [HI.out]
    rintro e w1 ⟨rfl, p1⟩
    have K1 := Lib.hid (K0.trans p1)
    have R0' := Lib.hid (row_ext R0 p1 (fun h => h))
    have R1' := Lib.hid (row_ext R1 p1 (fun h => h))
    have x0 := R0'.out.cell (i := 0) (by simp)
    have x1 := R0'.out.cell (i := 1) (by simp)
    have y0 := R1'.out.cell (i := 0) (by simp)
    have y1 := R1'.out.cell (i := 1) (by simp)
    have y2 := R1'.out.cell (i := 2) (by simp)
    have y3 := R1'.out.cell (i := 3) (by simp)
    have y4 := R1'.out.cell (i := 4) (by simp)
    simp at x0 x1 y0 y1 y2 y3 y4
    clear R0 R1 K0 p1
    go_wp2_with fail
    exact fin_ hQ ⟨ret_i V.out.symm, K1.out⟩
  have HI := Lib.hid hi
  clear hi
  by_cases hk0 : nk = 0
  case neg =>
    have hk1 : 0 < nk := by omega
    have V : Hid (stpT ds (rs.map sigR) sc (.mk 14 0 into args ks) = -1) := stp_kids _ _ _ _ _ _ _ _ (by omega) (by omega) (by have := HNK.out; omega)
    clear hk0
    go_enter Tryz.func129, Tryz.ntmps129
    go_wp2_with fail
    refine (specValidInto _ _ _ sc 14 0 into _ _ _ _ _ _ _ _ (hv.k K0).toInts (by omega)).mono ?_
    rw [HI.out]
    rintro e w1 ⟨rfl, p1⟩
    have K1 := Lib.hid (K0.trans p1)
    have R0' := Lib.hid (row_ext R0 p1 (fun h => h))
    have R1' := Lib.hid (row_ext R1 p1 (fun h => h))
    have x0 := R0'.out.cell (i := 0) (by simp)
    have x1 := R0'.out.cell (i := 1) (by simp)
    have y0 := R1'.out.cell (i := 0) (by simp)
    have y1 := R1'.out.cell (i := 1) (by simp)
    have y2 := R1'.out.cell (i := 2) (by simp)
    have y3 := R1'.out.cell (i := 3) (by simp)
    have y4 := R1'.out.cell (i := 4) (by simp)
    simp at x0 x1 y0 y1 y2 y3 y4
    clear R0 R1 K0 p1
    go_wp2_with fail
    exact fin_ hQ ⟨ret_i V.out.symm, K1.out⟩
  subst hk0
  have V0 : Hid (stpT ds (rs.map sigR) sc (.mk 14 0 into args ks) = routS ds (rs.map sigR) sc 14 0 args) := stp_rout _ _ _ _ _ _ _ _ HI.out (by omega) (by omega) HNK.out
  have V : Hid (stpT ds (rs.map sigR) sc (.mk 14 0 into args ks) = cntS ds sc 14 args) := by show _ = _; rw [V0.out, routS_cnt _ _ _ _ (by omega)]
  go_enter Tryz.func129, Tryz.ntmps129
  go_wp2_with fail
  refine (specValidInto _ _ _ sc 14 0 into _ _ _ _ _ _ _ _ (hv.k K0).toInts (by omega)).mono ?_
  rw [HI.out]
  rintro e w1 ⟨rfl, p1⟩
  have K1 := Lib.hid (K0.trans p1)
  have R0' := Lib.hid (row_ext R0 p1 (fun h => h))
  have R1' := Lib.hid (row_ext R1 p1 (fun h => h))
  have x0 := R0'.out.cell (i := 0) (by simp)
  have x1 := R0'.out.cell (i := 1) (by simp)
  have y0 := R1'.out.cell (i := 0) (by simp)
  have y1 := R1'.out.cell (i := 1) (by simp)
  have y2 := R1'.out.cell (i := 2) (by simp)
  have y3 := R1'.out.cell (i := 3) (by simp)
  have y4 := R1'.out.cell (i := 4) (by simp)
  simp at x0 x1 y0 y1 y2 y3 y4
  clear R0 R1 K0 p1
  go_wp2_with fail
  refine (specCountingType ds _ _ _ _ _ _ _ _ _ sc 14 0 into _ _ _ args _ _ _ _ _ _ _ (hp.k K1.out).1 (by omega) (hv.k K1.out).toInts (by omega) (ha.k K1.out).toInts).mono ?_
  rintro e w2 ⟨rfl, p2⟩
  go_wp2_with fail
  exact fin_ hQ ⟨ret_i V.out.symm, K1.out.trans p2⟩

set_option maxRecDepth 100000 in
set_option maxHeartbeats 4000000 in
theorem specSt_15 (into : Int) (args : List Int) (ks : List BlockL) (IH0 : ∀ j, j < ks.length → BlS ds rs (bAt ks j).result (bAt ks j).steps) : StS ds rs (.mk 15 0 into args ks) := by
  intro a0 n0 c0 a1 n1 c1 av nv cv sc aa na ca ak nk ck w hp hv ha hk hlen hall
  refine calls_k fun Q hQ => ?_
  change Rd w (fun _ => True) (encInts args) _ at ha
  change Rd w (fun _ => True) (encBlocks ks) _ at hk
  rw [nS] at hlen
  simp only [StepL.op, StepL.num, StepL.into]
  have ht := (sigsOk_parts hok).1
  have hf := Few.of_ok ht
  have hd4 := typesOk_len ht
  have hr4 : rs.length ≤ 4 := by have := (sigsOk_parts hok).2.2.1; simpa using this
  have hn0 : n0 ≤ 4 := by have := (decls_at hp.1).1; omega
  have hnv : nv ≤ 1052000 := by have := (ints_at hv).1; omega
  have hna : na ≤ 9223372036854775807 := (ints_at ha).2.2.1
  have hnk : ks.length = nk := (blocks_at hk).1
  have hnl : args.length = na := (ints_at ha).1
  have K0 := (Keep.al w (.cells #[.slice a0 n0 c0, .slice a1 n1 c1] 30)).trans (Keep.al _ (.cells #[.int .i64 15, .int .i64 0, .int .i64 into, .slice aa na ca, .slice ak nk ck] 136))
  have R0 := (rowOf w #[.slice a0 n0 c0, .slice a1 n1 c1] 30).alloc (.cells #[.int .i64 15, .int .i64 0, .int .i64 into, .slice aa na ca, .slice ak nk ck] 136)
  have R1 := rowOf (w.alloc (.cells #[.slice a0 n0 c0, .slice a1 n1 c1] 30)) #[.int .i64 15, .int .i64 0, .int .i64 into, .slice aa na ca, .slice ak nk ck] 136
  simp only [World.size_alloc] at R1
  have HNK := Lib.hid hnk
  have HNL := Lib.hid hnl
  have HOK := Lib.hid hok
  have HAll := Lib.hid hall
  have HLen := Lib.hid hlen
  have HT := Lib.hid ht
  have HF := Lib.hid hf
  have IH := Lib.hid IH0
  clear hok hall ht IH0 hnk hnl hf
  cases hi : intoOk sc 15 into
  · have V : Hid (stpT ds (rs.map sigR) sc (.mk 15 0 into args ks) = -1) := stp_into _ _ _ _ _ _ _ _ hi
    have HI := Lib.hid hi
    clear hi
    go_enter Tryz.func129, Tryz.ntmps129
    go_wp2_with fail
    refine (specValidInto _ _ _ sc 15 0 into _ _ _ _ _ _ _ _ (hv.k K0).toInts (by omega)).mono ?_
    rw [HI.out]
    rintro e w1 ⟨rfl, p1⟩
    have K1 := Lib.hid (K0.trans p1)
    have R0' := Lib.hid (row_ext R0 p1 (fun h => h))
    have R1' := Lib.hid (row_ext R1 p1 (fun h => h))
    have x0 := R0'.out.cell (i := 0) (by simp)
    have x1 := R0'.out.cell (i := 1) (by simp)
    have y0 := R1'.out.cell (i := 0) (by simp)
    have y1 := R1'.out.cell (i := 1) (by simp)
    have y2 := R1'.out.cell (i := 2) (by simp)
    have y3 := R1'.out.cell (i := 3) (by simp)
    have y4 := R1'.out.cell (i := 4) (by simp)
    simp at x0 x1 y0 y1 y2 y3 y4
    clear R0 R1 K0 p1
    go_wp2_with fail
    exact fin_ hQ ⟨ret_i V.out.symm, K1.out⟩
  have HI := Lib.hid hi
  clear hi
  by_cases hk0 : nk = 0
  case neg =>
    have hk1 : 0 < nk := by omega
    have V : Hid (stpT ds (rs.map sigR) sc (.mk 15 0 into args ks) = -1) := stp_kids _ _ _ _ _ _ _ _ (by omega) (by omega) (by have := HNK.out; omega)
    clear hk0
    go_enter Tryz.func129, Tryz.ntmps129
    go_wp2_with fail
    refine (specValidInto _ _ _ sc 15 0 into _ _ _ _ _ _ _ _ (hv.k K0).toInts (by omega)).mono ?_
    rw [HI.out]
    rintro e w1 ⟨rfl, p1⟩
    have K1 := Lib.hid (K0.trans p1)
    have R0' := Lib.hid (row_ext R0 p1 (fun h => h))
    have R1' := Lib.hid (row_ext R1 p1 (fun h => h))
    have x0 := R0'.out.cell (i := 0) (by simp)
    have x1 := R0'.out.cell (i := 1) (by simp)
    have y0 := R1'.out.cell (i := 0) (by simp)
    have y1 := R1'.out.cell (i := 1) (by simp)
    have y2 := R1'.out.cell (i := 2) (by simp)
    have y3 := R1'.out.cell (i := 3) (by simp)
    have y4 := R1'.out.cell (i := 4) (by simp)
    simp at x0 x1 y0 y1 y2 y3 y4
    clear R0 R1 K0 p1
    go_wp2_with fail
    exact fin_ hQ ⟨ret_i V.out.symm, K1.out⟩
  subst hk0
  have V0 : Hid (stpT ds (rs.map sigR) sc (.mk 15 0 into args ks) = routS ds (rs.map sigR) sc 15 0 args) := stp_rout _ _ _ _ _ _ _ _ HI.out (by omega) (by omega) HNK.out
  have V : Hid (stpT ds (rs.map sigR) sc (.mk 15 0 into args ks) = cntS ds sc 15 args) := by show _ = _; rw [V0.out, routS_cnt _ _ _ _ (by omega)]
  go_enter Tryz.func129, Tryz.ntmps129
  go_wp2_with fail
  refine (specValidInto _ _ _ sc 15 0 into _ _ _ _ _ _ _ _ (hv.k K0).toInts (by omega)).mono ?_
  rw [HI.out]
  rintro e w1 ⟨rfl, p1⟩
  have K1 := Lib.hid (K0.trans p1)
  have R0' := Lib.hid (row_ext R0 p1 (fun h => h))
  have R1' := Lib.hid (row_ext R1 p1 (fun h => h))
  have x0 := R0'.out.cell (i := 0) (by simp)
  have x1 := R0'.out.cell (i := 1) (by simp)
  have y0 := R1'.out.cell (i := 0) (by simp)
  have y1 := R1'.out.cell (i := 1) (by simp)
  have y2 := R1'.out.cell (i := 2) (by simp)
  have y3 := R1'.out.cell (i := 3) (by simp)
  have y4 := R1'.out.cell (i := 4) (by simp)
  simp at x0 x1 y0 y1 y2 y3 y4
  clear R0 R1 K0 p1
  go_wp2_with fail
  refine (specCountingType ds _ _ _ _ _ _ _ _ _ sc 15 0 into _ _ _ args _ _ _ _ _ _ _ (hp.k K1.out).1 (by omega) (hv.k K1.out).toInts (by omega) (ha.k K1.out).toInts).mono ?_
  rintro e w2 ⟨rfl, p2⟩
  go_wp2_with fail
  exact fin_ hQ ⟨ret_i V.out.symm, K1.out.trans p2⟩
end
end Go.Proofs.YtkapldpmjkdmcaaGreat
/- The reference's types of steps. -/
namespace Go.Proofs.YtkapldpmjkdmcaaGreat
open Go.RowKit

section
variable (ds : List DeclL) (rs : List RoutL) (hok : sigsOk ds (rs.map sigR) = true)
include hok

set_option maxRecDepth 100000 in
set_option maxHeartbeats 4000000 in
theorem specSt_16 (into : Int) (args : List Int) (ks : List BlockL) (IH0 : ∀ j, j < ks.length → BlS ds rs (bAt ks j).result (bAt ks j).steps) : StS ds rs (.mk 16 0 into args ks) := by
  intro a0 n0 c0 a1 n1 c1 av nv cv sc aa na ca ak nk ck w hp hv ha hk hlen hall
  refine calls_k fun Q hQ => ?_
  change Rd w (fun _ => True) (encInts args) _ at ha
  change Rd w (fun _ => True) (encBlocks ks) _ at hk
  rw [nS] at hlen
  simp only [StepL.op, StepL.num, StepL.into]
  have ht := (sigsOk_parts hok).1
  have hf := Few.of_ok ht
  have hd4 := typesOk_len ht
  have hr4 : rs.length ≤ 4 := by have := (sigsOk_parts hok).2.2.1; simpa using this
  have hn0 : n0 ≤ 4 := by have := (decls_at hp.1).1; omega
  have hnv : nv ≤ 1052000 := by have := (ints_at hv).1; omega
  have hna : na ≤ 9223372036854775807 := (ints_at ha).2.2.1
  have hnk : ks.length = nk := (blocks_at hk).1
  have hnl : args.length = na := (ints_at ha).1
  have K0 := (Keep.al w (.cells #[.slice a0 n0 c0, .slice a1 n1 c1] 30)).trans (Keep.al _ (.cells #[.int .i64 16, .int .i64 0, .int .i64 into, .slice aa na ca, .slice ak nk ck] 136))
  have R0 := (rowOf w #[.slice a0 n0 c0, .slice a1 n1 c1] 30).alloc (.cells #[.int .i64 16, .int .i64 0, .int .i64 into, .slice aa na ca, .slice ak nk ck] 136)
  have R1 := rowOf (w.alloc (.cells #[.slice a0 n0 c0, .slice a1 n1 c1] 30)) #[.int .i64 16, .int .i64 0, .int .i64 into, .slice aa na ca, .slice ak nk ck] 136
  simp only [World.size_alloc] at R1
  have HNK := Lib.hid hnk
  have HNL := Lib.hid hnl
  have HOK := Lib.hid hok
  have HAll := Lib.hid hall
  have HLen := Lib.hid hlen
  have HT := Lib.hid ht
  have HF := Lib.hid hf
  have IH := Lib.hid IH0
  clear hok hall ht IH0 hnk hnl hf
  cases hi : intoOk sc 16 into
  · have V : Hid (stpT ds (rs.map sigR) sc (.mk 16 0 into args ks) = -1) := stp_into _ _ _ _ _ _ _ _ hi
    have HI := Lib.hid hi
    clear hi
    go_enter Tryz.func129, Tryz.ntmps129
    go_wp2_with fail
    refine (specValidInto _ _ _ sc 16 0 into _ _ _ _ _ _ _ _ (hv.k K0).toInts (by omega)).mono ?_
    rw [HI.out]
    rintro e w1 ⟨rfl, p1⟩
    have K1 := Lib.hid (K0.trans p1)
    have R0' := Lib.hid (row_ext R0 p1 (fun h => h))
    have R1' := Lib.hid (row_ext R1 p1 (fun h => h))
    have x0 := R0'.out.cell (i := 0) (by simp)
    have x1 := R0'.out.cell (i := 1) (by simp)
    have y0 := R1'.out.cell (i := 0) (by simp)
    have y1 := R1'.out.cell (i := 1) (by simp)
    have y2 := R1'.out.cell (i := 2) (by simp)
    have y3 := R1'.out.cell (i := 3) (by simp)
    have y4 := R1'.out.cell (i := 4) (by simp)
    simp at x0 x1 y0 y1 y2 y3 y4
    clear R0 R1 K0 p1
    go_wp2_with fail
    exact fin_ hQ ⟨ret_i V.out.symm, K1.out⟩
  have HI := Lib.hid hi
  clear hi
  by_cases hk0 : nk = 0
  case neg =>
    have hk1 : 0 < nk := by omega
    have V : Hid (stpT ds (rs.map sigR) sc (.mk 16 0 into args ks) = -1) := stp_kids _ _ _ _ _ _ _ _ (by omega) (by omega) (by have := HNK.out; omega)
    clear hk0
    go_enter Tryz.func129, Tryz.ntmps129
    go_wp2_with fail
    refine (specValidInto _ _ _ sc 16 0 into _ _ _ _ _ _ _ _ (hv.k K0).toInts (by omega)).mono ?_
    rw [HI.out]
    rintro e w1 ⟨rfl, p1⟩
    have K1 := Lib.hid (K0.trans p1)
    have R0' := Lib.hid (row_ext R0 p1 (fun h => h))
    have R1' := Lib.hid (row_ext R1 p1 (fun h => h))
    have x0 := R0'.out.cell (i := 0) (by simp)
    have x1 := R0'.out.cell (i := 1) (by simp)
    have y0 := R1'.out.cell (i := 0) (by simp)
    have y1 := R1'.out.cell (i := 1) (by simp)
    have y2 := R1'.out.cell (i := 2) (by simp)
    have y3 := R1'.out.cell (i := 3) (by simp)
    have y4 := R1'.out.cell (i := 4) (by simp)
    simp at x0 x1 y0 y1 y2 y3 y4
    clear R0 R1 K0 p1
    go_wp2_with fail
    exact fin_ hQ ⟨ret_i V.out.symm, K1.out⟩
  subst hk0
  have V0 : Hid (stpT ds (rs.map sigR) sc (.mk 16 0 into args ks) = routS ds (rs.map sigR) sc 16 0 args) := stp_rout _ _ _ _ _ _ _ _ HI.out (by omega) (by omega) HNK.out
  have V : Hid (stpT ds (rs.map sigR) sc (.mk 16 0 into args ks) = cntS ds sc 16 args) := by show _ = _; rw [V0.out, routS_cnt _ _ _ _ (by omega)]
  go_enter Tryz.func129, Tryz.ntmps129
  go_wp2_with fail
  refine (specValidInto _ _ _ sc 16 0 into _ _ _ _ _ _ _ _ (hv.k K0).toInts (by omega)).mono ?_
  rw [HI.out]
  rintro e w1 ⟨rfl, p1⟩
  have K1 := Lib.hid (K0.trans p1)
  have R0' := Lib.hid (row_ext R0 p1 (fun h => h))
  have R1' := Lib.hid (row_ext R1 p1 (fun h => h))
  have x0 := R0'.out.cell (i := 0) (by simp)
  have x1 := R0'.out.cell (i := 1) (by simp)
  have y0 := R1'.out.cell (i := 0) (by simp)
  have y1 := R1'.out.cell (i := 1) (by simp)
  have y2 := R1'.out.cell (i := 2) (by simp)
  have y3 := R1'.out.cell (i := 3) (by simp)
  have y4 := R1'.out.cell (i := 4) (by simp)
  simp at x0 x1 y0 y1 y2 y3 y4
  clear R0 R1 K0 p1
  go_wp2_with fail
  refine (specCountingType ds _ _ _ _ _ _ _ _ _ sc 16 0 into _ _ _ args _ _ _ _ _ _ _ (hp.k K1.out).1 (by omega) (hv.k K1.out).toInts (by omega) (ha.k K1.out).toInts).mono ?_
  rintro e w2 ⟨rfl, p2⟩
  go_wp2_with fail
  exact fin_ hQ ⟨ret_i V.out.symm, K1.out.trans p2⟩

set_option maxRecDepth 100000 in
set_option maxHeartbeats 4000000 in
theorem specSt_17 (into : Int) (args : List Int) (ks : List BlockL) (IH0 : ∀ j, j < ks.length → BlS ds rs (bAt ks j).result (bAt ks j).steps) : StS ds rs (.mk 17 0 into args ks) := by
  intro a0 n0 c0 a1 n1 c1 av nv cv sc aa na ca ak nk ck w hp hv ha hk hlen hall
  refine calls_k fun Q hQ => ?_
  change Rd w (fun _ => True) (encInts args) _ at ha
  change Rd w (fun _ => True) (encBlocks ks) _ at hk
  rw [nS] at hlen
  simp only [StepL.op, StepL.num, StepL.into]
  have ht := (sigsOk_parts hok).1
  have hf := Few.of_ok ht
  have hd4 := typesOk_len ht
  have hr4 : rs.length ≤ 4 := by have := (sigsOk_parts hok).2.2.1; simpa using this
  have hn0 : n0 ≤ 4 := by have := (decls_at hp.1).1; omega
  have hnv : nv ≤ 1052000 := by have := (ints_at hv).1; omega
  have hna : na ≤ 9223372036854775807 := (ints_at ha).2.2.1
  have hnk : ks.length = nk := (blocks_at hk).1
  have hnl : args.length = na := (ints_at ha).1
  have K0 := (Keep.al w (.cells #[.slice a0 n0 c0, .slice a1 n1 c1] 30)).trans (Keep.al _ (.cells #[.int .i64 17, .int .i64 0, .int .i64 into, .slice aa na ca, .slice ak nk ck] 136))
  have R0 := (rowOf w #[.slice a0 n0 c0, .slice a1 n1 c1] 30).alloc (.cells #[.int .i64 17, .int .i64 0, .int .i64 into, .slice aa na ca, .slice ak nk ck] 136)
  have R1 := rowOf (w.alloc (.cells #[.slice a0 n0 c0, .slice a1 n1 c1] 30)) #[.int .i64 17, .int .i64 0, .int .i64 into, .slice aa na ca, .slice ak nk ck] 136
  simp only [World.size_alloc] at R1
  have HNK := Lib.hid hnk
  have HNL := Lib.hid hnl
  have HOK := Lib.hid hok
  have HAll := Lib.hid hall
  have HLen := Lib.hid hlen
  have HT := Lib.hid ht
  have HF := Lib.hid hf
  have IH := Lib.hid IH0
  clear hok hall ht IH0 hnk hnl hf
  cases hi : intoOk sc 17 into
  · have V : Hid (stpT ds (rs.map sigR) sc (.mk 17 0 into args ks) = -1) := stp_into _ _ _ _ _ _ _ _ hi
    have HI := Lib.hid hi
    clear hi
    go_enter Tryz.func129, Tryz.ntmps129
    go_wp2_with fail
    refine (specValidInto _ _ _ sc 17 0 into _ _ _ _ _ _ _ _ (hv.k K0).toInts (by omega)).mono ?_
    rw [HI.out]
    rintro e w1 ⟨rfl, p1⟩
    have K1 := Lib.hid (K0.trans p1)
    have R0' := Lib.hid (row_ext R0 p1 (fun h => h))
    have R1' := Lib.hid (row_ext R1 p1 (fun h => h))
    have x0 := R0'.out.cell (i := 0) (by simp)
    have x1 := R0'.out.cell (i := 1) (by simp)
    have y0 := R1'.out.cell (i := 0) (by simp)
    have y1 := R1'.out.cell (i := 1) (by simp)
    have y2 := R1'.out.cell (i := 2) (by simp)
    have y3 := R1'.out.cell (i := 3) (by simp)
    have y4 := R1'.out.cell (i := 4) (by simp)
    simp at x0 x1 y0 y1 y2 y3 y4
    clear R0 R1 K0 p1
    go_wp2_with fail
    exact fin_ hQ ⟨ret_i V.out.symm, K1.out⟩
  have HI := Lib.hid hi
  clear hi
  by_cases hk0 : nk = 0
  case neg =>
    have hk1 : 0 < nk := by omega
    have V : Hid (stpT ds (rs.map sigR) sc (.mk 17 0 into args ks) = -1) := stp_kids _ _ _ _ _ _ _ _ (by omega) (by omega) (by have := HNK.out; omega)
    clear hk0
    go_enter Tryz.func129, Tryz.ntmps129
    go_wp2_with fail
    refine (specValidInto _ _ _ sc 17 0 into _ _ _ _ _ _ _ _ (hv.k K0).toInts (by omega)).mono ?_
    rw [HI.out]
    rintro e w1 ⟨rfl, p1⟩
    have K1 := Lib.hid (K0.trans p1)
    have R0' := Lib.hid (row_ext R0 p1 (fun h => h))
    have R1' := Lib.hid (row_ext R1 p1 (fun h => h))
    have x0 := R0'.out.cell (i := 0) (by simp)
    have x1 := R0'.out.cell (i := 1) (by simp)
    have y0 := R1'.out.cell (i := 0) (by simp)
    have y1 := R1'.out.cell (i := 1) (by simp)
    have y2 := R1'.out.cell (i := 2) (by simp)
    have y3 := R1'.out.cell (i := 3) (by simp)
    have y4 := R1'.out.cell (i := 4) (by simp)
    simp at x0 x1 y0 y1 y2 y3 y4
    clear R0 R1 K0 p1
    go_wp2_with fail
    exact fin_ hQ ⟨ret_i V.out.symm, K1.out⟩
  subst hk0
  have V0 : Hid (stpT ds (rs.map sigR) sc (.mk 17 0 into args ks) = routS ds (rs.map sigR) sc 17 0 args) := stp_rout _ _ _ _ _ _ _ _ HI.out (by omega) (by omega) HNK.out
  have V : Hid (stpT ds (rs.map sigR) sc (.mk 17 0 into args ks) = cntS ds sc 17 args) := by show _ = _; rw [V0.out, routS_cnt _ _ _ _ (by omega)]
  go_enter Tryz.func129, Tryz.ntmps129
  go_wp2_with fail
  refine (specValidInto _ _ _ sc 17 0 into _ _ _ _ _ _ _ _ (hv.k K0).toInts (by omega)).mono ?_
  rw [HI.out]
  rintro e w1 ⟨rfl, p1⟩
  have K1 := Lib.hid (K0.trans p1)
  have R0' := Lib.hid (row_ext R0 p1 (fun h => h))
  have R1' := Lib.hid (row_ext R1 p1 (fun h => h))
  have x0 := R0'.out.cell (i := 0) (by simp)
  have x1 := R0'.out.cell (i := 1) (by simp)
  have y0 := R1'.out.cell (i := 0) (by simp)
  have y1 := R1'.out.cell (i := 1) (by simp)
  have y2 := R1'.out.cell (i := 2) (by simp)
  have y3 := R1'.out.cell (i := 3) (by simp)
  have y4 := R1'.out.cell (i := 4) (by simp)
  simp at x0 x1 y0 y1 y2 y3 y4
  clear R0 R1 K0 p1
  go_wp2_with fail
  refine (specCountingType ds _ _ _ _ _ _ _ _ _ sc 17 0 into _ _ _ args _ _ _ _ _ _ _ (hp.k K1.out).1 (by omega) (hv.k K1.out).toInts (by omega) (ha.k K1.out).toInts).mono ?_
  rintro e w2 ⟨rfl, p2⟩
  go_wp2_with fail
  exact fin_ hQ ⟨ret_i V.out.symm, K1.out.trans p2⟩

set_option maxRecDepth 100000 in
set_option maxHeartbeats 4000000 in
theorem specSt_num (op num : Int) (hn : num ≠ 0) (hop : ¬ (op = 0 ∨ op = 6 ∨ op = 8 ∨ op = 9 ∨ op = 10)) (into : Int) (args : List Int) (ks : List BlockL) (IH0 : ∀ j, j < ks.length → BlS ds rs (bAt ks j).result (bAt ks j).steps) : StS ds rs (.mk op num into args ks) := by
  intro a0 n0 c0 a1 n1 c1 av nv cv sc aa na ca ak nk ck w hp hv ha hk hlen hall
  refine calls_k fun Q hQ => ?_
  change Rd w (fun _ => True) (encInts args) _ at ha
  change Rd w (fun _ => True) (encBlocks ks) _ at hk
  rw [nS] at hlen
  simp only [StepL.op, StepL.num, StepL.into]
  have ht := (sigsOk_parts hok).1
  have hf := Few.of_ok ht
  have hd4 := typesOk_len ht
  have hr4 : rs.length ≤ 4 := by have := (sigsOk_parts hok).2.2.1; simpa using this
  have hn0 : n0 ≤ 4 := by have := (decls_at hp.1).1; omega
  have hnv : nv ≤ 1052000 := by have := (ints_at hv).1; omega
  have hna : na ≤ 9223372036854775807 := (ints_at ha).2.2.1
  have hnk : ks.length = nk := (blocks_at hk).1
  have hnl : args.length = na := (ints_at ha).1
  have K0 := (Keep.al w (.cells #[.slice a0 n0 c0, .slice a1 n1 c1] 30)).trans (Keep.al _ (.cells #[.int .i64 op, .int .i64 num, .int .i64 into, .slice aa na ca, .slice ak nk ck] 136))
  have R0 := (rowOf w #[.slice a0 n0 c0, .slice a1 n1 c1] 30).alloc (.cells #[.int .i64 op, .int .i64 num, .int .i64 into, .slice aa na ca, .slice ak nk ck] 136)
  have R1 := rowOf (w.alloc (.cells #[.slice a0 n0 c0, .slice a1 n1 c1] 30)) #[.int .i64 op, .int .i64 num, .int .i64 into, .slice aa na ca, .slice ak nk ck] 136
  simp only [World.size_alloc] at R1
  have HNK := Lib.hid hnk
  have HNL := Lib.hid hnl
  have HOK := Lib.hid hok
  have HAll := Lib.hid hall
  have HLen := Lib.hid hlen
  have HT := Lib.hid ht
  have HF := Lib.hid hf
  have IH := Lib.hid IH0
  clear hok hall ht IH0 hnk hnl hf
  have V : Hid (stpT ds (rs.map sigR) sc (.mk op num into args ks) = -1) := stp_num _ _ _ _ _ _ _ _ hn hop
  have hn' : (num != 0) = true := by simpa using hn
  have HN := Lib.hid (decide_eq_false hop)
  clear hn hop
  go_enter Tryz.func129, Tryz.ntmps129
  go_wp2_with fail
  refine (specHasNum _ _).mono ?_
  rw [HN.out]
  rintro e w0 ⟨rfl, rfl⟩
  go_wp2_with fail
  exact fin_ hQ ⟨ret_i V.out.symm, K0⟩

set_option maxRecDepth 100000 in
set_option maxHeartbeats 4000000 in
theorem specSt_other (op : Int) (hop : op < 0 ∨ op = 12 ∨ op = 13 ∨ 17 < op) (into : Int) (args : List Int) (ks : List BlockL) (IH0 : ∀ j, j < ks.length → BlS ds rs (bAt ks j).result (bAt ks j).steps) : StS ds rs (.mk op 0 into args ks) := by
  intro a0 n0 c0 a1 n1 c1 av nv cv sc aa na ca ak nk ck w hp hv ha hk hlen hall
  refine calls_k fun Q hQ => ?_
  change Rd w (fun _ => True) (encInts args) _ at ha
  change Rd w (fun _ => True) (encBlocks ks) _ at hk
  rw [nS] at hlen
  simp only [StepL.op, StepL.num, StepL.into]
  have ht := (sigsOk_parts hok).1
  have hf := Few.of_ok ht
  have hd4 := typesOk_len ht
  have hr4 : rs.length ≤ 4 := by have := (sigsOk_parts hok).2.2.1; simpa using this
  have hn0 : n0 ≤ 4 := by have := (decls_at hp.1).1; omega
  have hnv : nv ≤ 1052000 := by have := (ints_at hv).1; omega
  have hna : na ≤ 9223372036854775807 := (ints_at ha).2.2.1
  have hnk : ks.length = nk := (blocks_at hk).1
  have hnl : args.length = na := (ints_at ha).1
  have K0 := (Keep.al w (.cells #[.slice a0 n0 c0, .slice a1 n1 c1] 30)).trans (Keep.al _ (.cells #[.int .i64 op, .int .i64 0, .int .i64 into, .slice aa na ca, .slice ak nk ck] 136))
  have R0 := (rowOf w #[.slice a0 n0 c0, .slice a1 n1 c1] 30).alloc (.cells #[.int .i64 op, .int .i64 0, .int .i64 into, .slice aa na ca, .slice ak nk ck] 136)
  have R1 := rowOf (w.alloc (.cells #[.slice a0 n0 c0, .slice a1 n1 c1] 30)) #[.int .i64 op, .int .i64 0, .int .i64 into, .slice aa na ca, .slice ak nk ck] 136
  simp only [World.size_alloc] at R1
  have HNK := Lib.hid hnk
  have HNL := Lib.hid hnl
  have HOK := Lib.hid hok
  have HAll := Lib.hid hall
  have HLen := Lib.hid hlen
  have HT := Lib.hid ht
  have HF := Lib.hid hf
  have IH := Lib.hid IH0
  clear hok hall ht IH0 hnk hnl hf
  have o0 : (op == 0) = false := by simp; omega
  have o1 : (op == 1) = false := by simp; omega
  have o2 : (op == 2) = false := by simp; omega
  have o3 : (op == 3) = false := by simp; omega
  have o4 : (op == 4) = false := by simp; omega
  have o5 : (op == 5) = false := by simp; omega
  have o6 : (op == 6) = false := by simp; omega
  have o7 : (op == 7) = false := by simp; omega
  have o8 : (op == 8) = false := by simp; omega
  have o9 : (op == 9) = false := by simp; omega
  have o10 : (op == 10) = false := by simp; omega
  have o11 : (op == 11) = false := by simp; omega
  have o14 : (op == 14) = false := by simp; omega
  have o15 : (op == 15) = false := by simp; omega
  have o16 : (op == 16) = false := by simp; omega
  have o17 : (op == 17) = false := by simp; omega
  have m7 : (op != 7) = true := by simp; omega
  have m8 : (op != 8) = true := by simp; omega
  cases hi : intoOk sc op into
  · have V : Hid (stpT ds (rs.map sigR) sc (.mk op 0 into args ks) = -1) := stp_into _ _ _ _ _ _ _ _ hi
    have HI := Lib.hid hi
    clear hi
    go_enter Tryz.func129, Tryz.ntmps129
    go_wp2_with fail
    refine (specValidInto _ _ _ sc op 0 into _ _ _ _ _ _ _ _ (hv.k K0).toInts (by omega)).mono ?_
    rw [HI.out]
    rintro e w1 ⟨rfl, p1⟩
    have K1 := Lib.hid (K0.trans p1)
    have R0' := Lib.hid (row_ext R0 p1 (fun h => h))
    have R1' := Lib.hid (row_ext R1 p1 (fun h => h))
    have x0 := R0'.out.cell (i := 0) (by simp)
    have x1 := R0'.out.cell (i := 1) (by simp)
    have y0 := R1'.out.cell (i := 0) (by simp)
    have y1 := R1'.out.cell (i := 1) (by simp)
    have y2 := R1'.out.cell (i := 2) (by simp)
    have y3 := R1'.out.cell (i := 3) (by simp)
    have y4 := R1'.out.cell (i := 4) (by simp)
    simp at x0 x1 y0 y1 y2 y3 y4
    clear R0 R1 K0 p1
    go_wp2_with fail
    exact fin_ hQ ⟨ret_i V.out.symm, K1.out⟩
  have HI := Lib.hid hi
  clear hi
  by_cases hk0 : nk = 0
  case neg =>
    have hk1 : 0 < nk := by omega
    have V : Hid (stpT ds (rs.map sigR) sc (.mk op 0 into args ks) = -1) := stp_kids _ _ _ _ _ _ _ _ (by omega) (by omega) (by have := HNK.out; omega)
    clear hk0
    go_enter Tryz.func129, Tryz.ntmps129
    go_wp2_with fail
    refine (specValidInto _ _ _ sc op 0 into _ _ _ _ _ _ _ _ (hv.k K0).toInts (by omega)).mono ?_
    rw [HI.out]
    rintro e w1 ⟨rfl, p1⟩
    have K1 := Lib.hid (K0.trans p1)
    have R0' := Lib.hid (row_ext R0 p1 (fun h => h))
    have R1' := Lib.hid (row_ext R1 p1 (fun h => h))
    have x0 := R0'.out.cell (i := 0) (by simp)
    have x1 := R0'.out.cell (i := 1) (by simp)
    have y0 := R1'.out.cell (i := 0) (by simp)
    have y1 := R1'.out.cell (i := 1) (by simp)
    have y2 := R1'.out.cell (i := 2) (by simp)
    have y3 := R1'.out.cell (i := 3) (by simp)
    have y4 := R1'.out.cell (i := 4) (by simp)
    simp at x0 x1 y0 y1 y2 y3 y4
    clear R0 R1 K0 p1
    go_wp2_with fail
    exact fin_ hQ ⟨ret_i V.out.symm, K1.out⟩
  subst hk0
  have V0 : Hid (stpT ds (rs.map sigR) sc (.mk op 0 into args ks) = routS ds (rs.map sigR) sc op 0 args) := stp_rout _ _ _ _ _ _ _ _ HI.out (by omega) (by omega) HNK.out
  have V : Hid (stpT ds (rs.map sigR) sc (.mk op 0 into args ks) = -1) := by show _ = _; rw [V0.out, routS_other _ _ _ _ _ (by omega)]
  go_enter Tryz.func129, Tryz.ntmps129
  go_wp2_with fail
  refine (specValidInto _ _ _ sc op 0 into _ _ _ _ _ _ _ _ (hv.k K0).toInts (by omega)).mono ?_
  rw [HI.out]
  rintro e w1 ⟨rfl, p1⟩
  have K1 := Lib.hid (K0.trans p1)
  have R0' := Lib.hid (row_ext R0 p1 (fun h => h))
  have R1' := Lib.hid (row_ext R1 p1 (fun h => h))
  have x0 := R0'.out.cell (i := 0) (by simp)
  have x1 := R0'.out.cell (i := 1) (by simp)
  have y0 := R1'.out.cell (i := 0) (by simp)
  have y1 := R1'.out.cell (i := 1) (by simp)
  have y2 := R1'.out.cell (i := 2) (by simp)
  have y3 := R1'.out.cell (i := 3) (by simp)
  have y4 := R1'.out.cell (i := 4) (by simp)
  simp at x0 x1 y0 y1 y2 y3 y4
  clear R0 R1 K0 p1
  go_wp2_with fail
  exact fin_ hQ ⟨ret_i V.out.symm, K1.out⟩
end
end Go.Proofs.YtkapldpmjkdmcaaGreat
/- The reference's types of steps: constructors. -/
namespace Go.Proofs.YtkapldpmjkdmcaaGreat
open Go.RowKit

section
variable (ds : List DeclL) (rs : List RoutL) (hok : sigsOk ds (rs.map sigR) = true)
include hok

set_option maxRecDepth 100000 in
set_option maxHeartbeats 4000000 in
theorem specSt_6_z (into : Int) (args : List Int) (ks : List BlockL) (IH0 : ∀ j, j < ks.length → BlS ds rs (bAt ks j).result (bAt ks j).steps) : StS ds rs (.mk 6 0 into args ks) := by
  intro a0 n0 c0 a1 n1 c1 av nv cv sc aa na ca ak nk ck w hp hv ha hk hlen hall
  refine calls_k fun Q hQ => ?_
  change Rd w (fun _ => True) (encInts args) _ at ha
  change Rd w (fun _ => True) (encBlocks ks) _ at hk
  rw [nS] at hlen
  simp only [StepL.op, StepL.num, StepL.into]
  have ht := (sigsOk_parts hok).1
  have hf := Few.of_ok ht
  have hd4 := typesOk_len ht
  have hr4 : rs.length ≤ 4 := by have := (sigsOk_parts hok).2.2.1; simpa using this
  have hn0 : n0 ≤ 4 := by have := (decls_at hp.1).1; omega
  have hnv : nv ≤ 1052000 := by have := (ints_at hv).1; omega
  have hna : na ≤ 9223372036854775807 := (ints_at ha).2.2.1
  have hnk : ks.length = nk := (blocks_at hk).1
  have hnl : args.length = na := (ints_at ha).1
  have K0 := (Keep.al w (.cells #[.slice a0 n0 c0, .slice a1 n1 c1] 30)).trans (Keep.al _ (.cells #[.int .i64 6, .int .i64 0, .int .i64 into, .slice aa na ca, .slice ak nk ck] 136))
  have R0 := (rowOf w #[.slice a0 n0 c0, .slice a1 n1 c1] 30).alloc (.cells #[.int .i64 6, .int .i64 0, .int .i64 into, .slice aa na ca, .slice ak nk ck] 136)
  have R1 := rowOf (w.alloc (.cells #[.slice a0 n0 c0, .slice a1 n1 c1] 30)) #[.int .i64 6, .int .i64 0, .int .i64 into, .slice aa na ca, .slice ak nk ck] 136
  simp only [World.size_alloc] at R1
  have HNK := Lib.hid hnk
  have HNL := Lib.hid hnl
  have HOK := Lib.hid hok
  have HAll := Lib.hid hall
  have HLen := Lib.hid hlen
  have HT := Lib.hid ht
  have HF := Lib.hid hf
  have IH := Lib.hid IH0
  clear hok hall ht IH0 hnk hnl hf
  cases hi : intoOk sc 6 into
  · have V : Hid (stpT ds (rs.map sigR) sc (.mk 6 0 into args ks) = -1) := stp_into _ _ _ _ _ _ _ _ hi
    have HI := Lib.hid hi
    clear hi
    go_enter Tryz.func129, Tryz.ntmps129
    go_wp2_with fail
    refine (specValidInto _ _ _ sc 6 0 into _ _ _ _ _ _ _ _ (hv.k K0).toInts (by omega)).mono ?_
    rw [HI.out]
    rintro e w1 ⟨rfl, p1⟩
    have K1 := Lib.hid (K0.trans p1)
    have R0' := Lib.hid (row_ext R0 p1 (fun h => h))
    have R1' := Lib.hid (row_ext R1 p1 (fun h => h))
    have x0 := R0'.out.cell (i := 0) (by simp)
    have x1 := R0'.out.cell (i := 1) (by simp)
    have y0 := R1'.out.cell (i := 0) (by simp)
    have y1 := R1'.out.cell (i := 1) (by simp)
    have y2 := R1'.out.cell (i := 2) (by simp)
    have y3 := R1'.out.cell (i := 3) (by simp)
    have y4 := R1'.out.cell (i := 4) (by simp)
    simp at x0 x1 y0 y1 y2 y3 y4
    clear R0 R1 K0 p1
    go_wp2_with fail
    exact fin_ hQ ⟨ret_i V.out.symm, K1.out⟩
  have HI := Lib.hid hi
  clear hi
  by_cases hk0 : nk = 0
  case neg =>
    have hk1 : 0 < nk := by omega
    have V : Hid (stpT ds (rs.map sigR) sc (.mk 6 0 into args ks) = -1) := stp_kids _ _ _ _ _ _ _ _ (by omega) (by omega) (by have := HNK.out; omega)
    clear hk0
    go_enter Tryz.func129, Tryz.ntmps129
    go_wp2_with fail
    refine (specValidInto _ _ _ sc 6 0 into _ _ _ _ _ _ _ _ (hv.k K0).toInts (by omega)).mono ?_
    rw [HI.out]
    rintro e w1 ⟨rfl, p1⟩
    have K1 := Lib.hid (K0.trans p1)
    have R0' := Lib.hid (row_ext R0 p1 (fun h => h))
    have R1' := Lib.hid (row_ext R1 p1 (fun h => h))
    have x0 := R0'.out.cell (i := 0) (by simp)
    have x1 := R0'.out.cell (i := 1) (by simp)
    have y0 := R1'.out.cell (i := 0) (by simp)
    have y1 := R1'.out.cell (i := 1) (by simp)
    have y2 := R1'.out.cell (i := 2) (by simp)
    have y3 := R1'.out.cell (i := 3) (by simp)
    have y4 := R1'.out.cell (i := 4) (by simp)
    simp at x0 x1 y0 y1 y2 y3 y4
    clear R0 R1 K0 p1
    go_wp2_with fail
    exact fin_ hQ ⟨ret_i V.out.symm, K1.out⟩
  subst hk0
  have V0 : Hid (stpT ds (rs.map sigR) sc (.mk 6 0 into args ks) = routS ds (rs.map sigR) sc 6 0 args) := stp_rout _ _ _ _ _ _ _ _ HI.out (by omega) (by omega) HNK.out
  obtain ⟨ct, hct⟩ : ∃ ct, conTypeL ds (0 : Int) = ct := ⟨_, rfl⟩
  have HC := Lib.hid hct
  clear hct
  by_cases hc0 : 0 < ct
  case neg =>
    have V : Hid (stpT ds (rs.map sigR) sc (.mk 6 0 into args ks) = -1) := by show _ = _; rw [V0.out, routS_con, HC.out]; rw [if_neg hc0]
    have hc0' : decide (0 < ct) = false := decide_eq_false hc0
    go_enter Tryz.func129, Tryz.ntmps129
    go_wp2_with fail
    refine (specValidInto _ _ _ sc 6 0 into _ _ _ _ _ _ _ _ (hv.k K0).toInts (by omega)).mono ?_
    rw [HI.out]
    rintro e w1 ⟨rfl, p1⟩
    have K1 := Lib.hid (K0.trans p1)
    have R0' := Lib.hid (row_ext R0 p1 (fun h => h))
    have R1' := Lib.hid (row_ext R1 p1 (fun h => h))
    have x0 := R0'.out.cell (i := 0) (by simp)
    have x1 := R0'.out.cell (i := 1) (by simp)
    have y0 := R1'.out.cell (i := 0) (by simp)
    have y1 := R1'.out.cell (i := 1) (by simp)
    have y2 := R1'.out.cell (i := 2) (by simp)
    have y3 := R1'.out.cell (i := 3) (by simp)
    have y4 := R1'.out.cell (i := 4) (by simp)
    simp at x0 x1 y0 y1 y2 y3 y4
    clear R0 R1 K0 p1
    go_wp2_with fail
    have qp := hp.k K1.out
    go_quiet ((go_at_call 146; exact Calls.quiet_of_same ((specConType0 _ _ _ ds _ _ _ ((Rd.toDecls qp.1).drewN _) HF.out).mono fun _ _ q => ⟨q.1.trans (by rw [HC.out]), q.2.symm⟩)))
    go_wp2_with fail
    exact fin_ hQ ⟨ret_i V.out.symm, by first | exact K1.out.drew | exact K1.out.drewN _⟩
  have hc0' : decide (0 < ct) = true := decide_eq_true hc0
  cases hd : typedL sc args (conFieldsL ds (0 : Int))
  · have V : Hid (stpT ds (rs.map sigR) sc (.mk 6 0 into args ks) = -1) := by show _ = _; rw [V0.out, routS_con, HC.out]; rw [if_pos hc0, if_neg (by rw [hd]; simp)]
    have HD := Lib.hid hd
    clear hd hc0
    go_enter Tryz.func129, Tryz.ntmps129
    go_wp2_with fail
    refine (specValidInto _ _ _ sc 6 0 into _ _ _ _ _ _ _ _ (hv.k K0).toInts (by omega)).mono ?_
    rw [HI.out]
    rintro e w1 ⟨rfl, p1⟩
    have K1 := Lib.hid (K0.trans p1)
    have R0' := Lib.hid (row_ext R0 p1 (fun h => h))
    have R1' := Lib.hid (row_ext R1 p1 (fun h => h))
    have x0 := R0'.out.cell (i := 0) (by simp)
    have x1 := R0'.out.cell (i := 1) (by simp)
    have y0 := R1'.out.cell (i := 0) (by simp)
    have y1 := R1'.out.cell (i := 1) (by simp)
    have y2 := R1'.out.cell (i := 2) (by simp)
    have y3 := R1'.out.cell (i := 3) (by simp)
    have y4 := R1'.out.cell (i := 4) (by simp)
    simp at x0 x1 y0 y1 y2 y3 y4
    clear R0 R1 K0 p1
    go_wp2_with fail
    have qpd := (hp.k K1.out).kd
    have qvd := (hv.k K1.out).kd
    have qad := (ha.k K1.out).kd
    have pc := Ext.refl0 w1
    go_region_held3 (fun w' => w'.cell? ⟨w.heap.size, 0, none⟩ = some (.slice a0 n0 c0) ∧ w'.cell? ⟨w.heap.size + 1, 1, none⟩ = some (.int .i64 0) ∧ w'.cell? ⟨w.heap.size + 1, 3, none⟩ = some (.slice aa na ca))
      (first | exact ⟨Keep.at pc x0, Keep.at pc y1, Keep.at pc y3⟩ | go_keep)
      (first
        | (go_at_call 146; refine (specConType0 _ _ _ ds _ _ _ (Rd.toDecls (qpd.k pc).1) HF.out).mono ?_; rw [HC.out]; rintro e wz ⟨rfl, rfl⟩)
        | (go_at_call 148; refine (specConFields0 _ _ _ ds _ _ _ (Rd.toDecls (qpd.k pc).1) HF.out).mono ?_; rintro e wa ⟨fa, fm, fc, rfl, hfc, fi, pa⟩; replace pc := Ext.trans pc pa)
        | (go_at_call 183; refine (specTyped _ _ _ sc _ _ _ args _ _ _ (conFieldsL ds (0 : Int)) _ _ _ _ (qvd.k pc).toInts (qad.k pc).toInts fi (by omega) hna).mono ?_; rw [HD.out]; rintro e wb ⟨rfl, pb⟩; replace pc := Ext.trans pc pb))
    have KE := Lib.hid (K1.out.trans (Keep.dt pc))
    go_wp2_with fail
    exact fin_ hQ ⟨ret_i V.out.symm, KE.out⟩
  have V : Hid (stpT ds (rs.map sigR) sc (.mk 6 0 into args ks) = ct) := by show _ = _; rw [V0.out, routS_con, HC.out]; rw [if_pos hc0, if_pos hd]
  have HD := Lib.hid hd
  clear hd hc0
  go_enter Tryz.func129, Tryz.ntmps129
  go_wp2_with fail
  refine (specValidInto _ _ _ sc 6 0 into _ _ _ _ _ _ _ _ (hv.k K0).toInts (by omega)).mono ?_
  rw [HI.out]
  rintro e w1 ⟨rfl, p1⟩
  have K1 := Lib.hid (K0.trans p1)
  have R0' := Lib.hid (row_ext R0 p1 (fun h => h))
  have R1' := Lib.hid (row_ext R1 p1 (fun h => h))
  have x0 := R0'.out.cell (i := 0) (by simp)
  have x1 := R0'.out.cell (i := 1) (by simp)
  have y0 := R1'.out.cell (i := 0) (by simp)
  have y1 := R1'.out.cell (i := 1) (by simp)
  have y2 := R1'.out.cell (i := 2) (by simp)
  have y3 := R1'.out.cell (i := 3) (by simp)
  have y4 := R1'.out.cell (i := 4) (by simp)
  simp at x0 x1 y0 y1 y2 y3 y4
  clear R0 R1 K0 p1
  go_wp2_with fail
  have qpd := (hp.k K1.out).kd
  have qvd := (hv.k K1.out).kd
  have qad := (ha.k K1.out).kd
  have pc := Ext.refl0 w1
  go_region_held3 (fun w' => w'.cell? ⟨w.heap.size, 0, none⟩ = some (.slice a0 n0 c0) ∧ w'.cell? ⟨w.heap.size + 1, 1, none⟩ = some (.int .i64 0) ∧ w'.cell? ⟨w.heap.size + 1, 3, none⟩ = some (.slice aa na ca))
    (first | exact ⟨Keep.at pc x0, Keep.at pc y1, Keep.at pc y3⟩ | go_keep)
    (first
      | (go_at_call 146; refine (specConType0 _ _ _ ds _ _ _ (Rd.toDecls (qpd.k pc).1) HF.out).mono ?_; rw [HC.out]; rintro e wz ⟨rfl, rfl⟩)
      | (go_at_call 148; refine (specConFields0 _ _ _ ds _ _ _ (Rd.toDecls (qpd.k pc).1) HF.out).mono ?_; rintro e wa ⟨fa, fm, fc, rfl, hfc, fi, pa⟩; replace pc := Ext.trans pc pa)
      | (go_at_call 183; refine (specTyped _ _ _ sc _ _ _ args _ _ _ (conFieldsL ds (0 : Int)) _ _ _ _ (qvd.k pc).toInts (qad.k pc).toInts fi (by omega) hna).mono ?_; rw [HD.out]; rintro e wb ⟨rfl, pb⟩; replace pc := Ext.trans pc pb))
  have KE := Lib.hid (K1.out.trans (Keep.dt pc))
  have u0 := Keep.at pc x0
  have u1 := Keep.at pc y1
  have qz := Lib.hid (hp.k KE.out)
  clear x0 x1 y0 y1 y2 y3 y4 pc qpd qvd qad
  go_wp2_with fail
  refine (specConType0 _ _ _ ds _ _ _ (Rd.toDecls qz.out.1) HF.out).mono ?_
  rw [HC.out]
  rintro e wz ⟨rfl, rfl⟩
  go_wp2_with fail
  exact fin_ hQ ⟨ret_i V.out.symm, KE.out⟩

set_option maxRecDepth 100000 in
set_option maxHeartbeats 4000000 in
theorem specSt_6_n (num : Int) (hn : num ≠ 0) (into : Int) (args : List Int) (ks : List BlockL) (IH0 : ∀ j, j < ks.length → BlS ds rs (bAt ks j).result (bAt ks j).steps) : StS ds rs (.mk 6 num into args ks) := by
  intro a0 n0 c0 a1 n1 c1 av nv cv sc aa na ca ak nk ck w hp hv ha hk hlen hall
  refine calls_k fun Q hQ => ?_
  change Rd w (fun _ => True) (encInts args) _ at ha
  change Rd w (fun _ => True) (encBlocks ks) _ at hk
  rw [nS] at hlen
  simp only [StepL.op, StepL.num, StepL.into]
  have ht := (sigsOk_parts hok).1
  have hf := Few.of_ok ht
  have hd4 := typesOk_len ht
  have hr4 : rs.length ≤ 4 := by have := (sigsOk_parts hok).2.2.1; simpa using this
  have hn0 : n0 ≤ 4 := by have := (decls_at hp.1).1; omega
  have hnv : nv ≤ 1052000 := by have := (ints_at hv).1; omega
  have hna : na ≤ 9223372036854775807 := (ints_at ha).2.2.1
  have hnk : ks.length = nk := (blocks_at hk).1
  have hnl : args.length = na := (ints_at ha).1
  have K0 := (Keep.al w (.cells #[.slice a0 n0 c0, .slice a1 n1 c1] 30)).trans (Keep.al _ (.cells #[.int .i64 6, .int .i64 num, .int .i64 into, .slice aa na ca, .slice ak nk ck] 136))
  have R0 := (rowOf w #[.slice a0 n0 c0, .slice a1 n1 c1] 30).alloc (.cells #[.int .i64 6, .int .i64 num, .int .i64 into, .slice aa na ca, .slice ak nk ck] 136)
  have R1 := rowOf (w.alloc (.cells #[.slice a0 n0 c0, .slice a1 n1 c1] 30)) #[.int .i64 6, .int .i64 num, .int .i64 into, .slice aa na ca, .slice ak nk ck] 136
  simp only [World.size_alloc] at R1
  have HNK := Lib.hid hnk
  have HNL := Lib.hid hnl
  have HOK := Lib.hid hok
  have HAll := Lib.hid hall
  have HLen := Lib.hid hlen
  have HT := Lib.hid ht
  have HF := Lib.hid hf
  have IH := Lib.hid IH0
  clear hok hall ht IH0 hnk hnl hf
  have hn' : (num != 0) = true := by simpa using hn
  clear hn
  cases hi : intoOk sc 6 into
  · have V : Hid (stpT ds (rs.map sigR) sc (.mk 6 num into args ks) = -1) := stp_into _ _ _ _ _ _ _ _ hi
    have HI := Lib.hid hi
    clear hi
    go_enter Tryz.func129, Tryz.ntmps129
    go_wp2_with fail
    refine (specHasNum _ _).mono ?_
    rintro e w0 ⟨rfl, rfl⟩
    go_wp2_with fail
    refine (specValidInto _ _ _ sc 6 num into _ _ _ _ _ _ _ _ (hv.k K0).toInts (by omega)).mono ?_
    rw [HI.out]
    rintro e w1 ⟨rfl, p1⟩
    have K1 := Lib.hid (K0.trans p1)
    have R0' := Lib.hid (row_ext R0 p1 (fun h => h))
    have R1' := Lib.hid (row_ext R1 p1 (fun h => h))
    have x0 := R0'.out.cell (i := 0) (by simp)
    have x1 := R0'.out.cell (i := 1) (by simp)
    have y0 := R1'.out.cell (i := 0) (by simp)
    have y1 := R1'.out.cell (i := 1) (by simp)
    have y2 := R1'.out.cell (i := 2) (by simp)
    have y3 := R1'.out.cell (i := 3) (by simp)
    have y4 := R1'.out.cell (i := 4) (by simp)
    simp at x0 x1 y0 y1 y2 y3 y4
    clear R0 R1 K0 p1
    go_wp2_with fail
    exact fin_ hQ ⟨ret_i V.out.symm, K1.out⟩
  have HI := Lib.hid hi
  clear hi
  by_cases hk0 : nk = 0
  case neg =>
    have hk1 : 0 < nk := by omega
    have V : Hid (stpT ds (rs.map sigR) sc (.mk 6 num into args ks) = -1) := stp_kids _ _ _ _ _ _ _ _ (by omega) (by omega) (by have := HNK.out; omega)
    clear hk0
    go_enter Tryz.func129, Tryz.ntmps129
    go_wp2_with fail
    refine (specHasNum _ _).mono ?_
    rintro e w0 ⟨rfl, rfl⟩
    go_wp2_with fail
    refine (specValidInto _ _ _ sc 6 num into _ _ _ _ _ _ _ _ (hv.k K0).toInts (by omega)).mono ?_
    rw [HI.out]
    rintro e w1 ⟨rfl, p1⟩
    have K1 := Lib.hid (K0.trans p1)
    have R0' := Lib.hid (row_ext R0 p1 (fun h => h))
    have R1' := Lib.hid (row_ext R1 p1 (fun h => h))
    have x0 := R0'.out.cell (i := 0) (by simp)
    have x1 := R0'.out.cell (i := 1) (by simp)
    have y0 := R1'.out.cell (i := 0) (by simp)
    have y1 := R1'.out.cell (i := 1) (by simp)
    have y2 := R1'.out.cell (i := 2) (by simp)
    have y3 := R1'.out.cell (i := 3) (by simp)
    have y4 := R1'.out.cell (i := 4) (by simp)
    simp at x0 x1 y0 y1 y2 y3 y4
    clear R0 R1 K0 p1
    go_wp2_with fail
    exact fin_ hQ ⟨ret_i V.out.symm, K1.out⟩
  subst hk0
  have V0 : Hid (stpT ds (rs.map sigR) sc (.mk 6 num into args ks) = routS ds (rs.map sigR) sc 6 num args) := stp_rout _ _ _ _ _ _ _ _ HI.out (by omega) (by omega) HNK.out
  obtain ⟨ct, hct⟩ : ∃ ct, conTypeL ds num = ct := ⟨_, rfl⟩
  have HC := Lib.hid hct
  clear hct
  by_cases hc0 : 0 < ct
  case neg =>
    have V : Hid (stpT ds (rs.map sigR) sc (.mk 6 num into args ks) = -1) := by show _ = _; rw [V0.out, routS_con, HC.out]; rw [if_neg hc0]
    have hc0' : decide (0 < ct) = false := decide_eq_false hc0
    go_enter Tryz.func129, Tryz.ntmps129
    go_wp2_with fail
    refine (specHasNum _ _).mono ?_
    rintro e w0 ⟨rfl, rfl⟩
    go_wp2_with fail
    refine (specValidInto _ _ _ sc 6 num into _ _ _ _ _ _ _ _ (hv.k K0).toInts (by omega)).mono ?_
    rw [HI.out]
    rintro e w1 ⟨rfl, p1⟩
    have K1 := Lib.hid (K0.trans p1)
    have R0' := Lib.hid (row_ext R0 p1 (fun h => h))
    have R1' := Lib.hid (row_ext R1 p1 (fun h => h))
    have x0 := R0'.out.cell (i := 0) (by simp)
    have x1 := R0'.out.cell (i := 1) (by simp)
    have y0 := R1'.out.cell (i := 0) (by simp)
    have y1 := R1'.out.cell (i := 1) (by simp)
    have y2 := R1'.out.cell (i := 2) (by simp)
    have y3 := R1'.out.cell (i := 3) (by simp)
    have y4 := R1'.out.cell (i := 4) (by simp)
    simp at x0 x1 y0 y1 y2 y3 y4
    clear R0 R1 K0 p1
    go_wp2_with fail
    have qp := hp.k K1.out
    go_quiet ((go_at_call 146; exact Calls.quiet_of_same ((specConType0 _ _ _ ds _ _ _ ((Rd.toDecls qp.1).drewN _) HF.out).mono fun _ _ q => ⟨q.1.trans (by rw [HC.out]), q.2.symm⟩)))
    go_wp2_with fail
    exact fin_ hQ ⟨ret_i V.out.symm, by first | exact K1.out.drew | exact K1.out.drewN _⟩
  have hc0' : decide (0 < ct) = true := decide_eq_true hc0
  cases hd : typedL sc args (conFieldsL ds num)
  · have V : Hid (stpT ds (rs.map sigR) sc (.mk 6 num into args ks) = -1) := by show _ = _; rw [V0.out, routS_con, HC.out]; rw [if_pos hc0, if_neg (by rw [hd]; simp)]
    have HD := Lib.hid hd
    clear hd hc0
    go_enter Tryz.func129, Tryz.ntmps129
    go_wp2_with fail
    refine (specHasNum _ _).mono ?_
    rintro e w0 ⟨rfl, rfl⟩
    go_wp2_with fail
    refine (specValidInto _ _ _ sc 6 num into _ _ _ _ _ _ _ _ (hv.k K0).toInts (by omega)).mono ?_
    rw [HI.out]
    rintro e w1 ⟨rfl, p1⟩
    have K1 := Lib.hid (K0.trans p1)
    have R0' := Lib.hid (row_ext R0 p1 (fun h => h))
    have R1' := Lib.hid (row_ext R1 p1 (fun h => h))
    have x0 := R0'.out.cell (i := 0) (by simp)
    have x1 := R0'.out.cell (i := 1) (by simp)
    have y0 := R1'.out.cell (i := 0) (by simp)
    have y1 := R1'.out.cell (i := 1) (by simp)
    have y2 := R1'.out.cell (i := 2) (by simp)
    have y3 := R1'.out.cell (i := 3) (by simp)
    have y4 := R1'.out.cell (i := 4) (by simp)
    simp at x0 x1 y0 y1 y2 y3 y4
    clear R0 R1 K0 p1
    go_wp2_with fail
    have qpd := (hp.k K1.out).kd
    have qvd := (hv.k K1.out).kd
    have qad := (ha.k K1.out).kd
    have pc := Ext.refl0 w1
    go_region_held3 (fun w' => w'.cell? ⟨w.heap.size, 0, none⟩ = some (.slice a0 n0 c0) ∧ w'.cell? ⟨w.heap.size + 1, 1, none⟩ = some (.int .i64 num) ∧ w'.cell? ⟨w.heap.size + 1, 3, none⟩ = some (.slice aa na ca))
      (first | exact ⟨Keep.at pc x0, Keep.at pc y1, Keep.at pc y3⟩ | go_keep)
      (first
        | (go_at_call 146; refine (specConType0 _ _ _ ds _ _ _ (Rd.toDecls (qpd.k pc).1) HF.out).mono ?_; rw [HC.out]; rintro e wz ⟨rfl, rfl⟩)
        | (go_at_call 148; refine (specConFields0 _ _ _ ds _ _ _ (Rd.toDecls (qpd.k pc).1) HF.out).mono ?_; rintro e wa ⟨fa, fm, fc, rfl, hfc, fi, pa⟩; replace pc := Ext.trans pc pa)
        | (go_at_call 183; refine (specTyped _ _ _ sc _ _ _ args _ _ _ (conFieldsL ds num) _ _ _ _ (qvd.k pc).toInts (qad.k pc).toInts fi (by omega) hna).mono ?_; rw [HD.out]; rintro e wb ⟨rfl, pb⟩; replace pc := Ext.trans pc pb))
    have KE := Lib.hid (K1.out.trans (Keep.dt pc))
    go_wp2_with fail
    exact fin_ hQ ⟨ret_i V.out.symm, KE.out⟩
  have V : Hid (stpT ds (rs.map sigR) sc (.mk 6 num into args ks) = ct) := by show _ = _; rw [V0.out, routS_con, HC.out]; rw [if_pos hc0, if_pos hd]
  have HD := Lib.hid hd
  clear hd hc0
  go_enter Tryz.func129, Tryz.ntmps129
  go_wp2_with fail
  refine (specHasNum _ _).mono ?_
  rintro e w0 ⟨rfl, rfl⟩
  go_wp2_with fail
  refine (specValidInto _ _ _ sc 6 num into _ _ _ _ _ _ _ _ (hv.k K0).toInts (by omega)).mono ?_
  rw [HI.out]
  rintro e w1 ⟨rfl, p1⟩
  have K1 := Lib.hid (K0.trans p1)
  have R0' := Lib.hid (row_ext R0 p1 (fun h => h))
  have R1' := Lib.hid (row_ext R1 p1 (fun h => h))
  have x0 := R0'.out.cell (i := 0) (by simp)
  have x1 := R0'.out.cell (i := 1) (by simp)
  have y0 := R1'.out.cell (i := 0) (by simp)
  have y1 := R1'.out.cell (i := 1) (by simp)
  have y2 := R1'.out.cell (i := 2) (by simp)
  have y3 := R1'.out.cell (i := 3) (by simp)
  have y4 := R1'.out.cell (i := 4) (by simp)
  simp at x0 x1 y0 y1 y2 y3 y4
  clear R0 R1 K0 p1
  go_wp2_with fail
  have qpd := (hp.k K1.out).kd
  have qvd := (hv.k K1.out).kd
  have qad := (ha.k K1.out).kd
  have pc := Ext.refl0 w1
  go_region_held3 (fun w' => w'.cell? ⟨w.heap.size, 0, none⟩ = some (.slice a0 n0 c0) ∧ w'.cell? ⟨w.heap.size + 1, 1, none⟩ = some (.int .i64 num) ∧ w'.cell? ⟨w.heap.size + 1, 3, none⟩ = some (.slice aa na ca))
    (first | exact ⟨Keep.at pc x0, Keep.at pc y1, Keep.at pc y3⟩ | go_keep)
    (first
      | (go_at_call 146; refine (specConType0 _ _ _ ds _ _ _ (Rd.toDecls (qpd.k pc).1) HF.out).mono ?_; rw [HC.out]; rintro e wz ⟨rfl, rfl⟩)
      | (go_at_call 148; refine (specConFields0 _ _ _ ds _ _ _ (Rd.toDecls (qpd.k pc).1) HF.out).mono ?_; rintro e wa ⟨fa, fm, fc, rfl, hfc, fi, pa⟩; replace pc := Ext.trans pc pa)
      | (go_at_call 183; refine (specTyped _ _ _ sc _ _ _ args _ _ _ (conFieldsL ds num) _ _ _ _ (qvd.k pc).toInts (qad.k pc).toInts fi (by omega) hna).mono ?_; rw [HD.out]; rintro e wb ⟨rfl, pb⟩; replace pc := Ext.trans pc pb))
  have KE := Lib.hid (K1.out.trans (Keep.dt pc))
  have u0 := Keep.at pc x0
  have u1 := Keep.at pc y1
  have qz := Lib.hid (hp.k KE.out)
  clear x0 x1 y0 y1 y2 y3 y4 pc qpd qvd qad
  go_wp2_with fail
  refine (specConType0 _ _ _ ds _ _ _ (Rd.toDecls qz.out.1) HF.out).mono ?_
  rw [HC.out]
  rintro e wz ⟨rfl, rfl⟩
  go_wp2_with fail
  exact fin_ hQ ⟨ret_i V.out.symm, KE.out⟩
end
end Go.Proofs.YtkapldpmjkdmcaaGreat
/- Cells that stay. -/
namespace Go.Proofs.YtkapldpmjkdmcaaGreat
open Go.RowKit

theorem Ext.cq {S : Nat → Prop} {w w' : World} (k : Ext S w w') {p : Addr} {v : Value} (h : w.cell? p = some v) (hp : ¬ S p.block) : w'.cell? p = some v := (k.cell (World.block_lt_of_cell? _ _ h) hp).trans h
theorem at_put2 {w : World} {s : Nat} {v0 v1 v : Value} {p : Addr} (h : w.cell? p = some v) (hp : p.block ≠ s) : ((w.setCell ⟨s, 0, none⟩ v0).setCell ⟨s, 1, none⟩ v1).cell? p = some v :=
  (Ext.setCell (S := fun q => q = s) (Ext.setCell (S := fun q => q = s) (Ext.refl _ w) (p := ⟨s, 0, none⟩) (.inr rfl) v0) (p := ⟨s, 1, none⟩) (.inr rfl) v1).cq h hp
end Go.Proofs.YtkapldpmjkdmcaaGreat
