/- The reference's types of steps. -/
import Derived.Test.YtmekdccgjgfiaaaQAO
namespace Go.Proofs.Ytmekdccgjgfiaaa
open Go.RowKit

section
variable (ds : List DeclL) (rs : List RoutL) (hok : sigsOk ds (rs.map sigR) = true)
include hok

set_option maxRecDepth 100000 in
set_option maxHeartbeats 4000000 in
theorem specSt_9_z (into : Int) (args : List Int) (ks : List BlockL) (IH0 : ∀ j, j < ks.length → BlS ds rs (bAt ks j).result (bAt ks j).steps) : StS ds rs (.mk 9 0 into args ks) := by
  intro a0 n0 c0 a1 n1 c1 av nv cv sc aa na ca ak nk ck w hp hv ha hk hlen hall
  refine calls_k fun Q hQ => ?_
  change Rd w (fun _ => True) (encInts args) _ at ha
  change Rd w (fun _ => True) (encBlocks ks) _ at hk
  rw [nS] at hlen
  simp only [StepL.op, StepL.num, StepL.into]
  have ht := (sigsOk_parts hok).1
  have hf := Few.of_ok ht
  have hd4 := typesOk_len ht
  have hr4 : rs.length ≤ 4 := by have := (sigsOk_parts hok).2.2.1; simpa using this
  have hn0 : n0 ≤ 4 := by have := (decls_at hp.1).1; omega
  have hnv : nv ≤ 1052000 := by have := (ints_at hv).1; omega
  have hna : na ≤ 9223372036854775807 := (ints_at ha).2.2.1
  have hnk : ks.length = nk := (blocks_at hk).1
  have hnl : args.length = na := (ints_at ha).1
  have K0 := (Keep.al w (.cells #[.slice a0 n0 c0, .slice a1 n1 c1] 36)).trans (Keep.al _ (.cells #[.int .i64 9, .int .i64 0, .int .i64 into, .slice aa na ca, .slice ak nk ck] 89))
  have R0 := (rowOf w #[.slice a0 n0 c0, .slice a1 n1 c1] 36).alloc (.cells #[.int .i64 9, .int .i64 0, .int .i64 into, .slice aa na ca, .slice ak nk ck] 89)
  have R1 := rowOf (w.alloc (.cells #[.slice a0 n0 c0, .slice a1 n1 c1] 36)) #[.int .i64 9, .int .i64 0, .int .i64 into, .slice aa na ca, .slice ak nk ck] 89
  simp only [World.size_alloc] at R1
  have HNK := Lib.hid hnk
  have HNL := Lib.hid hnl
  have HOK := Lib.hid hok
  have HAll := Lib.hid hall
  have HLen := Lib.hid hlen
  have HT := Lib.hid ht
  have HF := Lib.hid hf
  have IH := Lib.hid IH0
  clear hok hall ht IH0 hnk hnl hf
  cases hi : intoOk sc 9 into
  · have V : Hid (stpT ds (rs.map sigR) sc (.mk 9 0 into args ks) = -1) := stp_into _ _ _ _ _ _ _ _ hi
    have HI := Lib.hid hi
    clear hi
    go_enter Try.func44, Try.ntmps44
    go_wp2_with fail
    refine (specValidInto _ _ _ sc 9 0 into _ _ _ _ _ _ _ _ (hv.k K0).toInts (by omega)).mono ?_
    rw [HI.out]
    rintro e w1 ⟨rfl, p1⟩
    have K1 := Lib.hid (K0.trans p1)
    have R0' := Lib.hid (row_ext R0 p1 (fun h => h))
    have R1' := Lib.hid (row_ext R1 p1 (fun h => h))
    have x0 := R0'.out.cell (i := 0) (by simp)
    have x1 := R0'.out.cell (i := 1) (by simp)
    have y0 := R1'.out.cell (i := 0) (by simp)
    have y1 := R1'.out.cell (i := 1) (by simp)
    have y2 := R1'.out.cell (i := 2) (by simp)
    have y3 := R1'.out.cell (i := 3) (by simp)
    have y4 := R1'.out.cell (i := 4) (by simp)
    simp at x0 x1 y0 y1 y2 y3 y4
    clear R0 R1 K0 p1
    go_wp2_with fail
    exact fin_ hQ ⟨ret_i V.out.symm, K1.out⟩
  have HI := Lib.hid hi
  clear hi
  by_cases hk0 : nk = 0
  case neg =>
    have hk1 : 0 < nk := by omega
    have V : Hid (stpT ds (rs.map sigR) sc (.mk 9 0 into args ks) = -1) := stp_kids _ _ _ _ _ _ _ _ (by omega) (by omega) (by have := HNK.out; omega)
    clear hk0
    go_enter Try.func44, Try.ntmps44
    go_wp2_with fail
    refine (specValidInto _ _ _ sc 9 0 into _ _ _ _ _ _ _ _ (hv.k K0).toInts (by omega)).mono ?_
    rw [HI.out]
    rintro e w1 ⟨rfl, p1⟩
    have K1 := Lib.hid (K0.trans p1)
    have R0' := Lib.hid (row_ext R0 p1 (fun h => h))
    have R1' := Lib.hid (row_ext R1 p1 (fun h => h))
    have x0 := R0'.out.cell (i := 0) (by simp)
    have x1 := R0'.out.cell (i := 1) (by simp)
    have y0 := R1'.out.cell (i := 0) (by simp)
    have y1 := R1'.out.cell (i := 1) (by simp)
    have y2 := R1'.out.cell (i := 2) (by simp)
    have y3 := R1'.out.cell (i := 3) (by simp)
    have y4 := R1'.out.cell (i := 4) (by simp)
    simp at x0 x1 y0 y1 y2 y3 y4
    clear R0 R1 K0 p1
    go_wp2_with fail
    exact fin_ hQ ⟨ret_i V.out.symm, K1.out⟩
  subst hk0
  have V0 : Hid (stpT ds (rs.map sigR) sc (.mk 9 0 into args ks) = routS ds (rs.map sigR) sc 9 0 args) := stp_rout _ _ _ _ _ _ _ _ HI.out (by omega) (by omega) HNK.out
  go_enter Try.func44, Try.ntmps44
  go_wp2_with fail
  refine (specValidInto _ _ _ sc 9 0 into _ _ _ _ _ _ _ _ (hv.k K0).toInts (by omega)).mono ?_
  rw [HI.out]
  rintro e w1 ⟨rfl, p1⟩
  have K1 := Lib.hid (K0.trans p1)
  have R0' := Lib.hid (row_ext R0 p1 (fun h => h))
  have R1' := Lib.hid (row_ext R1 p1 (fun h => h))
  have x0 := R0'.out.cell (i := 0) (by simp)
  have x1 := R0'.out.cell (i := 1) (by simp)
  have y0 := R1'.out.cell (i := 0) (by simp)
  have y1 := R1'.out.cell (i := 1) (by simp)
  have y2 := R1'.out.cell (i := 2) (by simp)
  have y3 := R1'.out.cell (i := 3) (by simp)
  have y4 := R1'.out.cell (i := 4) (by simp)
  simp at x0 x1 y0 y1 y2 y3 y4
  clear R0 R1 K0 p1
  go_wp2_with fail
  refine (specRoutineType ds rs 9 0 into (by omega) _ _ _ _ _ _ _ _ _ sc _ _ _ args _ _ _ _ _ (hp.k K1.out) (hv.k K1.out) (ha.k K1.out) (by omega) hd4 hr4).mono ?_
  rintro e w2 ⟨rfl, p2⟩
  go_wp2_with fail
  exact fin_ hQ ⟨ret_i V0.out.symm, K1.out.trans p2⟩

set_option maxRecDepth 100000 in
set_option maxHeartbeats 4000000 in
theorem specSt_9_n (num : Int) (hn : num ≠ 0) (into : Int) (args : List Int) (ks : List BlockL) (IH0 : ∀ j, j < ks.length → BlS ds rs (bAt ks j).result (bAt ks j).steps) : StS ds rs (.mk 9 num into args ks) := by
  intro a0 n0 c0 a1 n1 c1 av nv cv sc aa na ca ak nk ck w hp hv ha hk hlen hall
  refine calls_k fun Q hQ => ?_
  change Rd w (fun _ => True) (encInts args) _ at ha
  change Rd w (fun _ => True) (encBlocks ks) _ at hk
  rw [nS] at hlen
  simp only [StepL.op, StepL.num, StepL.into]
  have ht := (sigsOk_parts hok).1
  have hf := Few.of_ok ht
  have hd4 := typesOk_len ht
  have hr4 : rs.length ≤ 4 := by have := (sigsOk_parts hok).2.2.1; simpa using this
  have hn0 : n0 ≤ 4 := by have := (decls_at hp.1).1; omega
  have hnv : nv ≤ 1052000 := by have := (ints_at hv).1; omega
  have hna : na ≤ 9223372036854775807 := (ints_at ha).2.2.1
  have hnk : ks.length = nk := (blocks_at hk).1
  have hnl : args.length = na := (ints_at ha).1
  have K0 := (Keep.al w (.cells #[.slice a0 n0 c0, .slice a1 n1 c1] 36)).trans (Keep.al _ (.cells #[.int .i64 9, .int .i64 num, .int .i64 into, .slice aa na ca, .slice ak nk ck] 89))
  have R0 := (rowOf w #[.slice a0 n0 c0, .slice a1 n1 c1] 36).alloc (.cells #[.int .i64 9, .int .i64 num, .int .i64 into, .slice aa na ca, .slice ak nk ck] 89)
  have R1 := rowOf (w.alloc (.cells #[.slice a0 n0 c0, .slice a1 n1 c1] 36)) #[.int .i64 9, .int .i64 num, .int .i64 into, .slice aa na ca, .slice ak nk ck] 89
  simp only [World.size_alloc] at R1
  have HNK := Lib.hid hnk
  have HNL := Lib.hid hnl
  have HOK := Lib.hid hok
  have HAll := Lib.hid hall
  have HLen := Lib.hid hlen
  have HT := Lib.hid ht
  have HF := Lib.hid hf
  have IH := Lib.hid IH0
  clear hok hall ht IH0 hnk hnl hf
  have hn' : (num != 0) = true := by simpa using hn
  clear hn
  cases hi : intoOk sc 9 into
  · have V : Hid (stpT ds (rs.map sigR) sc (.mk 9 num into args ks) = -1) := stp_into _ _ _ _ _ _ _ _ hi
    have HI := Lib.hid hi
    clear hi
    go_enter Try.func44, Try.ntmps44
    go_wp2_with fail
    refine (specHasNum _ _).mono ?_
    rintro e w0 ⟨rfl, rfl⟩
    go_wp2_with fail
    refine (specValidInto _ _ _ sc 9 num into _ _ _ _ _ _ _ _ (hv.k K0).toInts (by omega)).mono ?_
    rw [HI.out]
    rintro e w1 ⟨rfl, p1⟩
    have K1 := Lib.hid (K0.trans p1)
    have R0' := Lib.hid (row_ext R0 p1 (fun h => h))
    have R1' := Lib.hid (row_ext R1 p1 (fun h => h))
    have x0 := R0'.out.cell (i := 0) (by simp)
    have x1 := R0'.out.cell (i := 1) (by simp)
    have y0 := R1'.out.cell (i := 0) (by simp)
    have y1 := R1'.out.cell (i := 1) (by simp)
    have y2 := R1'.out.cell (i := 2) (by simp)
    have y3 := R1'.out.cell (i := 3) (by simp)
    have y4 := R1'.out.cell (i := 4) (by simp)
    simp at x0 x1 y0 y1 y2 y3 y4
    clear R0 R1 K0 p1
    go_wp2_with fail
    exact fin_ hQ ⟨ret_i V.out.symm, K1.out⟩
  have HI := Lib.hid hi
  clear hi
  by_cases hk0 : nk = 0
  case neg =>
    have hk1 : 0 < nk := by omega
    have V : Hid (stpT ds (rs.map sigR) sc (.mk 9 num into args ks) = -1) := stp_kids _ _ _ _ _ _ _ _ (by omega) (by omega) (by have := HNK.out; omega)
    clear hk0
    go_enter Try.func44, Try.ntmps44
    go_wp2_with fail
    refine (specHasNum _ _).mono ?_
    rintro e w0 ⟨rfl, rfl⟩
    go_wp2_with fail
    refine (specValidInto _ _ _ sc 9 num into _ _ _ _ _ _ _ _ (hv.k K0).toInts (by omega)).mono ?_
    rw [HI.out]
    rintro e w1 ⟨rfl, p1⟩
    have K1 := Lib.hid (K0.trans p1)
    have R0' := Lib.hid (row_ext R0 p1 (fun h => h))
    have R1' := Lib.hid (row_ext R1 p1 (fun h => h))
    have x0 := R0'.out.cell (i := 0) (by simp)
    have x1 := R0'.out.cell (i := 1) (by simp)
    have y0 := R1'.out.cell (i := 0) (by simp)
    have y1 := R1'.out.cell (i := 1) (by simp)
    have y2 := R1'.out.cell (i := 2) (by simp)
    have y3 := R1'.out.cell (i := 3) (by simp)
    have y4 := R1'.out.cell (i := 4) (by simp)
    simp at x0 x1 y0 y1 y2 y3 y4
    clear R0 R1 K0 p1
    go_wp2_with fail
    exact fin_ hQ ⟨ret_i V.out.symm, K1.out⟩
  subst hk0
  have V0 : Hid (stpT ds (rs.map sigR) sc (.mk 9 num into args ks) = routS ds (rs.map sigR) sc 9 num args) := stp_rout _ _ _ _ _ _ _ _ HI.out (by omega) (by omega) HNK.out
  go_enter Try.func44, Try.ntmps44
  go_wp2_with fail
  refine (specHasNum _ _).mono ?_
  rintro e w0 ⟨rfl, rfl⟩
  go_wp2_with fail
  refine (specValidInto _ _ _ sc 9 num into _ _ _ _ _ _ _ _ (hv.k K0).toInts (by omega)).mono ?_
  rw [HI.out]
  rintro e w1 ⟨rfl, p1⟩
  have K1 := Lib.hid (K0.trans p1)
  have R0' := Lib.hid (row_ext R0 p1 (fun h => h))
  have R1' := Lib.hid (row_ext R1 p1 (fun h => h))
  have x0 := R0'.out.cell (i := 0) (by simp)
  have x1 := R0'.out.cell (i := 1) (by simp)
  have y0 := R1'.out.cell (i := 0) (by simp)
  have y1 := R1'.out.cell (i := 1) (by simp)
  have y2 := R1'.out.cell (i := 2) (by simp)
  have y3 := R1'.out.cell (i := 3) (by simp)
  have y4 := R1'.out.cell (i := 4) (by simp)
  simp at x0 x1 y0 y1 y2 y3 y4
  clear R0 R1 K0 p1
  go_wp2_with fail
  refine (specRoutineType ds rs 9 num into (by omega) _ _ _ _ _ _ _ _ _ sc _ _ _ args _ _ _ _ _ (hp.k K1.out) (hv.k K1.out) (ha.k K1.out) (by omega) hd4 hr4).mono ?_
  rintro e w2 ⟨rfl, p2⟩
  go_wp2_with fail
  exact fin_ hQ ⟨ret_i V0.out.symm, K1.out.trans p2⟩

set_option maxRecDepth 100000 in
set_option maxHeartbeats 4000000 in
theorem specSt_10_z (into : Int) (args : List Int) (ks : List BlockL) (IH0 : ∀ j, j < ks.length → BlS ds rs (bAt ks j).result (bAt ks j).steps) : StS ds rs (.mk 10 0 into args ks) := by
  intro a0 n0 c0 a1 n1 c1 av nv cv sc aa na ca ak nk ck w hp hv ha hk hlen hall
  refine calls_k fun Q hQ => ?_
  change Rd w (fun _ => True) (encInts args) _ at ha
  change Rd w (fun _ => True) (encBlocks ks) _ at hk
  rw [nS] at hlen
  simp only [StepL.op, StepL.num, StepL.into]
  have ht := (sigsOk_parts hok).1
  have hf := Few.of_ok ht
  have hd4 := typesOk_len ht
  have hr4 : rs.length ≤ 4 := by have := (sigsOk_parts hok).2.2.1; simpa using this
  have hn0 : n0 ≤ 4 := by have := (decls_at hp.1).1; omega
  have hnv : nv ≤ 1052000 := by have := (ints_at hv).1; omega
  have hna : na ≤ 9223372036854775807 := (ints_at ha).2.2.1
  have hnk : ks.length = nk := (blocks_at hk).1
  have hnl : args.length = na := (ints_at ha).1
  have K0 := (Keep.al w (.cells #[.slice a0 n0 c0, .slice a1 n1 c1] 36)).trans (Keep.al _ (.cells #[.int .i64 10, .int .i64 0, .int .i64 into, .slice aa na ca, .slice ak nk ck] 89))
  have R0 := (rowOf w #[.slice a0 n0 c0, .slice a1 n1 c1] 36).alloc (.cells #[.int .i64 10, .int .i64 0, .int .i64 into, .slice aa na ca, .slice ak nk ck] 89)
  have R1 := rowOf (w.alloc (.cells #[.slice a0 n0 c0, .slice a1 n1 c1] 36)) #[.int .i64 10, .int .i64 0, .int .i64 into, .slice aa na ca, .slice ak nk ck] 89
  simp only [World.size_alloc] at R1
  have HNK := Lib.hid hnk
  have HNL := Lib.hid hnl
  have HOK := Lib.hid hok
  have HAll := Lib.hid hall
  have HLen := Lib.hid hlen
  have HT := Lib.hid ht
  have HF := Lib.hid hf
  have IH := Lib.hid IH0
  clear hok hall ht IH0 hnk hnl hf
  cases hi : intoOk sc 10 into
  · have V : Hid (stpT ds (rs.map sigR) sc (.mk 10 0 into args ks) = -1) := stp_into _ _ _ _ _ _ _ _ hi
    have HI := Lib.hid hi
    clear hi
    go_enter Try.func44, Try.ntmps44
    go_wp2_with fail
    refine (specValidInto _ _ _ sc 10 0 into _ _ _ _ _ _ _ _ (hv.k K0).toInts (by omega)).mono ?_
    rw [HI.out]
    rintro e w1 ⟨rfl, p1⟩
    have K1 := Lib.hid (K0.trans p1)
    have R0' := Lib.hid (row_ext R0 p1 (fun h => h))
    have R1' := Lib.hid (row_ext R1 p1 (fun h => h))
    have x0 := R0'.out.cell (i := 0) (by simp)
    have x1 := R0'.out.cell (i := 1) (by simp)
    have y0 := R1'.out.cell (i := 0) (by simp)
    have y1 := R1'.out.cell (i := 1) (by simp)
    have y2 := R1'.out.cell (i := 2) (by simp)
    have y3 := R1'.out.cell (i := 3) (by simp)
    have y4 := R1'.out.cell (i := 4) (by simp)
    simp at x0 x1 y0 y1 y2 y3 y4
    clear R0 R1 K0 p1
    go_wp2_with fail
    exact fin_ hQ ⟨ret_i V.out.symm, K1.out⟩
  have HI := Lib.hid hi
  clear hi
  by_cases hk0 : nk = 0
  case neg =>
    have hk1 : 0 < nk := by omega
    have V : Hid (stpT ds (rs.map sigR) sc (.mk 10 0 into args ks) = -1) := stp_kids _ _ _ _ _ _ _ _ (by omega) (by omega) (by have := HNK.out; omega)
    clear hk0
    go_enter Try.func44, Try.ntmps44
    go_wp2_with fail
    refine (specValidInto _ _ _ sc 10 0 into _ _ _ _ _ _ _ _ (hv.k K0).toInts (by omega)).mono ?_
    rw [HI.out]
    rintro e w1 ⟨rfl, p1⟩
    have K1 := Lib.hid (K0.trans p1)
    have R0' := Lib.hid (row_ext R0 p1 (fun h => h))
    have R1' := Lib.hid (row_ext R1 p1 (fun h => h))
    have x0 := R0'.out.cell (i := 0) (by simp)
    have x1 := R0'.out.cell (i := 1) (by simp)
    have y0 := R1'.out.cell (i := 0) (by simp)
    have y1 := R1'.out.cell (i := 1) (by simp)
    have y2 := R1'.out.cell (i := 2) (by simp)
    have y3 := R1'.out.cell (i := 3) (by simp)
    have y4 := R1'.out.cell (i := 4) (by simp)
    simp at x0 x1 y0 y1 y2 y3 y4
    clear R0 R1 K0 p1
    go_wp2_with fail
    exact fin_ hQ ⟨ret_i V.out.symm, K1.out⟩
  subst hk0
  have V0 : Hid (stpT ds (rs.map sigR) sc (.mk 10 0 into args ks) = routS ds (rs.map sigR) sc 10 0 args) := stp_rout _ _ _ _ _ _ _ _ HI.out (by omega) (by omega) HNK.out
  go_enter Try.func44, Try.ntmps44
  go_wp2_with fail
  refine (specValidInto _ _ _ sc 10 0 into _ _ _ _ _ _ _ _ (hv.k K0).toInts (by omega)).mono ?_
  rw [HI.out]
  rintro e w1 ⟨rfl, p1⟩
  have K1 := Lib.hid (K0.trans p1)
  have R0' := Lib.hid (row_ext R0 p1 (fun h => h))
  have R1' := Lib.hid (row_ext R1 p1 (fun h => h))
  have x0 := R0'.out.cell (i := 0) (by simp)
  have x1 := R0'.out.cell (i := 1) (by simp)
  have y0 := R1'.out.cell (i := 0) (by simp)
  have y1 := R1'.out.cell (i := 1) (by simp)
  have y2 := R1'.out.cell (i := 2) (by simp)
  have y3 := R1'.out.cell (i := 3) (by simp)
  have y4 := R1'.out.cell (i := 4) (by simp)
  simp at x0 x1 y0 y1 y2 y3 y4
  clear R0 R1 K0 p1
  go_wp2_with fail
  refine (specRoutineType ds rs 10 0 into (by omega) _ _ _ _ _ _ _ _ _ sc _ _ _ args _ _ _ _ _ (hp.k K1.out) (hv.k K1.out) (ha.k K1.out) (by omega) hd4 hr4).mono ?_
  rintro e w2 ⟨rfl, p2⟩
  go_wp2_with fail
  exact fin_ hQ ⟨ret_i V0.out.symm, K1.out.trans p2⟩

set_option maxRecDepth 100000 in
set_option maxHeartbeats 4000000 in
theorem specSt_10_n (num : Int) (hn : num ≠ 0) (into : Int) (args : List Int) (ks : List BlockL) (IH0 : ∀ j, j < ks.length → BlS ds rs (bAt ks j).result (bAt ks j).steps) : StS ds rs (.mk 10 num into args ks) := by
  intro a0 n0 c0 a1 n1 c1 av nv cv sc aa na ca ak nk ck w hp hv ha hk hlen hall
  refine calls_k fun Q hQ => ?_
  change Rd w (fun _ => True) (encInts args) _ at ha
  change Rd w (fun _ => True) (encBlocks ks) _ at hk
  rw [nS] at hlen
  simp only [StepL.op, StepL.num, StepL.into]
  have ht := (sigsOk_parts hok).1
  have hf := Few.of_ok ht
  have hd4 := typesOk_len ht
  have hr4 : rs.length ≤ 4 := by have := (sigsOk_parts hok).2.2.1; simpa using this
  have hn0 : n0 ≤ 4 := by have := (decls_at hp.1).1; omega
  have hnv : nv ≤ 1052000 := by have := (ints_at hv).1; omega
  have hna : na ≤ 9223372036854775807 := (ints_at ha).2.2.1
  have hnk : ks.length = nk := (blocks_at hk).1
  have hnl : args.length = na := (ints_at ha).1
  have K0 := (Keep.al w (.cells #[.slice a0 n0 c0, .slice a1 n1 c1] 36)).trans (Keep.al _ (.cells #[.int .i64 10, .int .i64 num, .int .i64 into, .slice aa na ca, .slice ak nk ck] 89))
  have R0 := (rowOf w #[.slice a0 n0 c0, .slice a1 n1 c1] 36).alloc (.cells #[.int .i64 10, .int .i64 num, .int .i64 into, .slice aa na ca, .slice ak nk ck] 89)
  have R1 := rowOf (w.alloc (.cells #[.slice a0 n0 c0, .slice a1 n1 c1] 36)) #[.int .i64 10, .int .i64 num, .int .i64 into, .slice aa na ca, .slice ak nk ck] 89
  simp only [World.size_alloc] at R1
  have HNK := Lib.hid hnk
  have HNL := Lib.hid hnl
  have HOK := Lib.hid hok
  have HAll := Lib.hid hall
  have HLen := Lib.hid hlen
  have HT := Lib.hid ht
  have HF := Lib.hid hf
  have IH := Lib.hid IH0
  clear hok hall ht IH0 hnk hnl hf
  have hn' : (num != 0) = true := by simpa using hn
  clear hn
  cases hi : intoOk sc 10 into
  · have V : Hid (stpT ds (rs.map sigR) sc (.mk 10 num into args ks) = -1) := stp_into _ _ _ _ _ _ _ _ hi
    have HI := Lib.hid hi
    clear hi
    go_enter Try.func44, Try.ntmps44
    go_wp2_with fail
    refine (specHasNum _ _).mono ?_
    rintro e w0 ⟨rfl, rfl⟩
    go_wp2_with fail
    refine (specValidInto _ _ _ sc 10 num into _ _ _ _ _ _ _ _ (hv.k K0).toInts (by omega)).mono ?_
    rw [HI.out]
    rintro e w1 ⟨rfl, p1⟩
    have K1 := Lib.hid (K0.trans p1)
    have R0' := Lib.hid (row_ext R0 p1 (fun h => h))
    have R1' := Lib.hid (row_ext R1 p1 (fun h => h))
    have x0 := R0'.out.cell (i := 0) (by simp)
    have x1 := R0'.out.cell (i := 1) (by simp)
    have y0 := R1'.out.cell (i := 0) (by simp)
    have y1 := R1'.out.cell (i := 1) (by simp)
    have y2 := R1'.out.cell (i := 2) (by simp)
    have y3 := R1'.out.cell (i := 3) (by simp)
    have y4 := R1'.out.cell (i := 4) (by simp)
    simp at x0 x1 y0 y1 y2 y3 y4
    clear R0 R1 K0 p1
    go_wp2_with fail
    exact fin_ hQ ⟨ret_i V.out.symm, K1.out⟩
  have HI := Lib.hid hi
  clear hi
  by_cases hk0 : nk = 0
  case neg =>
    have hk1 : 0 < nk := by omega
    have V : Hid (stpT ds (rs.map sigR) sc (.mk 10 num into args ks) = -1) := stp_kids _ _ _ _ _ _ _ _ (by omega) (by omega) (by have := HNK.out; omega)
    clear hk0
    go_enter Try.func44, Try.ntmps44
    go_wp2_with fail
    refine (specHasNum _ _).mono ?_
    rintro e w0 ⟨rfl, rfl⟩
    go_wp2_with fail
    refine (specValidInto _ _ _ sc 10 num into _ _ _ _ _ _ _ _ (hv.k K0).toInts (by omega)).mono ?_
    rw [HI.out]
    rintro e w1 ⟨rfl, p1⟩
    have K1 := Lib.hid (K0.trans p1)
    have R0' := Lib.hid (row_ext R0 p1 (fun h => h))
    have R1' := Lib.hid (row_ext R1 p1 (fun h => h))
    have x0 := R0'.out.cell (i := 0) (by simp)
    have x1 := R0'.out.cell (i := 1) (by simp)
    have y0 := R1'.out.cell (i := 0) (by simp)
    have y1 := R1'.out.cell (i := 1) (by simp)
    have y2 := R1'.out.cell (i := 2) (by simp)
    have y3 := R1'.out.cell (i := 3) (by simp)
    have y4 := R1'.out.cell (i := 4) (by simp)
    simp at x0 x1 y0 y1 y2 y3 y4
    clear R0 R1 K0 p1
    go_wp2_with fail
    exact fin_ hQ ⟨ret_i V.out.symm, K1.out⟩
  subst hk0
  have V0 : Hid (stpT ds (rs.map sigR) sc (.mk 10 num into args ks) = routS ds (rs.map sigR) sc 10 num args) := stp_rout _ _ _ _ _ _ _ _ HI.out (by omega) (by omega) HNK.out
  go_enter Try.func44, Try.ntmps44
  go_wp2_with fail
  refine (specHasNum _ _).mono ?_
  rintro e w0 ⟨rfl, rfl⟩
  go_wp2_with fail
  refine (specValidInto _ _ _ sc 10 num into _ _ _ _ _ _ _ _ (hv.k K0).toInts (by omega)).mono ?_
  rw [HI.out]
  rintro e w1 ⟨rfl, p1⟩
  have K1 := Lib.hid (K0.trans p1)
  have R0' := Lib.hid (row_ext R0 p1 (fun h => h))
  have R1' := Lib.hid (row_ext R1 p1 (fun h => h))
  have x0 := R0'.out.cell (i := 0) (by simp)
  have x1 := R0'.out.cell (i := 1) (by simp)
  have y0 := R1'.out.cell (i := 0) (by simp)
  have y1 := R1'.out.cell (i := 1) (by simp)
  have y2 := R1'.out.cell (i := 2) (by simp)
  have y3 := R1'.out.cell (i := 3) (by simp)
  have y4 := R1'.out.cell (i := 4) (by simp)
  simp at x0 x1 y0 y1 y2 y3 y4
  clear R0 R1 K0 p1
  go_wp2_with fail
  refine (specRoutineType ds rs 10 num into (by omega) _ _ _ _ _ _ _ _ _ sc _ _ _ args _ _ _ _ _ (hp.k K1.out) (hv.k K1.out) (ha.k K1.out) (by omega) hd4 hr4).mono ?_
  rintro e w2 ⟨rfl, p2⟩
  go_wp2_with fail
  exact fin_ hQ ⟨ret_i V0.out.symm, K1.out.trans p2⟩

set_option maxRecDepth 100000 in
set_option maxHeartbeats 4000000 in
theorem specSt_14 (into : Int) (args : List Int) (ks : List BlockL) (IH0 : ∀ j, j < ks.length → BlS ds rs (bAt ks j).result (bAt ks j).steps) : StS ds rs (.mk 14 0 into args ks) := by
  intro a0 n0 c0 a1 n1 c1 av nv cv sc aa na ca ak nk ck w hp hv ha hk hlen hall
  refine calls_k fun Q hQ => ?_
  change Rd w (fun _ => True) (encInts args) _ at ha
  change Rd w (fun _ => True) (encBlocks ks) _ at hk
  rw [nS] at hlen
  simp only [StepL.op, StepL.num, StepL.into]
  have ht := (sigsOk_parts hok).1
  have hf := Few.of_ok ht
  have hd4 := typesOk_len ht
  have hr4 : rs.length ≤ 4 := by have := (sigsOk_parts hok).2.2.1; simpa using this
  have hn0 : n0 ≤ 4 := by have := (decls_at hp.1).1; omega
  have hnv : nv ≤ 1052000 := by have := (ints_at hv).1; omega
  have hna : na ≤ 9223372036854775807 := (ints_at ha).2.2.1
  have hnk : ks.length = nk := (blocks_at hk).1
  have hnl : args.length = na := (ints_at ha).1
  have K0 := (Keep.al w (.cells #[.slice a0 n0 c0, .slice a1 n1 c1] 36)).trans (Keep.al _ (.cells #[.int .i64 14, .int .i64 0, .int .i64 into, .slice aa na ca, .slice ak nk ck] 89))
  have R0 := (rowOf w #[.slice a0 n0 c0, .slice a1 n1 c1] 36).alloc (.cells #[.int .i64 14, .int .i64 0, .int .i64 into, .slice aa na ca, .slice ak nk ck] 89)
  have R1 := rowOf (w.alloc (.cells #[.slice a0 n0 c0, .slice a1 n1 c1] 36)) #[.int .i64 14, .int .i64 0, .int .i64 into, .slice aa na ca, .slice ak nk ck] 89
  simp only [World.size_alloc] at R1
  have HNK := Lib.hid hnk
  have HNL := Lib.hid hnl
  have HOK := Lib.hid hok
  have HAll := Lib.hid hall
  have HLen := Lib.hid hlen
  have HT := Lib.hid ht
  have HF := Lib.hid hf
  have IH := Lib.hid IH0
  clear hok hall ht IH0 hnk hnl hf
  cases hi : intoOk sc 14 into
  · have V : Hid (stpT ds (rs.map sigR) sc (.mk 14 0 into args ks) = -1) := stp_into _ _ _ _ _ _ _ _ hi
    have HI := Lib.hid hi
    clear hi
    go_enter Try.func44, Try.ntmps44
    go_wp2_with fail
    refine (specValidInto _ _ _ sc 14 0 into _ _ _ _ _ _ _ _ (hv.k K0).toInts (by omega)).mono ?_
    rw [HI.out]
    rintro e w1 ⟨rfl, p1⟩
    have K1 := Lib.hid (K0.trans p1)
    have R0' := Lib.hid (row_ext R0 p1 (fun h => h))
    have R1' := Lib.hid (row_ext R1 p1 (fun h => h))
    have x0 := R0'.out.cell (i := 0) (by simp)
    have x1 := R0'.out.cell (i := 1) (by simp)
    have y0 := R1'.out.cell (i := 0) (by simp)
    have y1 := R1'.out.cell (i := 1) (by simp)
    have y2 := R1'.out.cell (i := 2) (by simp)
    have y3 := R1'.out.cell (i := 3) (by simp)
    have y4 := R1'.out.cell (i := 4) (by simp)
    simp at x0 x1 y0 y1 y2 y3 y4
    clear R0 R1 K0 p1
    go_wp2_with fail
    exact fin_ hQ ⟨ret_i V.out.symm, K1.out⟩
  have HI := Lib.hid hi
  clear hi
  by_cases hk0 : nk = 0
  case neg =>
    have hk1 : 0 < nk := by omega
    have V : Hid (stpT ds (rs.map sigR) sc (.mk 14 0 into args ks) = -1) := stp_kids _ _ _ _ _ _ _ _ (by omega) (by omega) (by have := HNK.out; omega)
    clear hk0
    go_enter Try.func44, Try.ntmps44
    go_wp2_with fail
    refine (specValidInto _ _ _ sc 14 0 into _ _ _ _ _ _ _ _ (hv.k K0).toInts (by omega)).mono ?_
    rw [HI.out]
    rintro e w1 ⟨rfl, p1⟩
    have K1 := Lib.hid (K0.trans p1)
    have R0' := Lib.hid (row_ext R0 p1 (fun h => h))
    have R1' := Lib.hid (row_ext R1 p1 (fun h => h))
    have x0 := R0'.out.cell (i := 0) (by simp)
    have x1 := R0'.out.cell (i := 1) (by simp)
    have y0 := R1'.out.cell (i := 0) (by simp)
    have y1 := R1'.out.cell (i := 1) (by simp)
    have y2 := R1'.out.cell (i := 2) (by simp)
    have y3 := R1'.out.cell (i := 3) (by simp)
    have y4 := R1'.out.cell (i := 4) (by simp)
    simp at x0 x1 y0 y1 y2 y3 y4
    clear R0 R1 K0 p1
    go_wp2_with fail
    exact fin_ hQ ⟨ret_i V.out.symm, K1.out⟩
  subst hk0
  have V0 : Hid (stpT ds (rs.map sigR) sc (.mk 14 0 into args ks) = routS ds (rs.map sigR) sc 14 0 args) := stp_rout _ _ _ _ _ _ _ _ HI.out (by omega) (by omega) HNK.out
  have V : Hid (stpT ds (rs.map sigR) sc (.mk 14 0 into args ks) = cntS ds sc 14 args) := by show _ = _; rw [V0.out, routS_cnt _ _ _ _ (by omega)]
  go_enter Try.func44, Try.ntmps44
  go_wp2_with fail
  refine (specValidInto _ _ _ sc 14 0 into _ _ _ _ _ _ _ _ (hv.k K0).toInts (by omega)).mono ?_
  rw [HI.out]
  rintro e w1 ⟨rfl, p1⟩
  have K1 := Lib.hid (K0.trans p1)
  have R0' := Lib.hid (row_ext R0 p1 (fun h => h))
  have R1' := Lib.hid (row_ext R1 p1 (fun h => h))
  have x0 := R0'.out.cell (i := 0) (by simp)
  have x1 := R0'.out.cell (i := 1) (by simp)
  have y0 := R1'.out.cell (i := 0) (by simp)
  have y1 := R1'.out.cell (i := 1) (by simp)
  have y2 := R1'.out.cell (i := 2) (by simp)
  have y3 := R1'.out.cell (i := 3) (by simp)
  have y4 := R1'.out.cell (i := 4) (by simp)
  simp at x0 x1 y0 y1 y2 y3 y4
  clear R0 R1 K0 p1
  go_wp2_with fail
  refine (specCountingType ds _ _ _ _ _ _ _ _ _ sc 14 0 into _ _ _ args _ _ _ _ _ _ _ (hp.k K1.out).1 (by omega) (hv.k K1.out).toInts (by omega) (ha.k K1.out).toInts).mono ?_
  rintro e w2 ⟨rfl, p2⟩
  go_wp2_with fail
  exact fin_ hQ ⟨ret_i V.out.symm, K1.out.trans p2⟩

set_option maxRecDepth 100000 in
set_option maxHeartbeats 4000000 in
theorem specSt_15 (into : Int) (args : List Int) (ks : List BlockL) (IH0 : ∀ j, j < ks.length → BlS ds rs (bAt ks j).result (bAt ks j).steps) : StS ds rs (.mk 15 0 into args ks) := by
  intro a0 n0 c0 a1 n1 c1 av nv cv sc aa na ca ak nk ck w hp hv ha hk hlen hall
  refine calls_k fun Q hQ => ?_
  change Rd w (fun _ => True) (encInts args) _ at ha
  change Rd w (fun _ => True) (encBlocks ks) _ at hk
  rw [nS] at hlen
  simp only [StepL.op, StepL.num, StepL.into]
  have ht := (sigsOk_parts hok).1
  have hf := Few.of_ok ht
  have hd4 := typesOk_len ht
  have hr4 : rs.length ≤ 4 := by have := (sigsOk_parts hok).2.2.1; simpa using this
  have hn0 : n0 ≤ 4 := by have := (decls_at hp.1).1; omega
  have hnv : nv ≤ 1052000 := by have := (ints_at hv).1; omega
  have hna : na ≤ 9223372036854775807 := (ints_at ha).2.2.1
  have hnk : ks.length = nk := (blocks_at hk).1
  have hnl : args.length = na := (ints_at ha).1
  have K0 := (Keep.al w (.cells #[.slice a0 n0 c0, .slice a1 n1 c1] 36)).trans (Keep.al _ (.cells #[.int .i64 15, .int .i64 0, .int .i64 into, .slice aa na ca, .slice ak nk ck] 89))
  have R0 := (rowOf w #[.slice a0 n0 c0, .slice a1 n1 c1] 36).alloc (.cells #[.int .i64 15, .int .i64 0, .int .i64 into, .slice aa na ca, .slice ak nk ck] 89)
  have R1 := rowOf (w.alloc (.cells #[.slice a0 n0 c0, .slice a1 n1 c1] 36)) #[.int .i64 15, .int .i64 0, .int .i64 into, .slice aa na ca, .slice ak nk ck] 89
  simp only [World.size_alloc] at R1
  have HNK := Lib.hid hnk
  have HNL := Lib.hid hnl
  have HOK := Lib.hid hok
  have HAll := Lib.hid hall
  have HLen := Lib.hid hlen
  have HT := Lib.hid ht
  have HF := Lib.hid hf
  have IH := Lib.hid IH0
  clear hok hall ht IH0 hnk hnl hf
  cases hi : intoOk sc 15 into
  · have V : Hid (stpT ds (rs.map sigR) sc (.mk 15 0 into args ks) = -1) := stp_into _ _ _ _ _ _ _ _ hi
    have HI := Lib.hid hi
    clear hi
    go_enter Try.func44, Try.ntmps44
    go_wp2_with fail
    refine (specValidInto _ _ _ sc 15 0 into _ _ _ _ _ _ _ _ (hv.k K0).toInts (by omega)).mono ?_
    rw [HI.out]
    rintro e w1 ⟨rfl, p1⟩
    have K1 := Lib.hid (K0.trans p1)
    have R0' := Lib.hid (row_ext R0 p1 (fun h => h))
    have R1' := Lib.hid (row_ext R1 p1 (fun h => h))
    have x0 := R0'.out.cell (i := 0) (by simp)
    have x1 := R0'.out.cell (i := 1) (by simp)
    have y0 := R1'.out.cell (i := 0) (by simp)
    have y1 := R1'.out.cell (i := 1) (by simp)
    have y2 := R1'.out.cell (i := 2) (by simp)
    have y3 := R1'.out.cell (i := 3) (by simp)
    have y4 := R1'.out.cell (i := 4) (by simp)
    simp at x0 x1 y0 y1 y2 y3 y4
    clear R0 R1 K0 p1
    go_wp2_with fail
    exact fin_ hQ ⟨ret_i V.out.symm, K1.out⟩
  have HI := Lib.hid hi
  clear hi
  by_cases hk0 : nk = 0
  case neg =>
    have hk1 : 0 < nk := by omega
    have V : Hid (stpT ds (rs.map sigR) sc (.mk 15 0 into args ks) = -1) := stp_kids _ _ _ _ _ _ _ _ (by omega) (by omega) (by have := HNK.out; omega)
    clear hk0
    go_enter Try.func44, Try.ntmps44
    go_wp2_with fail
    refine (specValidInto _ _ _ sc 15 0 into _ _ _ _ _ _ _ _ (hv.k K0).toInts (by omega)).mono ?_
    rw [HI.out]
    rintro e w1 ⟨rfl, p1⟩
    have K1 := Lib.hid (K0.trans p1)
    have R0' := Lib.hid (row_ext R0 p1 (fun h => h))
    have R1' := Lib.hid (row_ext R1 p1 (fun h => h))
    have x0 := R0'.out.cell (i := 0) (by simp)
    have x1 := R0'.out.cell (i := 1) (by simp)
    have y0 := R1'.out.cell (i := 0) (by simp)
    have y1 := R1'.out.cell (i := 1) (by simp)
    have y2 := R1'.out.cell (i := 2) (by simp)
    have y3 := R1'.out.cell (i := 3) (by simp)
    have y4 := R1'.out.cell (i := 4) (by simp)
    simp at x0 x1 y0 y1 y2 y3 y4
    clear R0 R1 K0 p1
    go_wp2_with fail
    exact fin_ hQ ⟨ret_i V.out.symm, K1.out⟩
  subst hk0
  have V0 : Hid (stpT ds (rs.map sigR) sc (.mk 15 0 into args ks) = routS ds (rs.map sigR) sc 15 0 args) := stp_rout _ _ _ _ _ _ _ _ HI.out (by omega) (by omega) HNK.out
  have V : Hid (stpT ds (rs.map sigR) sc (.mk 15 0 into args ks) = cntS ds sc 15 args) := by show _ = _; rw [V0.out, routS_cnt _ _ _ _ (by omega)]
  go_enter Try.func44, Try.ntmps44
  go_wp2_with fail
  refine (specValidInto _ _ _ sc 15 0 into _ _ _ _ _ _ _ _ (hv.k K0).toInts (by omega)).mono ?_
  rw [HI.out]
  rintro e w1 ⟨rfl, p1⟩
  have K1 := Lib.hid (K0.trans p1)
  have R0' := Lib.hid (row_ext R0 p1 (fun h => h))
  have R1' := Lib.hid (row_ext R1 p1 (fun h => h))
  have x0 := R0'.out.cell (i := 0) (by simp)
  have x1 := R0'.out.cell (i := 1) (by simp)
  have y0 := R1'.out.cell (i := 0) (by simp)
  have y1 := R1'.out.cell (i := 1) (by simp)
  have y2 := R1'.out.cell (i := 2) (by simp)
  have y3 := R1'.out.cell (i := 3) (by simp)
  have y4 := R1'.out.cell (i := 4) (by simp)
  simp at x0 x1 y0 y1 y2 y3 y4
  clear R0 R1 K0 p1
  go_wp2_with fail
  refine (specCountingType ds _ _ _ _ _ _ _ _ _ sc 15 0 into _ _ _ args _ _ _ _ _ _ _ (hp.k K1.out).1 (by omega) (hv.k K1.out).toInts (by omega) (ha.k K1.out).toInts).mono ?_
  rintro e w2 ⟨rfl, p2⟩
  go_wp2_with fail
  exact fin_ hQ ⟨ret_i V.out.symm, K1.out.trans p2⟩
end
end Go.Proofs.Ytmekdccgjgfiaaa
