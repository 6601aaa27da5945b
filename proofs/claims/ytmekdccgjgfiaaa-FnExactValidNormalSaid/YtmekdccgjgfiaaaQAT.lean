/- The reference's types of steps: constructors. -/
import Derived.Test.YtmekdccgjgfiaaaQAO
namespace Go.Proofs.Ytmekdccgjgfiaaa
open Go.RowKit

section
variable (ds : List DeclL) (rs : List RoutL) (hok : sigsOk ds (rs.map sigR) = true)
include hok

set_option maxRecDepth 100000 in
set_option maxHeartbeats 4000000 in
theorem specSt_6_z (into : Int) (args : List Int) (ks : List BlockL) (IH0 : ∀ j, j < ks.length → BlS ds rs (bAt ks j).result (bAt ks j).steps) : StS ds rs (.mk 6 0 into args ks) := by
  intro a0 n0 c0 a1 n1 c1 av nv cv sc aa na ca ak nk ck w hp hv ha hk hlen hall
  refine calls_k fun Q hQ => ?_
  change Rd w (fun _ => True) (encInts args) _ at ha
  change Rd w (fun _ => True) (encBlocks ks) _ at hk
  rw [nS] at hlen
  simp only [StepL.op, StepL.num, StepL.into]
  have ht := (sigsOk_parts hok).1
  have hf := Few.of_ok ht
  have hd4 := typesOk_len ht
  have hr4 : rs.length ≤ 4 := by have := (sigsOk_parts hok).2.2.1; simpa using this
  have hn0 : n0 ≤ 4 := by have := (decls_at hp.1).1; omega
  have hnv : nv ≤ 1052000 := by have := (ints_at hv).1; omega
  have hna : na ≤ 9223372036854775807 := (ints_at ha).2.2.1
  have hnk : ks.length = nk := (blocks_at hk).1
  have hnl : args.length = na := (ints_at ha).1
  have K0 := (Keep.al w (.cells #[.slice a0 n0 c0, .slice a1 n1 c1] 36)).trans (Keep.al _ (.cells #[.int .i64 6, .int .i64 0, .int .i64 into, .slice aa na ca, .slice ak nk ck] 89))
  have R0 := (rowOf w #[.slice a0 n0 c0, .slice a1 n1 c1] 36).alloc (.cells #[.int .i64 6, .int .i64 0, .int .i64 into, .slice aa na ca, .slice ak nk ck] 89)
  have R1 := rowOf (w.alloc (.cells #[.slice a0 n0 c0, .slice a1 n1 c1] 36)) #[.int .i64 6, .int .i64 0, .int .i64 into, .slice aa na ca, .slice ak nk ck] 89
  simp only [World.size_alloc] at R1
  have HNK := Lib.hid hnk
  have HNL := Lib.hid hnl
  have HOK := Lib.hid hok
  have HAll := Lib.hid hall
  have HLen := Lib.hid hlen
  have HT := Lib.hid ht
  have HF := Lib.hid hf
  have IH := Lib.hid IH0
  clear hok hall ht IH0 hnk hnl hf
  cases hi : intoOk sc 6 into
  · have V : Hid (stpT ds (rs.map sigR) sc (.mk 6 0 into args ks) = -1) := stp_into _ _ _ _ _ _ _ _ hi
    have HI := Lib.hid hi
    clear hi
    go_enter Try.func44, Try.ntmps44
    go_wp2_with fail
    refine (specValidInto _ _ _ sc 6 0 into _ _ _ _ _ _ _ _ (hv.k K0).toInts (by omega)).mono ?_
    rw [HI.out]
    rintro e w1 ⟨rfl, p1⟩
    have K1 := Lib.hid (K0.trans p1)
    have R0' := Lib.hid (row_ext R0 p1 (fun h => h))
    have R1' := Lib.hid (row_ext R1 p1 (fun h => h))
    have x0 := R0'.out.cell (i := 0) (by simp)
    have x1 := R0'.out.cell (i := 1) (by simp)
    have y0 := R1'.out.cell (i := 0) (by simp)
    have y1 := R1'.out.cell (i := 1) (by simp)
    have y2 := R1'.out.cell (i := 2) (by simp)
    have y3 := R1'.out.cell (i := 3) (by simp)
    have y4 := R1'.out.cell (i := 4) (by simp)
    simp at x0 x1 y0 y1 y2 y3 y4
    clear R0 R1 K0 p1
    go_wp2_with fail
    exact fin_ hQ ⟨ret_i V.out.symm, K1.out⟩
  have HI := Lib.hid hi
  clear hi
  by_cases hk0 : nk = 0
  case neg =>
    have hk1 : 0 < nk := by omega
    have V : Hid (stpT ds (rs.map sigR) sc (.mk 6 0 into args ks) = -1) := stp_kids _ _ _ _ _ _ _ _ (by omega) (by omega) (by have := HNK.out; omega)
    clear hk0
    go_enter Try.func44, Try.ntmps44
    go_wp2_with fail
    refine (specValidInto _ _ _ sc 6 0 into _ _ _ _ _ _ _ _ (hv.k K0).toInts (by omega)).mono ?_
    rw [HI.out]
    rintro e w1 ⟨rfl, p1⟩
    have K1 := Lib.hid (K0.trans p1)
    have R0' := Lib.hid (row_ext R0 p1 (fun h => h))
    have R1' := Lib.hid (row_ext R1 p1 (fun h => h))
    have x0 := R0'.out.cell (i := 0) (by simp)
    have x1 := R0'.out.cell (i := 1) (by simp)
    have y0 := R1'.out.cell (i := 0) (by simp)
    have y1 := R1'.out.cell (i := 1) (by simp)
    have y2 := R1'.out.cell (i := 2) (by simp)
    have y3 := R1'.out.cell (i := 3) (by simp)
    have y4 := R1'.out.cell (i := 4) (by simp)
    simp at x0 x1 y0 y1 y2 y3 y4
    clear R0 R1 K0 p1
    go_wp2_with fail
    exact fin_ hQ ⟨ret_i V.out.symm, K1.out⟩
  subst hk0
  have V0 : Hid (stpT ds (rs.map sigR) sc (.mk 6 0 into args ks) = routS ds (rs.map sigR) sc 6 0 args) := stp_rout _ _ _ _ _ _ _ _ HI.out (by omega) (by omega) HNK.out
  obtain ⟨ct, hct⟩ : ∃ ct, conTypeL ds (0 : Int) = ct := ⟨_, rfl⟩
  have HC := Lib.hid hct
  clear hct
  by_cases hc0 : 0 < ct
  case neg =>
    have V : Hid (stpT ds (rs.map sigR) sc (.mk 6 0 into args ks) = -1) := by show _ = _; rw [V0.out, routS_con, HC.out]; rw [if_neg hc0]
    have hc0' : decide (0 < ct) = false := decide_eq_false hc0
    go_enter Try.func44, Try.ntmps44
    go_wp2_with fail
    refine (specValidInto _ _ _ sc 6 0 into _ _ _ _ _ _ _ _ (hv.k K0).toInts (by omega)).mono ?_
    rw [HI.out]
    rintro e w1 ⟨rfl, p1⟩
    have K1 := Lib.hid (K0.trans p1)
    have R0' := Lib.hid (row_ext R0 p1 (fun h => h))
    have R1' := Lib.hid (row_ext R1 p1 (fun h => h))
    have x0 := R0'.out.cell (i := 0) (by simp)
    have x1 := R0'.out.cell (i := 1) (by simp)
    have y0 := R1'.out.cell (i := 0) (by simp)
    have y1 := R1'.out.cell (i := 1) (by simp)
    have y2 := R1'.out.cell (i := 2) (by simp)
    have y3 := R1'.out.cell (i := 3) (by simp)
    have y4 := R1'.out.cell (i := 4) (by simp)
    simp at x0 x1 y0 y1 y2 y3 y4
    clear R0 R1 K0 p1
    go_wp2_with fail
    have qp := hp.k K1.out
    go_quiet ((go_at_call 65; exact Calls.quiet_of_same ((specConType0 _ _ _ ds _ _ _ ((Rd.toDecls qp.1).drewN _) HF.out).mono fun _ _ q => ⟨q.1.trans (by rw [HC.out]), q.2.symm⟩)))
    go_wp2_with fail
    exact fin_ hQ ⟨ret_i V.out.symm, by first | exact K1.out.drew | exact K1.out.drewN _⟩
  have hc0' : decide (0 < ct) = true := decide_eq_true hc0
  cases hd : typedL sc args (conFieldsL ds (0 : Int))
  · have V : Hid (stpT ds (rs.map sigR) sc (.mk 6 0 into args ks) = -1) := by show _ = _; rw [V0.out, routS_con, HC.out]; rw [if_pos hc0, if_neg (by rw [hd]; simp)]
    have HD := Lib.hid hd
    clear hd hc0
    go_enter Try.func44, Try.ntmps44
    go_wp2_with fail
    refine (specValidInto _ _ _ sc 6 0 into _ _ _ _ _ _ _ _ (hv.k K0).toInts (by omega)).mono ?_
    rw [HI.out]
    rintro e w1 ⟨rfl, p1⟩
    have K1 := Lib.hid (K0.trans p1)
    have R0' := Lib.hid (row_ext R0 p1 (fun h => h))
    have R1' := Lib.hid (row_ext R1 p1 (fun h => h))
    have x0 := R0'.out.cell (i := 0) (by simp)
    have x1 := R0'.out.cell (i := 1) (by simp)
    have y0 := R1'.out.cell (i := 0) (by simp)
    have y1 := R1'.out.cell (i := 1) (by simp)
    have y2 := R1'.out.cell (i := 2) (by simp)
    have y3 := R1'.out.cell (i := 3) (by simp)
    have y4 := R1'.out.cell (i := 4) (by simp)
    simp at x0 x1 y0 y1 y2 y3 y4
    clear R0 R1 K0 p1
    go_wp2_with fail
    have qpd := (hp.k K1.out).kd
    have qvd := (hv.k K1.out).kd
    have qad := (ha.k K1.out).kd
    have pc := Ext.refl0 w1
    go_region_held3 (fun w' => w'.cell? ⟨w.heap.size, 0, none⟩ = some (.slice a0 n0 c0) ∧ w'.cell? ⟨w.heap.size + 1, 1, none⟩ = some (.int .i64 0) ∧ w'.cell? ⟨w.heap.size + 1, 3, none⟩ = some (.slice aa na ca))
      (first | exact ⟨Keep.at pc x0, Keep.at pc y1, Keep.at pc y3⟩ | go_keep)
      (first
        | (go_at_call 65; refine (specConType0 _ _ _ ds _ _ _ (Rd.toDecls (qpd.k pc).1) HF.out).mono ?_; rw [HC.out]; rintro e wz ⟨rfl, rfl⟩)
        | (go_at_call 66; refine (specConFields0 _ _ _ ds _ _ _ (Rd.toDecls (qpd.k pc).1) HF.out).mono ?_; rintro e wa ⟨fa, fm, fc, rfl, hfc, fi, pa⟩; replace pc := Ext.trans pc pa)
        | (go_at_call 64; refine (specTyped _ _ _ sc _ _ _ args _ _ _ (conFieldsL ds (0 : Int)) _ _ _ _ (qvd.k pc).toInts (qad.k pc).toInts fi (by omega) hna).mono ?_; rw [HD.out]; rintro e wb ⟨rfl, pb⟩; replace pc := Ext.trans pc pb))
    have KE := Lib.hid (K1.out.trans (Keep.dt pc))
    go_wp2_with fail
    exact fin_ hQ ⟨ret_i V.out.symm, KE.out⟩
  have V : Hid (stpT ds (rs.map sigR) sc (.mk 6 0 into args ks) = ct) := by show _ = _; rw [V0.out, routS_con, HC.out]; rw [if_pos hc0, if_pos hd]
  have HD := Lib.hid hd
  clear hd hc0
  go_enter Try.func44, Try.ntmps44
  go_wp2_with fail
  refine (specValidInto _ _ _ sc 6 0 into _ _ _ _ _ _ _ _ (hv.k K0).toInts (by omega)).mono ?_
  rw [HI.out]
  rintro e w1 ⟨rfl, p1⟩
  have K1 := Lib.hid (K0.trans p1)
  have R0' := Lib.hid (row_ext R0 p1 (fun h => h))
  have R1' := Lib.hid (row_ext R1 p1 (fun h => h))
  have x0 := R0'.out.cell (i := 0) (by simp)
  have x1 := R0'.out.cell (i := 1) (by simp)
  have y0 := R1'.out.cell (i := 0) (by simp)
  have y1 := R1'.out.cell (i := 1) (by simp)
  have y2 := R1'.out.cell (i := 2) (by simp)
  have y3 := R1'.out.cell (i := 3) (by simp)
  have y4 := R1'.out.cell (i := 4) (by simp)
  simp at x0 x1 y0 y1 y2 y3 y4
  clear R0 R1 K0 p1
  go_wp2_with fail
  have qpd := (hp.k K1.out).kd
  have qvd := (hv.k K1.out).kd
  have qad := (ha.k K1.out).kd
  have pc := Ext.refl0 w1
  go_region_held3 (fun w' => w'.cell? ⟨w.heap.size, 0, none⟩ = some (.slice a0 n0 c0) ∧ w'.cell? ⟨w.heap.size + 1, 1, none⟩ = some (.int .i64 0) ∧ w'.cell? ⟨w.heap.size + 1, 3, none⟩ = some (.slice aa na ca))
    (first | exact ⟨Keep.at pc x0, Keep.at pc y1, Keep.at pc y3⟩ | go_keep)
    (first
      | (go_at_call 65; refine (specConType0 _ _ _ ds _ _ _ (Rd.toDecls (qpd.k pc).1) HF.out).mono ?_; rw [HC.out]; rintro e wz ⟨rfl, rfl⟩)
      | (go_at_call 66; refine (specConFields0 _ _ _ ds _ _ _ (Rd.toDecls (qpd.k pc).1) HF.out).mono ?_; rintro e wa ⟨fa, fm, fc, rfl, hfc, fi, pa⟩; replace pc := Ext.trans pc pa)
      | (go_at_call 64; refine (specTyped _ _ _ sc _ _ _ args _ _ _ (conFieldsL ds (0 : Int)) _ _ _ _ (qvd.k pc).toInts (qad.k pc).toInts fi (by omega) hna).mono ?_; rw [HD.out]; rintro e wb ⟨rfl, pb⟩; replace pc := Ext.trans pc pb))
  have KE := Lib.hid (K1.out.trans (Keep.dt pc))
  have u0 := Keep.at pc x0
  have u1 := Keep.at pc y1
  have qz := Lib.hid (hp.k KE.out)
  clear x0 x1 y0 y1 y2 y3 y4 pc qpd qvd qad
  go_wp2_with fail
  refine (specConType0 _ _ _ ds _ _ _ (Rd.toDecls qz.out.1) HF.out).mono ?_
  rw [HC.out]
  rintro e wz ⟨rfl, rfl⟩
  go_wp2_with fail
  exact fin_ hQ ⟨ret_i V.out.symm, KE.out⟩

set_option maxRecDepth 100000 in
set_option maxHeartbeats 4000000 in
theorem specSt_6_n (num : Int) (hn : num ≠ 0) (into : Int) (args : List Int) (ks : List BlockL) (IH0 : ∀ j, j < ks.length → BlS ds rs (bAt ks j).result (bAt ks j).steps) : StS ds rs (.mk 6 num into args ks) := by
  intro a0 n0 c0 a1 n1 c1 av nv cv sc aa na ca ak nk ck w hp hv ha hk hlen hall
  refine calls_k fun Q hQ => ?_
  change Rd w (fun _ => True) (encInts args) _ at ha
  change Rd w (fun _ => True) (encBlocks ks) _ at hk
  rw [nS] at hlen
  simp only [StepL.op, StepL.num, StepL.into]
  have ht := (sigsOk_parts hok).1
  have hf := Few.of_ok ht
  have hd4 := typesOk_len ht
  have hr4 : rs.length ≤ 4 := by have := (sigsOk_parts hok).2.2.1; simpa using this
  have hn0 : n0 ≤ 4 := by have := (decls_at hp.1).1; omega
  have hnv : nv ≤ 1052000 := by have := (ints_at hv).1; omega
  have hna : na ≤ 9223372036854775807 := (ints_at ha).2.2.1
  have hnk : ks.length = nk := (blocks_at hk).1
  have hnl : args.length = na := (ints_at ha).1
  have K0 := (Keep.al w (.cells #[.slice a0 n0 c0, .slice a1 n1 c1] 36)).trans (Keep.al _ (.cells #[.int .i64 6, .int .i64 num, .int .i64 into, .slice aa na ca, .slice ak nk ck] 89))
  have R0 := (rowOf w #[.slice a0 n0 c0, .slice a1 n1 c1] 36).alloc (.cells #[.int .i64 6, .int .i64 num, .int .i64 into, .slice aa na ca, .slice ak nk ck] 89)
  have R1 := rowOf (w.alloc (.cells #[.slice a0 n0 c0, .slice a1 n1 c1] 36)) #[.int .i64 6, .int .i64 num, .int .i64 into, .slice aa na ca, .slice ak nk ck] 89
  simp only [World.size_alloc] at R1
  have HNK := Lib.hid hnk
  have HNL := Lib.hid hnl
  have HOK := Lib.hid hok
  have HAll := Lib.hid hall
  have HLen := Lib.hid hlen
  have HT := Lib.hid ht
  have HF := Lib.hid hf
  have IH := Lib.hid IH0
  clear hok hall ht IH0 hnk hnl hf
  have hn' : (num != 0) = true := by simpa using hn
  clear hn
  cases hi : intoOk sc 6 into
  · have V : Hid (stpT ds (rs.map sigR) sc (.mk 6 num into args ks) = -1) := stp_into _ _ _ _ _ _ _ _ hi
    have HI := Lib.hid hi
    clear hi
    go_enter Try.func44, Try.ntmps44
    go_wp2_with fail
    refine (specHasNum _ _).mono ?_
    rintro e w0 ⟨rfl, rfl⟩
    go_wp2_with fail
    refine (specValidInto _ _ _ sc 6 num into _ _ _ _ _ _ _ _ (hv.k K0).toInts (by omega)).mono ?_
    rw [HI.out]
    rintro e w1 ⟨rfl, p1⟩
    have K1 := Lib.hid (K0.trans p1)
    have R0' := Lib.hid (row_ext R0 p1 (fun h => h))
    have R1' := Lib.hid (row_ext R1 p1 (fun h => h))
    have x0 := R0'.out.cell (i := 0) (by simp)
    have x1 := R0'.out.cell (i := 1) (by simp)
    have y0 := R1'.out.cell (i := 0) (by simp)
    have y1 := R1'.out.cell (i := 1) (by simp)
    have y2 := R1'.out.cell (i := 2) (by simp)
    have y3 := R1'.out.cell (i := 3) (by simp)
    have y4 := R1'.out.cell (i := 4) (by simp)
    simp at x0 x1 y0 y1 y2 y3 y4
    clear R0 R1 K0 p1
    go_wp2_with fail
    exact fin_ hQ ⟨ret_i V.out.symm, K1.out⟩
  have HI := Lib.hid hi
  clear hi
  by_cases hk0 : nk = 0
  case neg =>
    have hk1 : 0 < nk := by omega
    have V : Hid (stpT ds (rs.map sigR) sc (.mk 6 num into args ks) = -1) := stp_kids _ _ _ _ _ _ _ _ (by omega) (by omega) (by have := HNK.out; omega)
    clear hk0
    go_enter Try.func44, Try.ntmps44
    go_wp2_with fail
    refine (specHasNum _ _).mono ?_
    rintro e w0 ⟨rfl, rfl⟩
    go_wp2_with fail
    refine (specValidInto _ _ _ sc 6 num into _ _ _ _ _ _ _ _ (hv.k K0).toInts (by omega)).mono ?_
    rw [HI.out]
    rintro e w1 ⟨rfl, p1⟩
    have K1 := Lib.hid (K0.trans p1)
    have R0' := Lib.hid (row_ext R0 p1 (fun h => h))
    have R1' := Lib.hid (row_ext R1 p1 (fun h => h))
    have x0 := R0'.out.cell (i := 0) (by simp)
    have x1 := R0'.out.cell (i := 1) (by simp)
    have y0 := R1'.out.cell (i := 0) (by simp)
    have y1 := R1'.out.cell (i := 1) (by simp)
    have y2 := R1'.out.cell (i := 2) (by simp)
    have y3 := R1'.out.cell (i := 3) (by simp)
    have y4 := R1'.out.cell (i := 4) (by simp)
    simp at x0 x1 y0 y1 y2 y3 y4
    clear R0 R1 K0 p1
    go_wp2_with fail
    exact fin_ hQ ⟨ret_i V.out.symm, K1.out⟩
  subst hk0
  have V0 : Hid (stpT ds (rs.map sigR) sc (.mk 6 num into args ks) = routS ds (rs.map sigR) sc 6 num args) := stp_rout _ _ _ _ _ _ _ _ HI.out (by omega) (by omega) HNK.out
  obtain ⟨ct, hct⟩ : ∃ ct, conTypeL ds num = ct := ⟨_, rfl⟩
  have HC := Lib.hid hct
  clear hct
  by_cases hc0 : 0 < ct
  case neg =>
    have V : Hid (stpT ds (rs.map sigR) sc (.mk 6 num into args ks) = -1) := by show _ = _; rw [V0.out, routS_con, HC.out]; rw [if_neg hc0]
    have hc0' : decide (0 < ct) = false := decide_eq_false hc0
    go_enter Try.func44, Try.ntmps44
    go_wp2_with fail
    refine (specHasNum _ _).mono ?_
    rintro e w0 ⟨rfl, rfl⟩
    go_wp2_with fail
    refine (specValidInto _ _ _ sc 6 num into _ _ _ _ _ _ _ _ (hv.k K0).toInts (by omega)).mono ?_
    rw [HI.out]
    rintro e w1 ⟨rfl, p1⟩
    have K1 := Lib.hid (K0.trans p1)
    have R0' := Lib.hid (row_ext R0 p1 (fun h => h))
    have R1' := Lib.hid (row_ext R1 p1 (fun h => h))
    have x0 := R0'.out.cell (i := 0) (by simp)
    have x1 := R0'.out.cell (i := 1) (by simp)
    have y0 := R1'.out.cell (i := 0) (by simp)
    have y1 := R1'.out.cell (i := 1) (by simp)
    have y2 := R1'.out.cell (i := 2) (by simp)
    have y3 := R1'.out.cell (i := 3) (by simp)
    have y4 := R1'.out.cell (i := 4) (by simp)
    simp at x0 x1 y0 y1 y2 y3 y4
    clear R0 R1 K0 p1
    go_wp2_with fail
    have qp := hp.k K1.out
    go_quiet ((go_at_call 65; exact Calls.quiet_of_same ((specConType0 _ _ _ ds _ _ _ ((Rd.toDecls qp.1).drewN _) HF.out).mono fun _ _ q => ⟨q.1.trans (by rw [HC.out]), q.2.symm⟩)))
    go_wp2_with fail
    exact fin_ hQ ⟨ret_i V.out.symm, by first | exact K1.out.drew | exact K1.out.drewN _⟩
  have hc0' : decide (0 < ct) = true := decide_eq_true hc0
  cases hd : typedL sc args (conFieldsL ds num)
  · have V : Hid (stpT ds (rs.map sigR) sc (.mk 6 num into args ks) = -1) := by show _ = _; rw [V0.out, routS_con, HC.out]; rw [if_pos hc0, if_neg (by rw [hd]; simp)]
    have HD := Lib.hid hd
    clear hd hc0
    go_enter Try.func44, Try.ntmps44
    go_wp2_with fail
    refine (specHasNum _ _).mono ?_
    rintro e w0 ⟨rfl, rfl⟩
    go_wp2_with fail
    refine (specValidInto _ _ _ sc 6 num into _ _ _ _ _ _ _ _ (hv.k K0).toInts (by omega)).mono ?_
    rw [HI.out]
    rintro e w1 ⟨rfl, p1⟩
    have K1 := Lib.hid (K0.trans p1)
    have R0' := Lib.hid (row_ext R0 p1 (fun h => h))
    have R1' := Lib.hid (row_ext R1 p1 (fun h => h))
    have x0 := R0'.out.cell (i := 0) (by simp)
    have x1 := R0'.out.cell (i := 1) (by simp)
    have y0 := R1'.out.cell (i := 0) (by simp)
    have y1 := R1'.out.cell (i := 1) (by simp)
    have y2 := R1'.out.cell (i := 2) (by simp)
    have y3 := R1'.out.cell (i := 3) (by simp)
    have y4 := R1'.out.cell (i := 4) (by simp)
    simp at x0 x1 y0 y1 y2 y3 y4
    clear R0 R1 K0 p1
    go_wp2_with fail
    have qpd := (hp.k K1.out).kd
    have qvd := (hv.k K1.out).kd
    have qad := (ha.k K1.out).kd
    have pc := Ext.refl0 w1
    go_region_held3 (fun w' => w'.cell? ⟨w.heap.size, 0, none⟩ = some (.slice a0 n0 c0) ∧ w'.cell? ⟨w.heap.size + 1, 1, none⟩ = some (.int .i64 num) ∧ w'.cell? ⟨w.heap.size + 1, 3, none⟩ = some (.slice aa na ca))
      (first | exact ⟨Keep.at pc x0, Keep.at pc y1, Keep.at pc y3⟩ | go_keep)
      (first
        | (go_at_call 65; refine (specConType0 _ _ _ ds _ _ _ (Rd.toDecls (qpd.k pc).1) HF.out).mono ?_; rw [HC.out]; rintro e wz ⟨rfl, rfl⟩)
        | (go_at_call 66; refine (specConFields0 _ _ _ ds _ _ _ (Rd.toDecls (qpd.k pc).1) HF.out).mono ?_; rintro e wa ⟨fa, fm, fc, rfl, hfc, fi, pa⟩; replace pc := Ext.trans pc pa)
        | (go_at_call 64; refine (specTyped _ _ _ sc _ _ _ args _ _ _ (conFieldsL ds num) _ _ _ _ (qvd.k pc).toInts (qad.k pc).toInts fi (by omega) hna).mono ?_; rw [HD.out]; rintro e wb ⟨rfl, pb⟩; replace pc := Ext.trans pc pb))
    have KE := Lib.hid (K1.out.trans (Keep.dt pc))
    go_wp2_with fail
    exact fin_ hQ ⟨ret_i V.out.symm, KE.out⟩
  have V : Hid (stpT ds (rs.map sigR) sc (.mk 6 num into args ks) = ct) := by show _ = _; rw [V0.out, routS_con, HC.out]; rw [if_pos hc0, if_pos hd]
  have HD := Lib.hid hd
  clear hd hc0
  go_enter Try.func44, Try.ntmps44
  go_wp2_with fail
  refine (specHasNum _ _).mono ?_
  rintro e w0 ⟨rfl, rfl⟩
  go_wp2_with fail
  refine (specValidInto _ _ _ sc 6 num into _ _ _ _ _ _ _ _ (hv.k K0).toInts (by omega)).mono ?_
  rw [HI.out]
  rintro e w1 ⟨rfl, p1⟩
  have K1 := Lib.hid (K0.trans p1)
  have R0' := Lib.hid (row_ext R0 p1 (fun h => h))
  have R1' := Lib.hid (row_ext R1 p1 (fun h => h))
  have x0 := R0'.out.cell (i := 0) (by simp)
  have x1 := R0'.out.cell (i := 1) (by simp)
  have y0 := R1'.out.cell (i := 0) (by simp)
  have y1 := R1'.out.cell (i := 1) (by simp)
  have y2 := R1'.out.cell (i := 2) (by simp)
  have y3 := R1'.out.cell (i := 3) (by simp)
  have y4 := R1'.out.cell (i := 4) (by simp)
  simp at x0 x1 y0 y1 y2 y3 y4
  clear R0 R1 K0 p1
  go_wp2_with fail
  have qpd := (hp.k K1.out).kd
  have qvd := (hv.k K1.out).kd
  have qad := (ha.k K1.out).kd
  have pc := Ext.refl0 w1
  go_region_held3 (fun w' => w'.cell? ⟨w.heap.size, 0, none⟩ = some (.slice a0 n0 c0) ∧ w'.cell? ⟨w.heap.size + 1, 1, none⟩ = some (.int .i64 num) ∧ w'.cell? ⟨w.heap.size + 1, 3, none⟩ = some (.slice aa na ca))
    (first | exact ⟨Keep.at pc x0, Keep.at pc y1, Keep.at pc y3⟩ | go_keep)
    (first
      | (go_at_call 65; refine (specConType0 _ _ _ ds _ _ _ (Rd.toDecls (qpd.k pc).1) HF.out).mono ?_; rw [HC.out]; rintro e wz ⟨rfl, rfl⟩)
      | (go_at_call 66; refine (specConFields0 _ _ _ ds _ _ _ (Rd.toDecls (qpd.k pc).1) HF.out).mono ?_; rintro e wa ⟨fa, fm, fc, rfl, hfc, fi, pa⟩; replace pc := Ext.trans pc pa)
      | (go_at_call 64; refine (specTyped _ _ _ sc _ _ _ args _ _ _ (conFieldsL ds num) _ _ _ _ (qvd.k pc).toInts (qad.k pc).toInts fi (by omega) hna).mono ?_; rw [HD.out]; rintro e wb ⟨rfl, pb⟩; replace pc := Ext.trans pc pb))
  have KE := Lib.hid (K1.out.trans (Keep.dt pc))
  have u0 := Keep.at pc x0
  have u1 := Keep.at pc y1
  have qz := Lib.hid (hp.k KE.out)
  clear x0 x1 y0 y1 y2 y3 y4 pc qpd qvd qad
  go_wp2_with fail
  refine (specConType0 _ _ _ ds _ _ _ (Rd.toDecls qz.out.1) HF.out).mono ?_
  rw [HC.out]
  rintro e wz ⟨rfl, rfl⟩
  go_wp2_with fail
  exact fin_ hQ ⟨ret_i V.out.symm, KE.out⟩
end
end Go.Proofs.Ytmekdccgjgfiaaa
