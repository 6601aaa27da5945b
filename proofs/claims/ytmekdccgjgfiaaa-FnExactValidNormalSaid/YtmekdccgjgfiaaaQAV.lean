/- The reference's types of steps: applications. -/
import Derived.Test.YtmekdccgjgfiaaaQAO
import Derived.Test.YtmekdccgjgfiaaaQAU
import Derived.Test.YtmekdccgjgfiaaaQAL
import Derived.Deep.DeepCutAuto
namespace Go.Proofs.Ytmekdccgjgfiaaa
open Go.RowKit

theorem IntsL.drop1 {w : World} {D : Nat → Prop} {b o n : Nat} {xs : List Int} (h : IntsL w D (some ⟨b, o, none⟩) (n + 1) xs) : IntsL w D (some ⟨b, o + 1, none⟩) n (xs.drop 1) := by
  obtain ⟨h1, h2⟩ := h
  obtain ⟨b', o', e, hd, hc⟩ := h2 (by omega)
  injection e with e
  injection e with e1 e2
  subst e1 e2
  refine ⟨by simp; omega, fun h0 => ⟨b, o + 1, rfl, hd, fun i hi => ?_⟩⟩
  have := hc (i + 1) (by omega)
  rw [Nat.add_assoc, Nat.add_comm 1 i, this]
  cases xs with
  | nil => simp at h1
  | cons x xs => simp [iAt]

section
variable (ds : List DeclL) (rs : List RoutL) (hok : sigsOk ds (rs.map sigR) = true)
include hok

set_option maxRecDepth 100000 in
set_option maxHeartbeats 4000000 in
theorem specSt_11 (into : Int) (args : List Int) (ks : List BlockL) (IH0 : ∀ j, j < ks.length → BlS ds rs (bAt ks j).result (bAt ks j).steps) : StS ds rs (.mk 11 0 into args ks) := by
  intro a0 n0 c0 a1 n1 c1 av nv cv sc aa na ca ak nk ck w hp hv ha hk hlen hall
  refine calls_k fun Q hQ => ?_
  change Rd w (fun _ => True) (encInts args) _ at ha
  change Rd w (fun _ => True) (encBlocks ks) _ at hk
  rw [nS] at hlen
  simp only [StepL.op, StepL.num, StepL.into]
  have ht := (sigsOk_parts hok).1
  have hf := Few.of_ok ht
  have hd4 := typesOk_len ht
  have hr4 : rs.length ≤ 4 := by have := (sigsOk_parts hok).2.2.1; simpa using this
  have hn0 : n0 ≤ 4 := by have := (decls_at hp.1).1; omega
  have hnv : nv ≤ 1052000 := by have := (ints_at hv).1; omega
  have hna : na ≤ 9223372036854775807 := (ints_at ha).2.2.1
  have hnk : ks.length = nk := (blocks_at hk).1
  have hnl : args.length = na := (ints_at ha).1
  have K0 := (Keep.al w (.cells #[.slice a0 n0 c0, .slice a1 n1 c1] 36)).trans (Keep.al _ (.cells #[.int .i64 11, .int .i64 0, .int .i64 into, .slice aa na ca, .slice ak nk ck] 89))
  have R0 := (rowOf w #[.slice a0 n0 c0, .slice a1 n1 c1] 36).alloc (.cells #[.int .i64 11, .int .i64 0, .int .i64 into, .slice aa na ca, .slice ak nk ck] 89)
  have R1 := rowOf (w.alloc (.cells #[.slice a0 n0 c0, .slice a1 n1 c1] 36)) #[.int .i64 11, .int .i64 0, .int .i64 into, .slice aa na ca, .slice ak nk ck] 89
  simp only [World.size_alloc] at R1
  have HNK := Lib.hid hnk
  have HNL := Lib.hid hnl
  have HOK := Lib.hid hok
  have HAll := Lib.hid hall
  have HLen := Lib.hid hlen
  have HT := Lib.hid ht
  have HF := Lib.hid hf
  have IH := Lib.hid IH0
  clear hok hall ht IH0 hnk hnl hf
  cases hi : intoOk sc 11 into
  · have V : Hid (stpT ds (rs.map sigR) sc (.mk 11 0 into args ks) = -1) := stp_into _ _ _ _ _ _ _ _ hi
    have HI := Lib.hid hi
    clear hi
    go_enter Try.func44, Try.ntmps44
    go_wp2_with fail
    refine (specValidInto _ _ _ sc 11 0 into _ _ _ _ _ _ _ _ (hv.k K0).toInts (by omega)).mono ?_
    rw [HI.out]
    rintro e w1 ⟨rfl, p1⟩
    have K1 := Lib.hid (K0.trans p1)
    have R0' := Lib.hid (row_ext R0 p1 (fun h => h))
    have R1' := Lib.hid (row_ext R1 p1 (fun h => h))
    have x0 := R0'.out.cell (i := 0) (by simp)
    have x1 := R0'.out.cell (i := 1) (by simp)
    have y0 := R1'.out.cell (i := 0) (by simp)
    have y1 := R1'.out.cell (i := 1) (by simp)
    have y2 := R1'.out.cell (i := 2) (by simp)
    have y3 := R1'.out.cell (i := 3) (by simp)
    have y4 := R1'.out.cell (i := 4) (by simp)
    simp at x0 x1 y0 y1 y2 y3 y4
    clear R0 R1 K0 p1
    go_wp2_with fail
    exact fin_ hQ ⟨ret_i V.out.symm, K1.out⟩
  have HI := Lib.hid hi
  clear hi
  by_cases hk0 : nk = 0
  case neg =>
    have hk1 : 0 < nk := by omega
    have V : Hid (stpT ds (rs.map sigR) sc (.mk 11 0 into args ks) = -1) := stp_kids _ _ _ _ _ _ _ _ (by omega) (by omega) (by have := HNK.out; omega)
    clear hk0
    go_enter Try.func44, Try.ntmps44
    go_wp2_with fail
    refine (specValidInto _ _ _ sc 11 0 into _ _ _ _ _ _ _ _ (hv.k K0).toInts (by omega)).mono ?_
    rw [HI.out]
    rintro e w1 ⟨rfl, p1⟩
    have K1 := Lib.hid (K0.trans p1)
    have R0' := Lib.hid (row_ext R0 p1 (fun h => h))
    have R1' := Lib.hid (row_ext R1 p1 (fun h => h))
    have x0 := R0'.out.cell (i := 0) (by simp)
    have x1 := R0'.out.cell (i := 1) (by simp)
    have y0 := R1'.out.cell (i := 0) (by simp)
    have y1 := R1'.out.cell (i := 1) (by simp)
    have y2 := R1'.out.cell (i := 2) (by simp)
    have y3 := R1'.out.cell (i := 3) (by simp)
    have y4 := R1'.out.cell (i := 4) (by simp)
    simp at x0 x1 y0 y1 y2 y3 y4
    clear R0 R1 K0 p1
    go_wp2_with fail
    exact fin_ hQ ⟨ret_i V.out.symm, K1.out⟩
  subst hk0
  have V0 : Hid (stpT ds (rs.map sigR) sc (.mk 11 0 into args ks) = routS ds (rs.map sigR) sc 11 0 args) := stp_rout _ _ _ _ _ _ _ _ HI.out (by omega) (by omega) HNK.out
  by_cases h2 : na = 2
  case neg =>
    have h2' : ((na : Int) == 2) = false := by simp; omega
    have V : Hid (stpT ds (rs.map sigR) sc (.mk 11 0 into args ks) = -1) := by show _ = _; rw [V0.out, routS_app]; rw [if_neg (fun h => h2 (by have := HNL.out; omega))]
    clear h2
    go_enter Try.func44, Try.ntmps44
    go_wp2_with fail
    refine (specValidInto _ _ _ sc 11 0 into _ _ _ _ _ _ _ _ (hv.k K0).toInts (by omega)).mono ?_
    rw [HI.out]
    rintro e w1 ⟨rfl, p1⟩
    have K1 := Lib.hid (K0.trans p1)
    have R0' := Lib.hid (row_ext R0 p1 (fun h => h))
    have R1' := Lib.hid (row_ext R1 p1 (fun h => h))
    have x0 := R0'.out.cell (i := 0) (by simp)
    have x1 := R0'.out.cell (i := 1) (by simp)
    have y0 := R1'.out.cell (i := 0) (by simp)
    have y1 := R1'.out.cell (i := 1) (by simp)
    have y2 := R1'.out.cell (i := 2) (by simp)
    have y3 := R1'.out.cell (i := 3) (by simp)
    have y4 := R1'.out.cell (i := 4) (by simp)
    simp at x0 x1 y0 y1 y2 y3 y4
    clear R0 R1 K0 p1
    go_wp2_with fail
    go_quiet (fail)
    go_wp2_with fail
    exact fin_ hQ ⟨ret_i V.out.symm, by first | exact K1.out.drew | exact K1.out.drewN _⟩
  subst h2
  obtain ⟨b, o, rfl, _, d0⟩ := ha.toInts.at (i := 0) (by omega)
  rw [Nat.add_zero] at d0
  generalize hv0 : iAt args 0 = v at d0
  have HVV := Lib.hid hv0
  clear hv0
  by_cases hr : 0 ≤ v ∧ v < (nv : Int)
  case neg =>
    have V : Hid (stpT ds (rs.map sigR) sc (.mk 11 0 into args ks) = -1) := by show _ = _; rw [V0.out, routS_app]; rw [if_neg (fun h => hr (by have h1 := h.2.1; rw [HVV.out] at h1; have := (ints_at hv).1; omega))]
    have HD := Lib.hid (decide_eq_false (p := 0 ≤ v ∧ v ≤ (nv : Int) - 1) (fun h => hr (by omega)))
    clear hr
    go_enter Try.func44, Try.ntmps44
    go_wp2_with fail
    refine (specValidInto _ _ _ sc 11 0 into _ _ _ _ _ _ _ _ (hv.k K0).toInts (by omega)).mono ?_
    rw [HI.out]
    rintro e w1 ⟨rfl, p1⟩
    have K1 := Lib.hid (K0.trans p1)
    have R0' := Lib.hid (row_ext R0 p1 (fun h => h))
    have R1' := Lib.hid (row_ext R1 p1 (fun h => h))
    have x0 := R0'.out.cell (i := 0) (by simp)
    have x1 := R0'.out.cell (i := 1) (by simp)
    have y0 := R1'.out.cell (i := 0) (by simp)
    have y1 := R1'.out.cell (i := 1) (by simp)
    have y2 := R1'.out.cell (i := 2) (by simp)
    have y3 := R1'.out.cell (i := 3) (by simp)
    have y4 := R1'.out.cell (i := 4) (by simp)
    simp at x0 x1 y0 y1 y2 y3 y4
    clear R0 R1 K0 p1
    go_wp2_with fail
    have g0 := (K1.out.cell (World.block_lt_of_cell? w _ d0) (fun h => h)).trans d0
    go_quiet ((go_at_call 41; exact Calls.quiet_of_same ((specInRange _ _ _ _).mono fun _ _ q => ⟨q.1.trans (by rw [HD.out]), q.2.symm⟩)))
    go_wp2_with fail
    exact fin_ hQ ⟨ret_i V.out.symm, by first | exact K1.out.drew | exact K1.out.drewN _⟩
  obtain ⟨k, rfl⟩ : ∃ k : Nat, v = (k : Int) := ⟨v.toNat, by omega⟩
  have hk' : k < nv := by omega
  obtain ⟨b2, o2, rfl, _, d2⟩ := hv.toInts.at hk'
  generalize hx : iAt sc k = x at d2
  have HX := Lib.hid hx
  have HSL := Lib.hid (ints_at hv).1
  have HD := Lib.hid (decide_eq_true (p := 0 ≤ (k : Int) ∧ (k : Int) ≤ (nv : Int) - 1) (by omega))
  have V1 : Hid (stpT ds (rs.map sigR) sc (.mk 11 0 into args ks) = if isArr ds x = true ∧ typedL sc (args.drop 1) [(dAt ds (x.toNat - 1)).from_] = true then (dAt ds (x.toNat - 1)).to_ else -1) := by
    show _ = _
    rw [V0.out, routS_app, HVV.out, show ((k : Int)).toNat = k from rfl, HX.out]
    by_cases h : isArr ds x = true ∧ typedL sc (args.drop 1) [(dAt ds (x.toNat - 1)).from_] = true
    · rw [if_pos ⟨HNL.out, by have := HSL.out; omega, h⟩, if_pos h]
    · rw [if_neg (fun h3 => h h3.2.2), if_neg h]
  clear hr hx
  cases harr : isArr ds x
  · have V : Hid (stpT ds (rs.map sigR) sc (.mk 11 0 into args ks) = -1) := by show _ = _; rw [V1.out, if_neg (fun h => by rw [harr] at h; exact absurd h.1 (by simp))]
    have HR := Lib.hid harr
    clear harr
    go_enter Try.func44, Try.ntmps44
    go_wp2_with fail
    refine (specValidInto _ _ _ sc 11 0 into _ _ _ _ _ _ _ _ (hv.k K0).toInts (by omega)).mono ?_
    rw [HI.out]
    rintro e w1 ⟨rfl, p1⟩
    have K1 := Lib.hid (K0.trans p1)
    have R0' := Lib.hid (row_ext R0 p1 (fun h => h))
    have R1' := Lib.hid (row_ext R1 p1 (fun h => h))
    have x0 := R0'.out.cell (i := 0) (by simp)
    have x1 := R0'.out.cell (i := 1) (by simp)
    have y0 := R1'.out.cell (i := 0) (by simp)
    have y1 := R1'.out.cell (i := 1) (by simp)
    have y2 := R1'.out.cell (i := 2) (by simp)
    have y3 := R1'.out.cell (i := 3) (by simp)
    have y4 := R1'.out.cell (i := 4) (by simp)
    simp at x0 x1 y0 y1 y2 y3 y4
    clear R0 R1 K0 p1
    go_wp2_with fail
    have g0 := (K1.out.cell (World.block_lt_of_cell? w _ d0) (fun h => h)).trans d0
    have g2 := (K1.out.cell (World.block_lt_of_cell? w _ d2) (fun h => h)).trans d2
    have qp := hp.k K1.out
    go_quiet (first | (go_at_call 41; exact Calls.quiet_of_same ((specInRange _ _ _ _).mono fun _ _ q => ⟨q.1.trans (by rw [HD.out]), q.2.symm⟩)) | (go_at_call 69; exact Calls.quiet_of_same ((specIsArrow _ _ _ ds _ _ _ ((Rd.toDecls qp.1).drewN _) (by omega)).mono fun _ _ q => ⟨q.1.trans (by rw [HR.out]), q.2.symm⟩)))
    go_wp2_with fail
    exact fin_ hQ ⟨ret_i V.out.symm, by first | exact K1.out.drew | exact K1.out.drewN _⟩
  obtain ⟨g1, g2, _⟩ := isArr_parts harr
  obtain ⟨i, rfl⟩ : ∃ i : Nat, x = (i : Int) + 1 := ⟨(x - 1).toNat, by omega⟩
  have hi : i < ds.length := by omega
  have HI2 : Hid (((i : Int) + 1).toNat - 1 = i) := by show _ = _; omega
  obtain ⟨hdl, _, _, hda⟩ := decls_at hp.1
  have hin : i < n0 := by omega
  obtain ⟨bd, od, rfl, _, ad2, nd2, cd2, dd0, dd1, dd2, _⟩ := hda i hin
  have HR := Lib.hid harr
  clear harr g1 g2 hda hdl
  obtain ⟨fr, hfr⟩ : ∃ fr, (dAt ds i).from_ = fr := ⟨_, rfl⟩
  obtain ⟨tz, hto⟩ : ∃ tz, (dAt ds i).to_ = tz := ⟨_, rfl⟩
  rw [hfr] at dd0
  rw [hto] at dd1
  have HFR := Lib.hid hfr
  have HTO := Lib.hid hto
  clear hfr hto
  have hw1 : IntKind.i64.wrap (i : Int) = (i : Int) := by rw [IntWalk.i64_in _ (by omega)]
  have hw2 : (0 : Int) ≤ (i : Int) := by omega
  have hw3 : (i : Int) < (n0 : Int) := by omega
  cases hd : typedL sc (args.drop 1) [fr]
  · have V : Hid (stpT ds (rs.map sigR) sc (.mk 11 0 into args ks) = -1) := by show _ = _; rw [V1.out, HI2.out, HFR.out, if_neg (fun h => by rw [hd] at h; exact absurd h.2 (by simp))]
    have HT2 := Lib.hid hd
    clear hd
    go_enter Try.func44, Try.ntmps44
    go_wp2_with fail
    refine (specValidInto _ _ _ sc 11 0 into _ _ _ _ _ _ _ _ (hv.k K0).toInts (by omega)).mono ?_
    rw [HI.out]
    rintro e w1 ⟨rfl, p1⟩
    have K1 := Lib.hid (K0.trans p1)
    have R0' := Lib.hid (row_ext R0 p1 (fun h => h))
    have R1' := Lib.hid (row_ext R1 p1 (fun h => h))
    have x0 := R0'.out.cell (i := 0) (by simp)
    have x1 := R0'.out.cell (i := 1) (by simp)
    have y0 := R1'.out.cell (i := 0) (by simp)
    have y1 := R1'.out.cell (i := 1) (by simp)
    have y2 := R1'.out.cell (i := 2) (by simp)
    have y3 := R1'.out.cell (i := 3) (by simp)
    have y4 := R1'.out.cell (i := 4) (by simp)
    simp at x0 x1 y0 y1 y2 y3 y4
    clear R0 R1 K0 p1
    go_wp2_with fail
    have g0 := (K1.out.cell (World.block_lt_of_cell? w _ d0) (fun h => h)).trans d0
    have g2 := (K1.out.cell (World.block_lt_of_cell? w _ d2) (fun h => h)).trans d2
    have e0 := (K1.out.cell (World.block_lt_of_cell? w _ dd0) (fun h => h)).trans dd0
    have e1 := (K1.out.cell (World.block_lt_of_cell? w _ dd1) (fun h => h)).trans dd1
    have e2 := (K1.out.cell (World.block_lt_of_cell? w _ dd2) (fun h => h)).trans dd2
    have qp := hp.k K1.out
    go_quiet (first | (go_at_call 41; exact Calls.quiet_of_same ((specInRange _ _ _ _).mono fun _ _ q => ⟨q.1.trans (by rw [HD.out]), q.2.symm⟩)) | (go_at_call 69; exact Calls.quiet_of_same ((specIsArrow _ _ _ ds _ _ _ ((Rd.toDecls qp.1).drewN _) (by omega)).mono fun _ _ q => ⟨q.1.trans (by rw [HR.out]), q.2.symm⟩)))
    go_wp2_with fail
    have kW : Keep w1 (w1.drewN nq) := (Ext.refl _ w1).drewN nq
    generalize w1.drewN nq = W at kW ⊢
    have x0 := (kW.cell (World.block_lt_of_cell? _ _ x0) (fun h => h)).trans x0
    have y3 := (kW.cell (World.block_lt_of_cell? _ _ y3) (fun h => h)).trans y3
    have g0 := (kW.cell (World.block_lt_of_cell? _ _ g0) (fun h => h)).trans g0
    have g2 := (kW.cell (World.block_lt_of_cell? _ _ g2) (fun h => h)).trans g2
    have e0 := (kW.cell (World.block_lt_of_cell? _ _ e0) (fun h => h)).trans e0
    have e1 := (kW.cell (World.block_lt_of_cell? _ _ e1) (fun h => h)).trans e1
    have e2 := (kW.cell (World.block_lt_of_cell? _ _ e2) (fun h => h)).trans e2
    have K2 := Lib.hid (K1.out.trans kW)
    have pc := Ext.refl0 W
    go_region_held3 (fun w' => w'.cell? ⟨w.heap.size, 0, none⟩ = some (.slice (some ⟨bd, od, none⟩) n0 c0) ∧ w'.cell? ⟨w.heap.size + 1, 3, none⟩ = some (.slice (some ⟨b, o, none⟩) 2 ca) ∧ w'.cell? ⟨b, o, none⟩ = some (.int .i64 k) ∧ w'.cell? ⟨b2, o2 + k, none⟩ = some (.int .i64 ((i : Int) + 1)) ∧ w'.cell? ⟨bd, od + i * 3, none⟩ = some (.int .i64 fr) ∧ w'.cell? ⟨bd, od + i * 3 + 1, none⟩ = some (.int .i64 tz) ∧ w'.cell? ⟨bd, od + i * 3 + 2, none⟩ = some (.slice ad2 nd2 cd2))
      (first | exact ⟨Keep.at pc x0, Keep.at pc y3, Keep.at pc g0, Keep.at pc g2, Keep.at pc e0, Keep.at pc e1, Keep.at pc e2⟩ | exact ⟨Keep.at (Ext.trans pc (Keep.al _ _)) x0, Keep.at (Ext.trans pc (Keep.al _ _)) y3, Keep.at (Ext.trans pc (Keep.al _ _)) g0, Keep.at (Ext.trans pc (Keep.al _ _)) g2, Keep.at (Ext.trans pc (Keep.al _ _)) e0, Keep.at (Ext.trans pc (Keep.al _ _)) e1, Keep.at (Ext.trans pc (Keep.al _ _)) e2⟩ | go_keep)
      (fail)
    go_upto_region 31 with fail
    have k5 : Keep W ((W.alloc (.cells #[.int .i64 fr, .int .i64 tz, .slice ad2 nd2 cd2] 93)).drew) := (Keep.al W _).drew
    have z0 : ((W.alloc (.cells #[.int .i64 fr, .int .i64 tz, .slice ad2 nd2 cd2] 93)).drew).cell? ⟨W.heap.size, 0, none⟩ = some (.int .i64 fr) := (rowOf W #[.int .i64 fr, .int .i64 tz, .slice ad2 nd2 cd2] 93).cell (i := 0) (by simp)
    have z1 : ((W.alloc (.cells #[.int .i64 fr, .int .i64 tz, .slice ad2 nd2 cd2] 93)).drew).cell? ⟨W.heap.size, 1, none⟩ = some (.int .i64 tz) := (rowOf W #[.int .i64 fr, .int .i64 tz, .slice ad2 nd2 cd2] 93).cell (i := 1) (by simp)
    generalize (W.alloc (.cells #[.int .i64 fr, .int .i64 tz, .slice ad2 nd2 cd2] 93)).drew = W6 at k5 z0 z1 ⊢
    have y3d : W6.drew.cell? ⟨w.heap.size + 1, 3, none⟩ = some (.slice (some ⟨b, o, none⟩) 2 ca) := (k5.cell (World.block_lt_of_cell? _ _ y3) (fun h => h)).trans y3
    have z0d : W6.drew.cell? ⟨W.heap.size, 0, none⟩ = some (.int .i64 fr) := z0
    have KD : Keep W6 W6.drew := (Ext.refl (fun _ => False) W6).drew
    have K6 := Lib.hid ((K2.out.trans k5).trans KD)
    have Z1 := Lib.hid (KD.cq z1 (fun h => h))
    have hca2 : 2 ≤ ca := by have := (ints_at ha).2.1; omega
    have hca : (1 : Int) ≤ (ca : Int) := by omega
    have hca1 : ¬ ca = 1 := by omega
    have QV := Lib.hid (hv.k K6.out)
    have QA := Lib.hid (ha.k K6.out)
    clear pc x0 g0 g2 e0 e1 e2 y0 y1 y2 y3 y4 x1 z0 z1 k5 KD kW
    refine wp_region_held_drew (S := fun w' => w'.cell? ⟨w.heap.size + 1, 3, none⟩ = some (.slice (some ⟨b, o, none⟩) 2 ca) ∧ w'.cell? ⟨W.heap.size, 0, none⟩ = some (.int .i64 fr)) (by kernel_rfl) ⟨y3d, z0d⟩ (fun hHeld => ?_)
    have pc : Hid (Keep W6.drew W6.drew) := Ext.refl _ _
    generalize W6.drew = W0 at *
    refine wT 0 hHeld ?_
    try go_frame
    refine wT 1 hHeld ?_
    try go_frame
    refine wT 2 hHeld ?_
    try go_frame
    refine wT 3 hHeld ?_
    try go_frame
    refine wT 4 hHeld ?_
    try go_frame
    refine wT 5 hHeld ?_
    try go_frame
    refine wO 6 (fun K0 hK0 => ?_)
    go_simp
    obtain ⟨y1, hW⟩ : ∃ N, N = W0.alloc (.cells #[.int .i64 fr] 3) := ⟨_, rfl⟩
    obtain ⟨sl, hsl⟩ : ∃ s, s = W0.heap.size := ⟨_, rfl⟩
    rw [← hsl, ← hW]
    have LA : Hid (Rd y1 (fun _ => True) (encInts [fr]) (.slice (some ⟨sl, 0, none⟩) 1 1)) := by
      rw [hW, hsl]
      exact lit_intsD W0 (fun _ => True) 3 [fr] #[.int .i64 fr] 1 trivial rfl rfl (by omega)
    have kk : Keep W0 y1 := by rw [hW]; exact Keep.al _ _
    replace pc := Lib.hid (pc.out.trans kk)
    replace QV := Lib.hid (QV.out.k kk)
    replace QA := Lib.hid (QA.out.k kk)
    clear kk hW hsl
    refine hK0.out _ _ ⟨pc.out.cq y3d (fun h => h), pc.out.cq z0d (fun h => h)⟩ (fun hHeld => ?_)
    clear hK0
    try go_frame
    refine wO 7 (fun K0 hK0 => ?_)
    go_simp
    go_at_call 64
    refine (specTyped _ _ _ sc _ _ _ (args.drop 1) _ _ _ [fr] _ _ _ _ QV.out.toInts QA.out.toInts.drop1 LA.out.toInts (by omega) (by omega)).mono ?_
    rw [HT2.out]
    rintro e y2 ⟨rfl, pb⟩
    replace pc := Lib.hid (pc.out.trans pb)
    clear pb
    refine hK0.out _ _ ⟨pc.out.cq y3d (fun h => h), pc.out.cq z0d (fun h => h)⟩ (fun hHeld => ?_)
    clear hK0
    try go_frame
    refine wpAnyH_done (by kernel_rfl) ?_ _
    have KE := Lib.hid (K6.out.trans pc.out)
    have z1 := pc.out.cq Z1.out (fun h => h)
    clear hHeld QV QA LA pc y3d z0d
    go_wp2_with fail
    exact fin_ hQ ⟨ret_i V.out.symm, KE.out⟩
  have V : Hid (stpT ds (rs.map sigR) sc (.mk 11 0 into args ks) = tz) := by show _ = _; rw [V1.out, HI2.out, HFR.out, HTO.out, if_pos ⟨HR.out, hd⟩]
  have HT2 := Lib.hid hd
  clear hd
  go_enter Try.func44, Try.ntmps44
  go_wp2_with fail
  refine (specValidInto _ _ _ sc 11 0 into _ _ _ _ _ _ _ _ (hv.k K0).toInts (by omega)).mono ?_
  rw [HI.out]
  rintro e w1 ⟨rfl, p1⟩
  have K1 := Lib.hid (K0.trans p1)
  have R0' := Lib.hid (row_ext R0 p1 (fun h => h))
  have R1' := Lib.hid (row_ext R1 p1 (fun h => h))
  have x0 := R0'.out.cell (i := 0) (by simp)
  have x1 := R0'.out.cell (i := 1) (by simp)
  have y0 := R1'.out.cell (i := 0) (by simp)
  have y1 := R1'.out.cell (i := 1) (by simp)
  have y2 := R1'.out.cell (i := 2) (by simp)
  have y3 := R1'.out.cell (i := 3) (by simp)
  have y4 := R1'.out.cell (i := 4) (by simp)
  simp at x0 x1 y0 y1 y2 y3 y4
  clear R0 R1 K0 p1
  go_wp2_with fail
  have g0 := (K1.out.cell (World.block_lt_of_cell? w _ d0) (fun h => h)).trans d0
  have g2 := (K1.out.cell (World.block_lt_of_cell? w _ d2) (fun h => h)).trans d2
  have e0 := (K1.out.cell (World.block_lt_of_cell? w _ dd0) (fun h => h)).trans dd0
  have e1 := (K1.out.cell (World.block_lt_of_cell? w _ dd1) (fun h => h)).trans dd1
  have e2 := (K1.out.cell (World.block_lt_of_cell? w _ dd2) (fun h => h)).trans dd2
  have qp := hp.k K1.out
  go_quiet (first | (go_at_call 41; exact Calls.quiet_of_same ((specInRange _ _ _ _).mono fun _ _ q => ⟨q.1.trans (by rw [HD.out]), q.2.symm⟩)) | (go_at_call 69; exact Calls.quiet_of_same ((specIsArrow _ _ _ ds _ _ _ ((Rd.toDecls qp.1).drewN _) (by omega)).mono fun _ _ q => ⟨q.1.trans (by rw [HR.out]), q.2.symm⟩)))
  go_wp2_with fail
  have kW : Keep w1 (w1.drewN nq) := (Ext.refl _ w1).drewN nq
  generalize w1.drewN nq = W at kW ⊢
  have x0 := (kW.cell (World.block_lt_of_cell? _ _ x0) (fun h => h)).trans x0
  have y3 := (kW.cell (World.block_lt_of_cell? _ _ y3) (fun h => h)).trans y3
  have g0 := (kW.cell (World.block_lt_of_cell? _ _ g0) (fun h => h)).trans g0
  have g2 := (kW.cell (World.block_lt_of_cell? _ _ g2) (fun h => h)).trans g2
  have e0 := (kW.cell (World.block_lt_of_cell? _ _ e0) (fun h => h)).trans e0
  have e1 := (kW.cell (World.block_lt_of_cell? _ _ e1) (fun h => h)).trans e1
  have e2 := (kW.cell (World.block_lt_of_cell? _ _ e2) (fun h => h)).trans e2
  have K2 := Lib.hid (K1.out.trans kW)
  have pc := Ext.refl0 W
  go_region_held3 (fun w' => w'.cell? ⟨w.heap.size, 0, none⟩ = some (.slice (some ⟨bd, od, none⟩) n0 c0) ∧ w'.cell? ⟨w.heap.size + 1, 3, none⟩ = some (.slice (some ⟨b, o, none⟩) 2 ca) ∧ w'.cell? ⟨b, o, none⟩ = some (.int .i64 k) ∧ w'.cell? ⟨b2, o2 + k, none⟩ = some (.int .i64 ((i : Int) + 1)) ∧ w'.cell? ⟨bd, od + i * 3, none⟩ = some (.int .i64 fr) ∧ w'.cell? ⟨bd, od + i * 3 + 1, none⟩ = some (.int .i64 tz) ∧ w'.cell? ⟨bd, od + i * 3 + 2, none⟩ = some (.slice ad2 nd2 cd2))
    (first | exact ⟨Keep.at pc x0, Keep.at pc y3, Keep.at pc g0, Keep.at pc g2, Keep.at pc e0, Keep.at pc e1, Keep.at pc e2⟩ | exact ⟨Keep.at (Ext.trans pc (Keep.al _ _)) x0, Keep.at (Ext.trans pc (Keep.al _ _)) y3, Keep.at (Ext.trans pc (Keep.al _ _)) g0, Keep.at (Ext.trans pc (Keep.al _ _)) g2, Keep.at (Ext.trans pc (Keep.al _ _)) e0, Keep.at (Ext.trans pc (Keep.al _ _)) e1, Keep.at (Ext.trans pc (Keep.al _ _)) e2⟩ | go_keep)
    (fail)
  go_upto_region 31 with fail
  have k5 : Keep W ((W.alloc (.cells #[.int .i64 fr, .int .i64 tz, .slice ad2 nd2 cd2] 93)).drew) := (Keep.al W _).drew
  have z0 : ((W.alloc (.cells #[.int .i64 fr, .int .i64 tz, .slice ad2 nd2 cd2] 93)).drew).cell? ⟨W.heap.size, 0, none⟩ = some (.int .i64 fr) := (rowOf W #[.int .i64 fr, .int .i64 tz, .slice ad2 nd2 cd2] 93).cell (i := 0) (by simp)
  have z1 : ((W.alloc (.cells #[.int .i64 fr, .int .i64 tz, .slice ad2 nd2 cd2] 93)).drew).cell? ⟨W.heap.size, 1, none⟩ = some (.int .i64 tz) := (rowOf W #[.int .i64 fr, .int .i64 tz, .slice ad2 nd2 cd2] 93).cell (i := 1) (by simp)
  generalize (W.alloc (.cells #[.int .i64 fr, .int .i64 tz, .slice ad2 nd2 cd2] 93)).drew = W6 at k5 z0 z1 ⊢
  have y3d : W6.drew.cell? ⟨w.heap.size + 1, 3, none⟩ = some (.slice (some ⟨b, o, none⟩) 2 ca) := (k5.cell (World.block_lt_of_cell? _ _ y3) (fun h => h)).trans y3
  have z0d : W6.drew.cell? ⟨W.heap.size, 0, none⟩ = some (.int .i64 fr) := z0
  have KD : Keep W6 W6.drew := (Ext.refl (fun _ => False) W6).drew
  have K6 := Lib.hid ((K2.out.trans k5).trans KD)
  have Z1 := Lib.hid (KD.cq z1 (fun h => h))
  have hca2 : 2 ≤ ca := by have := (ints_at ha).2.1; omega
  have hca : (1 : Int) ≤ (ca : Int) := by omega
  have hca1 : ¬ ca = 1 := by omega
  have QV := Lib.hid (hv.k K6.out)
  have QA := Lib.hid (ha.k K6.out)
  clear pc x0 g0 g2 e0 e1 e2 y0 y1 y2 y3 y4 x1 z0 z1 k5 KD kW
  refine wp_region_held_drew (S := fun w' => w'.cell? ⟨w.heap.size + 1, 3, none⟩ = some (.slice (some ⟨b, o, none⟩) 2 ca) ∧ w'.cell? ⟨W.heap.size, 0, none⟩ = some (.int .i64 fr)) (by kernel_rfl) ⟨y3d, z0d⟩ (fun hHeld => ?_)
  have pc : Hid (Keep W6.drew W6.drew) := Ext.refl _ _
  generalize W6.drew = W0 at *
  refine wT 0 hHeld ?_
  try go_frame
  refine wT 1 hHeld ?_
  try go_frame
  refine wT 2 hHeld ?_
  try go_frame
  refine wT 3 hHeld ?_
  try go_frame
  refine wT 4 hHeld ?_
  try go_frame
  refine wT 5 hHeld ?_
  try go_frame
  refine wO 6 (fun K0 hK0 => ?_)
  go_simp
  obtain ⟨y1, hW⟩ : ∃ N, N = W0.alloc (.cells #[.int .i64 fr] 3) := ⟨_, rfl⟩
  obtain ⟨sl, hsl⟩ : ∃ s, s = W0.heap.size := ⟨_, rfl⟩
  rw [← hsl, ← hW]
  have LA : Hid (Rd y1 (fun _ => True) (encInts [fr]) (.slice (some ⟨sl, 0, none⟩) 1 1)) := by
    rw [hW, hsl]
    exact lit_intsD W0 (fun _ => True) 3 [fr] #[.int .i64 fr] 1 trivial rfl rfl (by omega)
  have kk : Keep W0 y1 := by rw [hW]; exact Keep.al _ _
  replace pc := Lib.hid (pc.out.trans kk)
  replace QV := Lib.hid (QV.out.k kk)
  replace QA := Lib.hid (QA.out.k kk)
  clear kk hW hsl
  refine hK0.out _ _ ⟨pc.out.cq y3d (fun h => h), pc.out.cq z0d (fun h => h)⟩ (fun hHeld => ?_)
  clear hK0
  try go_frame
  refine wO 7 (fun K0 hK0 => ?_)
  go_simp
  go_at_call 64
  refine (specTyped _ _ _ sc _ _ _ (args.drop 1) _ _ _ [fr] _ _ _ _ QV.out.toInts QA.out.toInts.drop1 LA.out.toInts (by omega) (by omega)).mono ?_
  rw [HT2.out]
  rintro e y2 ⟨rfl, pb⟩
  replace pc := Lib.hid (pc.out.trans pb)
  clear pb
  refine hK0.out _ _ ⟨pc.out.cq y3d (fun h => h), pc.out.cq z0d (fun h => h)⟩ (fun hHeld => ?_)
  clear hK0
  try go_frame
  refine wpAnyH_done (by kernel_rfl) ?_ _
  have KE := Lib.hid (K6.out.trans pc.out)
  have z1 := pc.out.cq Z1.out (fun h => h)
  clear hHeld QV QA LA pc y3d z0d
  go_wp2_with fail
  exact fin_ hQ ⟨ret_i V.out.symm, KE.out⟩
end
end Go.Proofs.Ytmekdccgjgfiaaa
