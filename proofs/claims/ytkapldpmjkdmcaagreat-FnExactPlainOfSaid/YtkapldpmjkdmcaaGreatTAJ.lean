/- The reference's types of steps: applications. -/
import Derived.Test.YtkapldpmjkdmcaaGreatTAG
import Derived.Test.YtkapldpmjkdmcaaGreatTAI
import Derived.Test.YtkapldpmjkdmcaaGreatTAF
import Derived.Deep.DeepCutAuto
import Derived.Test.YtkapldpmjkdmcaaGreatTAB
import Derived.Deep.RegionLaw
import Derived.Test.YtkapldpmjkdmcaaGreatTAC
import Derived.ArgAppend
import Derived.Test.YtkapldpmjkdmcaaGreatTAH
import Derived.Test.YtkapldpmjkdmcaaGreatTAD
import Derived.Test.YtkapldpmjkdmcaaGreatShelf
namespace Go.Proofs.YtkapldpmjkdmcaaGreat
open Go.RowKit

theorem IntsL.drop1 {w : World} {D : Nat → Prop} {b o n : Nat} {xs : List Int} (h : IntsL w D (some ⟨b, o, none⟩) (n + 1) xs) : IntsL w D (some ⟨b, o + 1, none⟩) n (xs.drop 1) := by
  obtain ⟨h1, h2⟩ := h
  obtain ⟨b', o', e, hd, hc⟩ := h2 (by omega)
  injection e with e
  injection e with e1 e2
  subst e1 e2
  refine ⟨by simp; omega, fun h0 => ⟨b, o + 1, rfl, hd, fun i hi => ?_⟩⟩
  have := hc (i + 1) (by omega)
  rw [Nat.add_assoc, Nat.add_comm 1 i, this]
  cases xs with
  | nil => simp at h1
  | cons x xs => simp [iAt]

section
variable (ds : List DeclL) (rs : List RoutL) (hok : sigsOk ds (rs.map sigR) = true)
include hok

set_option maxRecDepth 100000 in
set_option maxHeartbeats 4000000 in
theorem specSt_11 (into : Int) (args : List Int) (ks : List BlockL) (IH0 : ∀ j, j < ks.length → BlS ds rs (bAt ks j).result (bAt ks j).steps) : StS ds rs (.mk 11 0 into args ks) := by
  intro a0 n0 c0 a1 n1 c1 av nv cv sc aa na ca ak nk ck w hp hv ha hk hlen hall
  refine calls_k fun Q hQ => ?_
  change Rd w (fun _ => True) (encInts args) _ at ha
  change Rd w (fun _ => True) (encBlocks ks) _ at hk
  rw [nS] at hlen
  simp only [StepL.op, StepL.num, StepL.into]
  have ht := (sigsOk_parts hok).1
  have hf := Few.of_ok ht
  have hd4 := typesOk_len ht
  have hr4 : rs.length ≤ 4 := by have := (sigsOk_parts hok).2.2.1; simpa using this
  have hn0 : n0 ≤ 4 := by have := (decls_at hp.1).1; omega
  have hnv : nv ≤ 1052000 := by have := (ints_at hv).1; omega
  have hna : na ≤ 9223372036854775807 := (ints_at ha).2.2.1
  have hnk : ks.length = nk := (blocks_at hk).1
  have hnl : args.length = na := (ints_at ha).1
  have K0 := (Keep.al w (.cells #[.slice a0 n0 c0, .slice a1 n1 c1] 30)).trans (Keep.al _ (.cells #[.int .i64 11, .int .i64 0, .int .i64 into, .slice aa na ca, .slice ak nk ck] 136))
  have R0 := (rowOf w #[.slice a0 n0 c0, .slice a1 n1 c1] 30).alloc (.cells #[.int .i64 11, .int .i64 0, .int .i64 into, .slice aa na ca, .slice ak nk ck] 136)
  have R1 := rowOf (w.alloc (.cells #[.slice a0 n0 c0, .slice a1 n1 c1] 30)) #[.int .i64 11, .int .i64 0, .int .i64 into, .slice aa na ca, .slice ak nk ck] 136
  simp only [World.size_alloc] at R1
  have HNK := Lib.hid hnk
  have HNL := Lib.hid hnl
  have HOK := Lib.hid hok
  have HAll := Lib.hid hall
  have HLen := Lib.hid hlen
  have HT := Lib.hid ht
  have HF := Lib.hid hf
  have IH := Lib.hid IH0
  clear hok hall ht IH0 hnk hnl hf
  cases hi : intoOk sc 11 into
  · have V : Hid (stpT ds (rs.map sigR) sc (.mk 11 0 into args ks) = -1) := stp_into _ _ _ _ _ _ _ _ hi
    have HI := Lib.hid hi
    clear hi
    go_enter Tryz.func129, Tryz.ntmps129
    go_wp2_with fail
    refine (specValidInto _ _ _ sc 11 0 into _ _ _ _ _ _ _ _ (hv.k K0).toInts (by omega)).mono ?_
    rw [HI.out]
    rintro e w1 ⟨rfl, p1⟩
    have K1 := Lib.hid (K0.trans p1)
    have R0' := Lib.hid (row_ext R0 p1 (fun h => h))
    have R1' := Lib.hid (row_ext R1 p1 (fun h => h))
    have x0 := R0'.out.cell (i := 0) (by simp)
    have x1 := R0'.out.cell (i := 1) (by simp)
    have y0 := R1'.out.cell (i := 0) (by simp)
    have y1 := R1'.out.cell (i := 1) (by simp)
    have y2 := R1'.out.cell (i := 2) (by simp)
    have y3 := R1'.out.cell (i := 3) (by simp)
    have y4 := R1'.out.cell (i := 4) (by simp)
    simp at x0 x1 y0 y1 y2 y3 y4
    clear R0 R1 K0 p1
    go_wp2_with fail
    exact fin_ hQ ⟨ret_i V.out.symm, K1.out⟩
  have HI := Lib.hid hi
  clear hi
  by_cases hk0 : nk = 0
  case neg =>
    have hk1 : 0 < nk := by omega
    have V : Hid (stpT ds (rs.map sigR) sc (.mk 11 0 into args ks) = -1) := stp_kids _ _ _ _ _ _ _ _ (by omega) (by omega) (by have := HNK.out; omega)
    clear hk0
    go_enter Tryz.func129, Tryz.ntmps129
    go_wp2_with fail
    refine (specValidInto _ _ _ sc 11 0 into _ _ _ _ _ _ _ _ (hv.k K0).toInts (by omega)).mono ?_
    rw [HI.out]
    rintro e w1 ⟨rfl, p1⟩
    have K1 := Lib.hid (K0.trans p1)
    have R0' := Lib.hid (row_ext R0 p1 (fun h => h))
    have R1' := Lib.hid (row_ext R1 p1 (fun h => h))
    have x0 := R0'.out.cell (i := 0) (by simp)
    have x1 := R0'.out.cell (i := 1) (by simp)
    have y0 := R1'.out.cell (i := 0) (by simp)
    have y1 := R1'.out.cell (i := 1) (by simp)
    have y2 := R1'.out.cell (i := 2) (by simp)
    have y3 := R1'.out.cell (i := 3) (by simp)
    have y4 := R1'.out.cell (i := 4) (by simp)
    simp at x0 x1 y0 y1 y2 y3 y4
    clear R0 R1 K0 p1
    go_wp2_with fail
    exact fin_ hQ ⟨ret_i V.out.symm, K1.out⟩
  subst hk0
  have V0 : Hid (stpT ds (rs.map sigR) sc (.mk 11 0 into args ks) = routS ds (rs.map sigR) sc 11 0 args) := stp_rout _ _ _ _ _ _ _ _ HI.out (by omega) (by omega) HNK.out
  by_cases h2 : na = 2
  case neg =>
    have h2' : ((na : Int) == 2) = false := by simp; omega
    have V : Hid (stpT ds (rs.map sigR) sc (.mk 11 0 into args ks) = -1) := by show _ = _; rw [V0.out, routS_app]; rw [if_neg (fun h => h2 (by have := HNL.out; omega))]
    clear h2
    go_enter Tryz.func129, Tryz.ntmps129
    go_wp2_with fail
    refine (specValidInto _ _ _ sc 11 0 into _ _ _ _ _ _ _ _ (hv.k K0).toInts (by omega)).mono ?_
    rw [HI.out]
    rintro e w1 ⟨rfl, p1⟩
    have K1 := Lib.hid (K0.trans p1)
    have R0' := Lib.hid (row_ext R0 p1 (fun h => h))
    have R1' := Lib.hid (row_ext R1 p1 (fun h => h))
    have x0 := R0'.out.cell (i := 0) (by simp)
    have x1 := R0'.out.cell (i := 1) (by simp)
    have y0 := R1'.out.cell (i := 0) (by simp)
    have y1 := R1'.out.cell (i := 1) (by simp)
    have y2 := R1'.out.cell (i := 2) (by simp)
    have y3 := R1'.out.cell (i := 3) (by simp)
    have y4 := R1'.out.cell (i := 4) (by simp)
    simp at x0 x1 y0 y1 y2 y3 y4
    clear R0 R1 K0 p1
    go_wp2_with fail
    go_quiet (fail)
    go_wp2_with fail
    exact fin_ hQ ⟨ret_i V.out.symm, by first | exact K1.out.drew | exact K1.out.drewN _⟩
  subst h2
  obtain ⟨b, o, rfl, _, d0⟩ := ha.toInts.at (i := 0) (by omega)
  rw [Nat.add_zero] at d0
  generalize hv0 : iAt args 0 = v at d0
  have HVV := Lib.hid hv0
  clear hv0
  by_cases hr : 0 ≤ v ∧ v < (nv : Int)
  case neg =>
    have V : Hid (stpT ds (rs.map sigR) sc (.mk 11 0 into args ks) = -1) := by show _ = _; rw [V0.out, routS_app]; rw [if_neg (fun h => hr (by have h1 := h.2.1; rw [HVV.out] at h1; have := (ints_at hv).1; omega))]
    have HD := Lib.hid (decide_eq_false (p := 0 ≤ v ∧ v ≤ (nv : Int) - 1) (fun h => hr (by omega)))
    clear hr
    go_enter Tryz.func129, Tryz.ntmps129
    go_wp2_with fail
    refine (specValidInto _ _ _ sc 11 0 into _ _ _ _ _ _ _ _ (hv.k K0).toInts (by omega)).mono ?_
    rw [HI.out]
    rintro e w1 ⟨rfl, p1⟩
    have K1 := Lib.hid (K0.trans p1)
    have R0' := Lib.hid (row_ext R0 p1 (fun h => h))
    have R1' := Lib.hid (row_ext R1 p1 (fun h => h))
    have x0 := R0'.out.cell (i := 0) (by simp)
    have x1 := R0'.out.cell (i := 1) (by simp)
    have y0 := R1'.out.cell (i := 0) (by simp)
    have y1 := R1'.out.cell (i := 1) (by simp)
    have y2 := R1'.out.cell (i := 2) (by simp)
    have y3 := R1'.out.cell (i := 3) (by simp)
    have y4 := R1'.out.cell (i := 4) (by simp)
    simp at x0 x1 y0 y1 y2 y3 y4
    clear R0 R1 K0 p1
    go_wp2_with fail
    have g0 := (K1.out.cell (World.block_lt_of_cell? w _ d0) (fun h => h)).trans d0
    go_quiet ((go_at_call 60; exact Calls.quiet_of_same ((specInRange _ _ _ _).mono fun _ _ q => ⟨q.1.trans (by rw [HD.out]), q.2.symm⟩)))
    go_wp2_with fail
    exact fin_ hQ ⟨ret_i V.out.symm, by first | exact K1.out.drew | exact K1.out.drewN _⟩
  obtain ⟨k, rfl⟩ : ∃ k : Nat, v = (k : Int) := ⟨v.toNat, by omega⟩
  have hk' : k < nv := by omega
  obtain ⟨b2, o2, rfl, _, d2⟩ := hv.toInts.at hk'
  generalize hx : iAt sc k = x at d2
  have HX := Lib.hid hx
  have HSL := Lib.hid (ints_at hv).1
  have HD := Lib.hid (decide_eq_true (p := 0 ≤ (k : Int) ∧ (k : Int) ≤ (nv : Int) - 1) (by omega))
  have V1 : Hid (stpT ds (rs.map sigR) sc (.mk 11 0 into args ks) = if isArr ds x = true ∧ typedL sc (args.drop 1) [(dAt ds (x.toNat - 1)).from_] = true then (dAt ds (x.toNat - 1)).to_ else -1) := by
    show _ = _
    rw [V0.out, routS_app, HVV.out, show ((k : Int)).toNat = k from rfl, HX.out]
    by_cases h : isArr ds x = true ∧ typedL sc (args.drop 1) [(dAt ds (x.toNat - 1)).from_] = true
    · rw [if_pos ⟨HNL.out, by have := HSL.out; omega, h⟩, if_pos h]
    · rw [if_neg (fun h3 => h h3.2.2), if_neg h]
  clear hr hx
  cases harr : isArr ds x
  · have V : Hid (stpT ds (rs.map sigR) sc (.mk 11 0 into args ks) = -1) := by show _ = _; rw [V1.out, if_neg (fun h => by rw [harr] at h; exact absurd h.1 (by simp))]
    have HR := Lib.hid harr
    clear harr
    go_enter Tryz.func129, Tryz.ntmps129
    go_wp2_with fail
    refine (specValidInto _ _ _ sc 11 0 into _ _ _ _ _ _ _ _ (hv.k K0).toInts (by omega)).mono ?_
    rw [HI.out]
    rintro e w1 ⟨rfl, p1⟩
    have K1 := Lib.hid (K0.trans p1)
    have R0' := Lib.hid (row_ext R0 p1 (fun h => h))
    have R1' := Lib.hid (row_ext R1 p1 (fun h => h))
    have x0 := R0'.out.cell (i := 0) (by simp)
    have x1 := R0'.out.cell (i := 1) (by simp)
    have y0 := R1'.out.cell (i := 0) (by simp)
    have y1 := R1'.out.cell (i := 1) (by simp)
    have y2 := R1'.out.cell (i := 2) (by simp)
    have y3 := R1'.out.cell (i := 3) (by simp)
    have y4 := R1'.out.cell (i := 4) (by simp)
    simp at x0 x1 y0 y1 y2 y3 y4
    clear R0 R1 K0 p1
    go_wp2_with fail
    have g0 := (K1.out.cell (World.block_lt_of_cell? w _ d0) (fun h => h)).trans d0
    have g2 := (K1.out.cell (World.block_lt_of_cell? w _ d2) (fun h => h)).trans d2
    have qp := hp.k K1.out
    go_quiet (first | (go_at_call 60; exact Calls.quiet_of_same ((specInRange _ _ _ _).mono fun _ _ q => ⟨q.1.trans (by rw [HD.out]), q.2.symm⟩)) | (go_at_call 152; exact Calls.quiet_of_same ((specIsArrow _ _ _ ds _ _ _ ((Rd.toDecls qp.1).drewN _) (by omega)).mono fun _ _ q => ⟨q.1.trans (by rw [HR.out]), q.2.symm⟩)))
    go_wp2_with fail
    exact fin_ hQ ⟨ret_i V.out.symm, by first | exact K1.out.drew | exact K1.out.drewN _⟩
  obtain ⟨g1, g2, _⟩ := isArr_parts harr
  obtain ⟨i, rfl⟩ : ∃ i : Nat, x = (i : Int) + 1 := ⟨(x - 1).toNat, by omega⟩
  have hi : i < ds.length := by omega
  have HI2 : Hid (((i : Int) + 1).toNat - 1 = i) := by show _ = _; omega
  obtain ⟨hdl, _, _, hda⟩ := decls_at hp.1
  have hin : i < n0 := by omega
  obtain ⟨bd, od, rfl, _, ad2, nd2, cd2, dd0, dd1, dd2, _⟩ := hda i hin
  have HR := Lib.hid harr
  clear harr g1 g2 hda hdl
  obtain ⟨fr, hfr⟩ : ∃ fr, (dAt ds i).from_ = fr := ⟨_, rfl⟩
  obtain ⟨tz, hto⟩ : ∃ tz, (dAt ds i).to_ = tz := ⟨_, rfl⟩
  rw [hfr] at dd0
  rw [hto] at dd1
  have HFR := Lib.hid hfr
  have HTO := Lib.hid hto
  clear hfr hto
  have hw1 : IntKind.i64.wrap (i : Int) = (i : Int) := by rw [IntWalk.i64_in _ (by omega)]
  have hw2 : (0 : Int) ≤ (i : Int) := by omega
  have hw3 : (i : Int) < (n0 : Int) := by omega
  cases hd : typedL sc (args.drop 1) [fr]
  · have V : Hid (stpT ds (rs.map sigR) sc (.mk 11 0 into args ks) = -1) := by show _ = _; rw [V1.out, HI2.out, HFR.out, if_neg (fun h => by rw [hd] at h; exact absurd h.2 (by simp))]
    have HT2 := Lib.hid hd
    clear hd
    go_enter Tryz.func129, Tryz.ntmps129
    go_wp2_with fail
    refine (specValidInto _ _ _ sc 11 0 into _ _ _ _ _ _ _ _ (hv.k K0).toInts (by omega)).mono ?_
    rw [HI.out]
    rintro e w1 ⟨rfl, p1⟩
    have K1 := Lib.hid (K0.trans p1)
    have R0' := Lib.hid (row_ext R0 p1 (fun h => h))
    have R1' := Lib.hid (row_ext R1 p1 (fun h => h))
    have x0 := R0'.out.cell (i := 0) (by simp)
    have x1 := R0'.out.cell (i := 1) (by simp)
    have y0 := R1'.out.cell (i := 0) (by simp)
    have y1 := R1'.out.cell (i := 1) (by simp)
    have y2 := R1'.out.cell (i := 2) (by simp)
    have y3 := R1'.out.cell (i := 3) (by simp)
    have y4 := R1'.out.cell (i := 4) (by simp)
    simp at x0 x1 y0 y1 y2 y3 y4
    clear R0 R1 K0 p1
    go_wp2_with fail
    have g0 := (K1.out.cell (World.block_lt_of_cell? w _ d0) (fun h => h)).trans d0
    have g2 := (K1.out.cell (World.block_lt_of_cell? w _ d2) (fun h => h)).trans d2
    have e0 := (K1.out.cell (World.block_lt_of_cell? w _ dd0) (fun h => h)).trans dd0
    have e1 := (K1.out.cell (World.block_lt_of_cell? w _ dd1) (fun h => h)).trans dd1
    have e2 := (K1.out.cell (World.block_lt_of_cell? w _ dd2) (fun h => h)).trans dd2
    have qp := hp.k K1.out
    go_quiet (first | (go_at_call 60; exact Calls.quiet_of_same ((specInRange _ _ _ _).mono fun _ _ q => ⟨q.1.trans (by rw [HD.out]), q.2.symm⟩)) | (go_at_call 152; exact Calls.quiet_of_same ((specIsArrow _ _ _ ds _ _ _ ((Rd.toDecls qp.1).drewN _) (by omega)).mono fun _ _ q => ⟨q.1.trans (by rw [HR.out]), q.2.symm⟩)))
    go_wp2_with fail
    have kW : Keep w1 (w1.drewN nq) := (Ext.refl _ w1).drewN nq
    generalize w1.drewN nq = W at kW ⊢
    have x0 := (kW.cell (World.block_lt_of_cell? _ _ x0) (fun h => h)).trans x0
    have y3 := (kW.cell (World.block_lt_of_cell? _ _ y3) (fun h => h)).trans y3
    have g0 := (kW.cell (World.block_lt_of_cell? _ _ g0) (fun h => h)).trans g0
    have g2 := (kW.cell (World.block_lt_of_cell? _ _ g2) (fun h => h)).trans g2
    have e0 := (kW.cell (World.block_lt_of_cell? _ _ e0) (fun h => h)).trans e0
    have e1 := (kW.cell (World.block_lt_of_cell? _ _ e1) (fun h => h)).trans e1
    have e2 := (kW.cell (World.block_lt_of_cell? _ _ e2) (fun h => h)).trans e2
    have K2 := Lib.hid (K1.out.trans kW)
    have pc := Ext.refl0 W
    go_region_held3 (fun w' => w'.cell? ⟨w.heap.size, 0, none⟩ = some (.slice (some ⟨bd, od, none⟩) n0 c0) ∧ w'.cell? ⟨w.heap.size + 1, 3, none⟩ = some (.slice (some ⟨b, o, none⟩) 2 ca) ∧ w'.cell? ⟨b, o, none⟩ = some (.int .i64 k) ∧ w'.cell? ⟨b2, o2 + k, none⟩ = some (.int .i64 ((i : Int) + 1)) ∧ w'.cell? ⟨bd, od + i * 3, none⟩ = some (.int .i64 fr) ∧ w'.cell? ⟨bd, od + i * 3 + 1, none⟩ = some (.int .i64 tz) ∧ w'.cell? ⟨bd, od + i * 3 + 2, none⟩ = some (.slice ad2 nd2 cd2))
      (first | exact ⟨Keep.at pc x0, Keep.at pc y3, Keep.at pc g0, Keep.at pc g2, Keep.at pc e0, Keep.at pc e1, Keep.at pc e2⟩ | exact ⟨Keep.at (Ext.trans pc (Keep.al _ _)) x0, Keep.at (Ext.trans pc (Keep.al _ _)) y3, Keep.at (Ext.trans pc (Keep.al _ _)) g0, Keep.at (Ext.trans pc (Keep.al _ _)) g2, Keep.at (Ext.trans pc (Keep.al _ _)) e0, Keep.at (Ext.trans pc (Keep.al _ _)) e1, Keep.at (Ext.trans pc (Keep.al _ _)) e2⟩ | go_keep)
      (fail)
    go_upto_region 31 with fail
    have k5 : Keep W ((W.alloc (.cells #[.int .i64 fr, .int .i64 tz, .slice ad2 nd2 cd2] 125)).drew) := (Keep.al W _).drew
    have z0 : ((W.alloc (.cells #[.int .i64 fr, .int .i64 tz, .slice ad2 nd2 cd2] 125)).drew).cell? ⟨W.heap.size, 0, none⟩ = some (.int .i64 fr) := (rowOf W #[.int .i64 fr, .int .i64 tz, .slice ad2 nd2 cd2] 125).cell (i := 0) (by simp)
    have z1 : ((W.alloc (.cells #[.int .i64 fr, .int .i64 tz, .slice ad2 nd2 cd2] 125)).drew).cell? ⟨W.heap.size, 1, none⟩ = some (.int .i64 tz) := (rowOf W #[.int .i64 fr, .int .i64 tz, .slice ad2 nd2 cd2] 125).cell (i := 1) (by simp)
    generalize (W.alloc (.cells #[.int .i64 fr, .int .i64 tz, .slice ad2 nd2 cd2] 125)).drew = W6 at k5 z0 z1 ⊢
    have y3d : W6.drew.cell? ⟨w.heap.size + 1, 3, none⟩ = some (.slice (some ⟨b, o, none⟩) 2 ca) := (k5.cell (World.block_lt_of_cell? _ _ y3) (fun h => h)).trans y3
    have z0d : W6.drew.cell? ⟨W.heap.size, 0, none⟩ = some (.int .i64 fr) := z0
    have KD : Keep W6 W6.drew := (Ext.refl (fun _ => False) W6).drew
    have K6 := Lib.hid ((K2.out.trans k5).trans KD)
    have Z1 := Lib.hid (KD.cq z1 (fun h => h))
    have hca2 : 2 ≤ ca := by have := (ints_at ha).2.1; omega
    have hca : (1 : Int) ≤ (ca : Int) := by omega
    have hca1 : ¬ ca = 1 := by omega
    have QV := Lib.hid (hv.k K6.out)
    have QA := Lib.hid (ha.k K6.out)
    clear pc x0 g0 g2 e0 e1 e2 y0 y1 y2 y3 y4 x1 z0 z1 k5 KD kW
    refine wp_region_held_drew (S := fun w' => w'.cell? ⟨w.heap.size + 1, 3, none⟩ = some (.slice (some ⟨b, o, none⟩) 2 ca) ∧ w'.cell? ⟨W.heap.size, 0, none⟩ = some (.int .i64 fr)) (by kernel_rfl) ⟨y3d, z0d⟩ (fun hHeld => ?_)
    have pc : Hid (Keep W6.drew W6.drew) := Ext.refl _ _
    generalize W6.drew = W0 at *
    refine wT 0 hHeld ?_
    try go_frame
    refine wT 1 hHeld ?_
    try go_frame
    refine wT 2 hHeld ?_
    try go_frame
    refine wT 3 hHeld ?_
    try go_frame
    refine wT 4 hHeld ?_
    try go_frame
    refine wT 5 hHeld ?_
    try go_frame
    refine wO 6 (fun K0 hK0 => ?_)
    go_simp
    obtain ⟨y1, hW⟩ : ∃ N, N = W0.alloc (.cells #[.int .i64 fr] 3) := ⟨_, rfl⟩
    obtain ⟨sl, hsl⟩ : ∃ s, s = W0.heap.size := ⟨_, rfl⟩
    rw [← hsl, ← hW]
    have LA : Hid (Rd y1 (fun _ => True) (encInts [fr]) (.slice (some ⟨sl, 0, none⟩) 1 1)) := by
      rw [hW, hsl]
      exact lit_intsD W0 (fun _ => True) 3 [fr] #[.int .i64 fr] 1 trivial rfl rfl (by omega)
    have kk : Keep W0 y1 := by rw [hW]; exact Keep.al _ _
    replace pc := Lib.hid (pc.out.trans kk)
    replace QV := Lib.hid (QV.out.k kk)
    replace QA := Lib.hid (QA.out.k kk)
    clear kk hW hsl
    refine hK0.out _ _ ⟨pc.out.cq y3d (fun h => h), pc.out.cq z0d (fun h => h)⟩ (fun hHeld => ?_)
    clear hK0
    try go_frame
    refine wO 7 (fun K0 hK0 => ?_)
    go_simp
    go_at_call 183
    refine (specTyped _ _ _ sc _ _ _ (args.drop 1) _ _ _ [fr] _ _ _ _ QV.out.toInts QA.out.toInts.drop1 LA.out.toInts (by omega) (by omega)).mono ?_
    rw [HT2.out]
    rintro e y2 ⟨rfl, pb⟩
    replace pc := Lib.hid (pc.out.trans pb)
    clear pb
    refine hK0.out _ _ ⟨pc.out.cq y3d (fun h => h), pc.out.cq z0d (fun h => h)⟩ (fun hHeld => ?_)
    clear hK0
    try go_frame
    refine wpAnyH_done (by kernel_rfl) ?_ _
    have KE := Lib.hid (K6.out.trans pc.out)
    have z1 := pc.out.cq Z1.out (fun h => h)
    clear hHeld QV QA LA pc y3d z0d
    go_wp2_with fail
    exact fin_ hQ ⟨ret_i V.out.symm, KE.out⟩
  have V : Hid (stpT ds (rs.map sigR) sc (.mk 11 0 into args ks) = tz) := by show _ = _; rw [V1.out, HI2.out, HFR.out, HTO.out, if_pos ⟨HR.out, hd⟩]
  have HT2 := Lib.hid hd
  clear hd
  go_enter Tryz.func129, Tryz.ntmps129
  go_wp2_with fail
  refine (specValidInto _ _ _ sc 11 0 into _ _ _ _ _ _ _ _ (hv.k K0).toInts (by omega)).mono ?_
  rw [HI.out]
  rintro e w1 ⟨rfl, p1⟩
  have K1 := Lib.hid (K0.trans p1)
  have R0' := Lib.hid (row_ext R0 p1 (fun h => h))
  have R1' := Lib.hid (row_ext R1 p1 (fun h => h))
  have x0 := R0'.out.cell (i := 0) (by simp)
  have x1 := R0'.out.cell (i := 1) (by simp)
  have y0 := R1'.out.cell (i := 0) (by simp)
  have y1 := R1'.out.cell (i := 1) (by simp)
  have y2 := R1'.out.cell (i := 2) (by simp)
  have y3 := R1'.out.cell (i := 3) (by simp)
  have y4 := R1'.out.cell (i := 4) (by simp)
  simp at x0 x1 y0 y1 y2 y3 y4
  clear R0 R1 K0 p1
  go_wp2_with fail
  have g0 := (K1.out.cell (World.block_lt_of_cell? w _ d0) (fun h => h)).trans d0
  have g2 := (K1.out.cell (World.block_lt_of_cell? w _ d2) (fun h => h)).trans d2
  have e0 := (K1.out.cell (World.block_lt_of_cell? w _ dd0) (fun h => h)).trans dd0
  have e1 := (K1.out.cell (World.block_lt_of_cell? w _ dd1) (fun h => h)).trans dd1
  have e2 := (K1.out.cell (World.block_lt_of_cell? w _ dd2) (fun h => h)).trans dd2
  have qp := hp.k K1.out
  go_quiet (first | (go_at_call 60; exact Calls.quiet_of_same ((specInRange _ _ _ _).mono fun _ _ q => ⟨q.1.trans (by rw [HD.out]), q.2.symm⟩)) | (go_at_call 152; exact Calls.quiet_of_same ((specIsArrow _ _ _ ds _ _ _ ((Rd.toDecls qp.1).drewN _) (by omega)).mono fun _ _ q => ⟨q.1.trans (by rw [HR.out]), q.2.symm⟩)))
  go_wp2_with fail
  have kW : Keep w1 (w1.drewN nq) := (Ext.refl _ w1).drewN nq
  generalize w1.drewN nq = W at kW ⊢
  have x0 := (kW.cell (World.block_lt_of_cell? _ _ x0) (fun h => h)).trans x0
  have y3 := (kW.cell (World.block_lt_of_cell? _ _ y3) (fun h => h)).trans y3
  have g0 := (kW.cell (World.block_lt_of_cell? _ _ g0) (fun h => h)).trans g0
  have g2 := (kW.cell (World.block_lt_of_cell? _ _ g2) (fun h => h)).trans g2
  have e0 := (kW.cell (World.block_lt_of_cell? _ _ e0) (fun h => h)).trans e0
  have e1 := (kW.cell (World.block_lt_of_cell? _ _ e1) (fun h => h)).trans e1
  have e2 := (kW.cell (World.block_lt_of_cell? _ _ e2) (fun h => h)).trans e2
  have K2 := Lib.hid (K1.out.trans kW)
  have pc := Ext.refl0 W
  go_region_held3 (fun w' => w'.cell? ⟨w.heap.size, 0, none⟩ = some (.slice (some ⟨bd, od, none⟩) n0 c0) ∧ w'.cell? ⟨w.heap.size + 1, 3, none⟩ = some (.slice (some ⟨b, o, none⟩) 2 ca) ∧ w'.cell? ⟨b, o, none⟩ = some (.int .i64 k) ∧ w'.cell? ⟨b2, o2 + k, none⟩ = some (.int .i64 ((i : Int) + 1)) ∧ w'.cell? ⟨bd, od + i * 3, none⟩ = some (.int .i64 fr) ∧ w'.cell? ⟨bd, od + i * 3 + 1, none⟩ = some (.int .i64 tz) ∧ w'.cell? ⟨bd, od + i * 3 + 2, none⟩ = some (.slice ad2 nd2 cd2))
    (first | exact ⟨Keep.at pc x0, Keep.at pc y3, Keep.at pc g0, Keep.at pc g2, Keep.at pc e0, Keep.at pc e1, Keep.at pc e2⟩ | exact ⟨Keep.at (Ext.trans pc (Keep.al _ _)) x0, Keep.at (Ext.trans pc (Keep.al _ _)) y3, Keep.at (Ext.trans pc (Keep.al _ _)) g0, Keep.at (Ext.trans pc (Keep.al _ _)) g2, Keep.at (Ext.trans pc (Keep.al _ _)) e0, Keep.at (Ext.trans pc (Keep.al _ _)) e1, Keep.at (Ext.trans pc (Keep.al _ _)) e2⟩ | go_keep)
    (fail)
  go_upto_region 31 with fail
  have k5 : Keep W ((W.alloc (.cells #[.int .i64 fr, .int .i64 tz, .slice ad2 nd2 cd2] 125)).drew) := (Keep.al W _).drew
  have z0 : ((W.alloc (.cells #[.int .i64 fr, .int .i64 tz, .slice ad2 nd2 cd2] 125)).drew).cell? ⟨W.heap.size, 0, none⟩ = some (.int .i64 fr) := (rowOf W #[.int .i64 fr, .int .i64 tz, .slice ad2 nd2 cd2] 125).cell (i := 0) (by simp)
  have z1 : ((W.alloc (.cells #[.int .i64 fr, .int .i64 tz, .slice ad2 nd2 cd2] 125)).drew).cell? ⟨W.heap.size, 1, none⟩ = some (.int .i64 tz) := (rowOf W #[.int .i64 fr, .int .i64 tz, .slice ad2 nd2 cd2] 125).cell (i := 1) (by simp)
  generalize (W.alloc (.cells #[.int .i64 fr, .int .i64 tz, .slice ad2 nd2 cd2] 125)).drew = W6 at k5 z0 z1 ⊢
  have y3d : W6.drew.cell? ⟨w.heap.size + 1, 3, none⟩ = some (.slice (some ⟨b, o, none⟩) 2 ca) := (k5.cell (World.block_lt_of_cell? _ _ y3) (fun h => h)).trans y3
  have z0d : W6.drew.cell? ⟨W.heap.size, 0, none⟩ = some (.int .i64 fr) := z0
  have KD : Keep W6 W6.drew := (Ext.refl (fun _ => False) W6).drew
  have K6 := Lib.hid ((K2.out.trans k5).trans KD)
  have Z1 := Lib.hid (KD.cq z1 (fun h => h))
  have hca2 : 2 ≤ ca := by have := (ints_at ha).2.1; omega
  have hca : (1 : Int) ≤ (ca : Int) := by omega
  have hca1 : ¬ ca = 1 := by omega
  have QV := Lib.hid (hv.k K6.out)
  have QA := Lib.hid (ha.k K6.out)
  clear pc x0 g0 g2 e0 e1 e2 y0 y1 y2 y3 y4 x1 z0 z1 k5 KD kW
  refine wp_region_held_drew (S := fun w' => w'.cell? ⟨w.heap.size + 1, 3, none⟩ = some (.slice (some ⟨b, o, none⟩) 2 ca) ∧ w'.cell? ⟨W.heap.size, 0, none⟩ = some (.int .i64 fr)) (by kernel_rfl) ⟨y3d, z0d⟩ (fun hHeld => ?_)
  have pc : Hid (Keep W6.drew W6.drew) := Ext.refl _ _
  generalize W6.drew = W0 at *
  refine wT 0 hHeld ?_
  try go_frame
  refine wT 1 hHeld ?_
  try go_frame
  refine wT 2 hHeld ?_
  try go_frame
  refine wT 3 hHeld ?_
  try go_frame
  refine wT 4 hHeld ?_
  try go_frame
  refine wT 5 hHeld ?_
  try go_frame
  refine wO 6 (fun K0 hK0 => ?_)
  go_simp
  obtain ⟨y1, hW⟩ : ∃ N, N = W0.alloc (.cells #[.int .i64 fr] 3) := ⟨_, rfl⟩
  obtain ⟨sl, hsl⟩ : ∃ s, s = W0.heap.size := ⟨_, rfl⟩
  rw [← hsl, ← hW]
  have LA : Hid (Rd y1 (fun _ => True) (encInts [fr]) (.slice (some ⟨sl, 0, none⟩) 1 1)) := by
    rw [hW, hsl]
    exact lit_intsD W0 (fun _ => True) 3 [fr] #[.int .i64 fr] 1 trivial rfl rfl (by omega)
  have kk : Keep W0 y1 := by rw [hW]; exact Keep.al _ _
  replace pc := Lib.hid (pc.out.trans kk)
  replace QV := Lib.hid (QV.out.k kk)
  replace QA := Lib.hid (QA.out.k kk)
  clear kk hW hsl
  refine hK0.out _ _ ⟨pc.out.cq y3d (fun h => h), pc.out.cq z0d (fun h => h)⟩ (fun hHeld => ?_)
  clear hK0
  try go_frame
  refine wO 7 (fun K0 hK0 => ?_)
  go_simp
  go_at_call 183
  refine (specTyped _ _ _ sc _ _ _ (args.drop 1) _ _ _ [fr] _ _ _ _ QV.out.toInts QA.out.toInts.drop1 LA.out.toInts (by omega) (by omega)).mono ?_
  rw [HT2.out]
  rintro e y2 ⟨rfl, pb⟩
  replace pc := Lib.hid (pc.out.trans pb)
  clear pb
  refine hK0.out _ _ ⟨pc.out.cq y3d (fun h => h), pc.out.cq z0d (fun h => h)⟩ (fun hHeld => ?_)
  clear hK0
  try go_frame
  refine wpAnyH_done (by kernel_rfl) ?_ _
  have KE := Lib.hid (K6.out.trans pc.out)
  have z1 := pc.out.cq Z1.out (fun h => h)
  clear hHeld QV QA LA pc y3d z0d
  go_wp2_with fail
  exact fin_ hQ ⟨ret_i V.out.symm, KE.out⟩
end
end Go.Proofs.YtkapldpmjkdmcaaGreat
/- append as one step of a region that draws; rows of the call's own that grow by one element. -/
namespace Go.Proofs.YtkapldpmjkdmcaaGreat
open Go.RowKit

theorem step_app {P : Program} {ops : Array Oper} {o : Oper} {a : Act} {w : World} {K : Act → World → Prop} {Q : Exit → Act → World → Prop} {E : Prop} (hgd : o.guard = none) (s x : Operand) (t : TypeId)
    (ho : o.op = .call { callee := .builtin .append, args := #[s, x], argTypes := #[t, t] })
    (base : Nat) (e : TypeId) (z : Value) (size bytes : Nat) (ht : P.underlying t = some (.slice e)) (hinfo : (P.info? e).map (fun i => (i.zero, i.size, i.bytes)) = some (some z, size, bytes))
    (hzs : z.cells.size = size) (hsz : 0 < size)
    (v : Value) (n : Nat) (xs : List Value) (hs : a.eval s = v) (hown : w.ownsRow base e size v n xs)
    (A : Option Addr) (m c : Nat) (news : List Value) (hx : a.eval x = .slice A m c) (hr : HoldsC w size A m news) (h1 : ∀ u ∈ news, u.oneCell' = true)
    (hbytes : (n + m) * bytes ≤ 140737488355328) (h63 : n + m ≤ 9223372036854775807) (hbase : base ≤ w.heap.size)
    (h : ∀ v' w', w'.ownsRow base e size v' (n + m) (xs ++ news) → w.grownBy w' v.ownBlock → (v'.ownBlock = v.ownBlock ∨ v'.ownBlock = some w.heap.size) → K (a.put o.dst v') w') :
    if Region.wanted o (yielded ops a.tmps) = true then Oper.wp P o a w K Q else E := by
  have hw : Region.wanted o (yielded ops a.tmps) = true := by simp [Region.wanted, hgd]
  rw [if_pos hw]
  obtain ⟨i, hi, hzz⟩ := Option.map_eq_some_iff.1 hinfo
  simp only [Prod.mk.injEq] at hzz
  obtain ⟨hz, hsize, hby⟩ := hzz
  obtain ⟨v', w', hrun, h2, h3, h4⟩ := run_append_c (P := P) w base t o.type e i z size bytes ht hi hz hsize hby hzs hsz v n xs hown A m c news hr h1 (by simp only [maxLen]; omega) hbytes hbase
  unfold Oper.wp
  simp [execOp, ho, resolve, invoke, builtin, hs, hx, hrun, Result.andThen]
  exact h v' w' h2 h3 h4
/-- The cells of a row that is owned are what they are. -/
theorem ownsRow_same {w : World} {base : Nat} {e : TypeId} {size : Nat} {v : Value} {n : Nat} {xs xs' : List Value} (h1 : w.ownsRow base e size v n xs) (hxs' : w.ownsRow base e size v n xs') : xs' = xs := by
  rcases hxs'.2 with ⟨e1, e2⟩ | ⟨g, cap, cur, e1, _, hg, _, _, _, htake⟩
  · have l1 := hxs'.1
    have l2 := h1.1
    rw [e2, Nat.zero_mul] at l1 l2
    rw [List.eq_nil_of_length_eq_zero l1, List.eq_nil_of_length_eq_zero l2]
  · rcases h1.2 with ⟨f1, f2⟩ | ⟨g', cap', cur', f1, _, hg', _, _, _, htake'⟩
    · have l1 := hxs'.1
      have l2 := h1.1
      rw [f2, Nat.zero_mul] at l1 l2
      rw [List.eq_nil_of_length_eq_zero l1, List.eq_nil_of_length_eq_zero l2]
    · rw [e1] at f1
      injection f1 with f1
      injection f1 with f1
      injection f1 with f1
      subst f1
      rw [hg] at hg'
      injection hg' with hg'
      injection hg' with hg'
      rw [← htake, ← htake', hg']

theorem Acc.bound {w : World} {base : Nat} {D : Nat → Prop} {T : TypeId} {s : Nat} {v : Value} {rows : List (List Dat)} (h : Acc w base D T s v rows) : ∀ k, v.ownBlock = some k → base ≤ k ∧ k < w.heap.size := by
  obtain ⟨xs, E, h1, _⟩ := h
  exact h1.lt
end Go.Proofs.YtkapldpmjkdmcaaGreat
/- append of one element of the call's own, told by what the element holds: as a step of a region that draws, and plain. -/
namespace Go.Proofs.YtkapldpmjkdmcaaGreat
open Go.RowKit

theorem Acc.lt {w : World} {base : Nat} {D : Nat → Prop} {T : TypeId} {s : Nat} {v : Value} {rows : List (List Dat)} (h : Acc w base D T s v rows) : Acc w base (fun k => D k ∧ k < w.heap.size) T s v rows := by
  obtain ⟨xs, E, h1, h2, h3, h4, h5⟩ := h
  exact ⟨xs, E, h1, h2, fun i j k hi hj hk => ⟨⟨(h3 i j k hi hj hk).1, (h3 i j k hi hj hk).2.1⟩, (h3 i j k hi hj hk).2⟩, h4, h5⟩

/-- The cells of a value list that has just been laid. -/
theorem cells_lit (w : World) (us : List Value) (T : TypeId) : ∀ (j : Nat) (u : Value), us[j]? = some u → (w.alloc (.cells us.toArray T)).cell? ⟨w.heap.size, j, none⟩ = some u := by
  intro j u hj
  rw [boxk (Ext.refl _ _) j]
  simpa using hj
theorem ToS.cons {lo m hi : Nat} {w : World} {d : Dat} {ds2 : List Dat} {u : Value} {us2 : List Value} (h : ToS lo m w [d] [u]) (h2 : ToS m hi w ds2 us2) (hlo : lo ≤ m) (hhi : m ≤ hi) : ToS lo hi w (d :: ds2) (u :: us2) := h.app h2 hlo hhi
/-- What a slice of the call's own holds, between two worlds. -/
theorem ToS.one {lo hi : Nat} {w : World} {D : Nat → Prop} {d : Dat} {u : Value} (h : Own w D d u) (hD : ∀ k, D k → k < w.heap.size → lo ≤ k ∧ k < hi) : ToS lo hi w [d] [u] := by
  refine ⟨fun i k => i = 0 ∧ lo ≤ k ∧ k < hi, fun i k hk => hk.2, fun i i' k hk hk' => by omega, rfl, fun i hi => ?_⟩
  obtain rfl : i = 0 := by simpa using hi
  exact ⟨u, rfl, h.lt.mono (fun k hk => ⟨rfl, hD k hk.1 hk.2⟩)⟩

end Go.Proofs.YtkapldpmjkdmcaaGreat
/- append of an integer to a row that others still read: what the row held is there again when the longer one is given up. -/
namespace Go.Proofs.YtkapldpmjkdmcaaGreat
open Go.RowKit

/-- v holds xs in a row of its own, from base on. -/
def VR (w : World) (base : Nat) (v : Value) (xs : List Int) : Prop := w.ownsRow base 3 1 v xs.length (xs.map (Value.int .i64))
theorem VR.ext {S : Nat → Prop} {w w' : World} {base : Nat} {v : Value} {xs : List Int} (h : VR w base v xs) (hx : Ext S w w') (hs : ∀ g, v.ownBlock = some g → ¬ S g) : VR w' base v xs := by
  obtain ⟨h1, h2⟩ := h
  refine ⟨h1, ?_⟩
  rcases h2 with h2 | ⟨g, cap, cur, e, hb, hg, rest⟩
  · exact .inl h2
  · exact .inr ⟨g, cap, cur, e, hb, (hx.block g (Array.getElem?_eq_some_iff.1 hg).1 (hs g (by rw [e]; rfl))).trans hg, rest⟩
theorem VR.k {w w' : World} {base : Nat} {v : Value} {xs : List Int} (h : VR w base v xs) (hx : Keep w w') : VR w' base v xs := h.ext hx (fun _ _ h => h)
theorem VR.lt {w : World} {base : Nat} {v : Value} {xs : List Int} (h : VR w base v xs) : ∀ k, v.ownBlock = some k → base ≤ k ∧ k < w.heap.size := World.ownsRow.lt h
theorem VR.slice {w : World} {base : Nat} {v : Value} {xs : List Int} (h : VR w base v xs) : ∃ a c, v = .slice a xs.length c ∧ xs.length ≤ c ∧ OwnInts w (fun k => v.ownBlock = some k) a xs.length xs := by
  have h0 := h
  obtain ⟨h1, h2⟩ := h
  obtain ⟨a, c, e, hc, ho⟩ := own_of_row h0
  refine ⟨a, c, e, hc, ho.1, fun hn => ?_⟩
  obtain ⟨b, N, f, ea, hd, q1, q2, q3⟩ := ho.2 hn
  exact ⟨b, N, f, ea, by rw [e, ea]; rfl, q1, q2, q3⟩

/-- What an append of y to v leaves. -/
structure AppV (w : World) (base : Nat) (v : Value) (xs : List Int) (y : Int) (v' : Value) (w' : World) : Prop where
  row : VR w' base v' (xs ++ [y])
  ext : Ext (fun r => v.ownBlock = some r) w w'
  old : VR w' base v xs
  back : ∀ w'', Ext (fun r => v'.ownBlock = some r) w' w'' → VR w'' base v' (xs ++ [y]) → VR w'' base v xs
  blk : ∀ r, v'.ownBlock = some r → v.ownBlock = some r ∨ w.heap.size ≤ r

end Go.Proofs.YtkapldpmjkdmcaaGreat
/- The reference's types of blocks. -/
namespace Go.Proofs.YtkapldpmjkdmcaaGreat
open Go.RowKit

theorem nSs_len (ss : List StepL) : ss.length ≤ nSs ss := by
  induction ss with
  | nil => simp
  | cons s ss ih => rw [nSs, nS_eq]; simp; omega

section
variable (ds : List DeclL) (rs : List RoutL) (hok : sigsOk ds (rs.map sigR) = true)
include hok
theorem specStp (s : StepL) (IH0 : ∀ j, j < s.kids.length → BlS ds rs (bAt s.kids j).result (bAt s.kids j).steps) : StS ds rs s := by
  obtain ⟨op, num, into, args, ks⟩ := s
  change ∀ j, j < ks.length → BlS ds rs (bAt ks j).result (bAt ks j).steps at IH0
  by_cases hn : num = 0
  · subst hn
    rcases (show (op < 0 ∨ op = 12 ∨ op = 13 ∨ 17 < op) ∨ op = 0 ∨ op = 1 ∨ op = 2 ∨ op = 3 ∨ op = 4 ∨ op = 5 ∨ op = 6 ∨ op = 7 ∨ op = 8 ∨ op = 9 ∨ op = 10 ∨ op = 11 ∨ op = 14 ∨ op = 15 ∨ op = 16 ∨ op = 17 by omega) with h | rfl | rfl | rfl | rfl | rfl | rfl | rfl | rfl | rfl | rfl | rfl | rfl | rfl | rfl | rfl | rfl
    · exact specSt_other ds rs hok op h into args ks IH0
    · exact specSt_0_z ds rs hok into args ks IH0
    · exact specSt_1 ds rs hok into args ks IH0
    · exact specSt_2 ds rs hok into args ks IH0
    · exact specSt_3 ds rs hok into args ks IH0
    · exact specSt_4 ds rs hok into args ks IH0
    · exact specSt_5 ds rs hok into args ks IH0
    · exact specSt_6_z ds rs hok into args ks IH0
    · exact specSt_7 ds rs hok into args ks IH0
    · exact specSt_8_z ds rs hok into args ks IH0
    · exact specSt_9_z ds rs hok into args ks IH0
    · exact specSt_10_z ds rs hok into args ks IH0
    · exact specSt_11 ds rs hok into args ks IH0
    · exact specSt_14 ds rs hok into args ks IH0
    · exact specSt_15 ds rs hok into args ks IH0
    · exact specSt_16 ds rs hok into args ks IH0
    · exact specSt_17 ds rs hok into args ks IH0
  · by_cases hop : op = 0 ∨ op = 6 ∨ op = 8 ∨ op = 9 ∨ op = 10
    · rcases hop with rfl | rfl | rfl | rfl | rfl
      · exact specSt_0_n ds rs hok num hn into args ks IH0
      · exact specSt_6_n ds rs hok num hn into args ks IH0
      · exact specSt_8_n ds rs hok num hn into args ks IH0
      · exact specSt_9_n ds rs hok num hn into args ks IH0
      · exact specSt_10_n ds rs hok num hn into args ks IH0
    · exact specSt_num ds rs hok op num hn hop into args ks IH0

set_option maxRecDepth 100000 in
set_option maxHeartbeats 1000000 in
theorem specBlk_of (res : Int) (ss : List StepL) (IH0 : ∀ j, j < ss.length → StS ds rs (sAt ss j)) : BlS ds rs res ss := by
  intro a0 n0 c0 a1 n1 c1 av nv cv sc a n c w hp hv hs hlen hall
  refine calls_k fun Q hQ => ?_
  obtain ⟨e1, hnc, hnm, hat⟩ := steps_at hs
  have HL := Lib.hid e1
  have HA := Lib.hid hat
  have IH := Lib.hid IH0
  have HOK := Lib.hid hok
  have hnl : n ≤ 263000 := by have := nSs_len ss; omega
  have hnv : nv ≤ 1052000 := by have := (ints_at hv).1; omega
  have K0 := (Keep.al w (.cells #[.slice a0 n0 c0, .slice a1 n1 c1] 30)).trans (Keep.al _ (.cells #[.slice a n c, .int .i64 res] 69))
  have R0 := (rowOf w #[.slice a0 n0 c0, .slice a1 n1 c1] 30).alloc (.cells #[.slice a n c, .int .i64 res] 69)
  have R1 := rowOf (w.alloc (.cells #[.slice a0 n0 c0, .slice a1 n1 c1] 30)) #[.slice a n c, .int .i64 res] 69
  simp only [World.size_alloc] at R1
  have R0a := Lib.hid R0
  have R1a := Lib.hid R1
  have hv0 := hv.toInts.ext K0 (fun _ _ h => h)
  have HLen := Lib.hid hlen
  have HAll := Lib.hid hall
  have hzm : ((w.alloc (.cells #[.slice a0 n0 c0, .slice a1 n1 c1] 30)).alloc (.cells #[.slice a n c, .int .i64 res] 69)).heap.size = w.heap.size + 2 := by simp
  obtain ⟨Z, hZ⟩ : ∃ Z, runT ds (rs.map sigR) res sc ss = Z := ⟨_, rfl⟩
  have HZ := Lib.hid hZ
  rw [hZ] at hQ
  clear e1 hat IH0 hlen hall hs R0 R1 hZ
  go_enter Tryz.func78, Tryz.ntmps78
  go_wp2_with fail
  refine (specCopyRow _ _ _ _ _ _ hv0 (by omega)).mono ?_
  rintro e w1 ⟨v7, rfl, o7, k1⟩
  have hs1 := k1.size
  have hw1 : w.heap.size + 2 ≤ w1.heap.size := by omega
  have V7 : Hid (VR w1 (w.heap.size + 2) v7 sc) := by
    show VR _ _ _ _
    unfold VR
    rw [(ints_at hv).1, ← hzm]; exact o7
  have KA := Lib.hid (K0.trans k1)
  have R0b := Lib.hid (row_ext R0a.out k1 (fun h => h))
  have R1b := Lib.hid (row_ext R1a.out k1 (fun h => h))
  have HDR : Hid (runT ds (rs.map sigR) res sc (ss.drop 0) = Z) := by show _ = _; rw [List.drop_zero]; exact HZ.out
  have HBN : Hid (sc.length + 4 * nSs (ss.drop 0) ≤ 1052000) := by show _ ≤ _; rw [List.drop_zero]; exact HLen.out
  clear o7 k1 hv0 K0 R0a R1a hzm hs1
  go_wp2_with fail
  go_loopw [7, 8] (fun sv iv wr => ∃ (j : Nat) (scj : List Int), j ≤ n ∧ iv = .int .i64 j ∧ Hid (VR wr (w.heap.size + 2) sv scj) ∧ Hid (runT ds (rs.map sigR) res scj (ss.drop j) = Z) ∧ Hid (scj.length + 4 * nSs (ss.drop j) ≤ 1052000) ∧ Hid (allT ds.length scj = true) ∧ Hid (Keep w wr) ∧ Hid (w.heap.size + 2 ≤ wr.heap.size) ∧ Hid (wr.rowIs w.heap.size 30 2 (fun i => (#[.slice a0 n0 c0, .slice a1 n1 c1] : Array Value).getD i undef)) ∧ Hid (wr.rowIs (w.heap.size + 1) 69 2 (fun i => (#[.slice a n c, .int .i64 res] : Array Value).getD i undef))) (fun _ iv _ => n - (intOf iv).toNat)
  case atStart => exact ⟨0, sc, Nat.zero_le _, rfl, V7, HDR, HBN, HAll, KA, hw1, R0b, R1b⟩
  case round =>
    obtain ⟨j, scj, hj, rfl, VV, HD, HB, HAJ, KW, HWZ, R0w, R1w⟩ := hrel
    obtain ⟨wo, rfl⟩ : ∃ wo : World, wo = wr := ⟨_, rfl⟩
    clear V7 HDR HBN KA R0b R1b
    obtain ⟨a7, c7, rfl, hc7, ho7⟩ := VV.out.slice
    have hsl : scj.length ≤ 1052000 := by have := HB.out; omega
    have x0 := R0w.out.cell (i := 0) (by simp)
    have x1 := R0w.out.cell (i := 1) (by simp)
    have y0 := R1w.out.cell (i := 0) (by simp)
    have m1 := R1w.out.cell (i := 1) (by simp)
    simp at x0 x1 y0 m1
    by_cases hlt : j < n
    · have hj0 : (0 : Int) ≤ (j : Int) := by omega
      have hj1 : (j : Int) < (n : Int) := by omega
      have HJ : Hid (j < ss.length) := by show _ < _; rw [HL.out]; exact hlt
      obtain ⟨b, o, rfl, _, a3, n3, c3, a4, n4, c4, d0, d1, d2, d3, d4, r3, r4⟩ := HA.out j hlt
      have HNS := Lib.hid (nSs_drop ss HJ.out)
      have HSB : Hid (scj.length + 4 * nS (sAt ss j) ≤ 1052000) := by show _ ≤ _; have := HB.out; have := HNS.out; omega
      obtain ⟨t, ht⟩ : ∃ t, stpT ds (rs.map sigR) scj (sAt ss j) = t := ⟨_, rfl⟩
      have HT := Lib.hid ht
      have HRT := Lib.hid (runT_at ds (rs.map sigR) res scj HJ.out)
      have KD : Keep wo wo.drew := (Ext.refl (fun _ => False) wo).drew
      have KE := KW.out.trans KD
      have QP := Lib.hid (hp.k KE)
      have QV := Lib.hid (((ho7.read.mono (D' := fun _ => True) (fun _ _ => trivial)).toRd hc7 (by omega)).k KD)
      have QA := Lib.hid (r3.k KE)
      have QK := Lib.hid (r4.k KE)
      have g0 := KW.out.cq d0 (fun h => h)
      have z0 : wo.cell? ⟨b, o + j * 5, none⟩ = some (.int .i64 (sAt ss j).op) := g0
      replace d0 := KE.cq d0 (fun h => h)
      replace d1 := KE.cq d1 (fun h => h)
      replace d2 := KE.cq d2 (fun h => h)
      replace d3 := KE.cq d3 (fun h => h)
      replace d4 := KE.cq d4 (fun h => h)
      have HX0 := Lib.hid x0
      have HY0 := Lib.hid y0
      have HY1 := Lib.hid m1
      have HG0 := Lib.hid g0
      clear KE ht r3 r4 g0 z0
      go_upto_region 5 with fail
      replace x0 : wo.drew.cell? ⟨w.heap.size, 0, none⟩ = some (.slice a0 n0 c0) := x0
      replace x1 : wo.drew.cell? ⟨w.heap.size, 1, none⟩ = some (.slice a1 n1 c1) := x1
      replace y0 : wo.drew.cell? ⟨w.heap.size + 1, 0, none⟩ = some (.slice (some ⟨b, o, none⟩) n c) := y0
      clear m1
      refine wp_region_held_drew (S := fun w' => w'.cell? ⟨w.heap.size, 0, none⟩ = some (.slice a0 n0 c0) ∧ w'.cell? ⟨w.heap.size, 1, none⟩ = some (.slice a1 n1 c1) ∧ w'.cell? ⟨w.heap.size + 1, 0, none⟩ = some (.slice (some ⟨b, o, none⟩) n c) ∧ w'.cell? ⟨b, o + j * 5, none⟩ = some (.int .i64 (sAt ss j).op) ∧ w'.cell? ⟨b, o + j * 5 + 1, none⟩ = some (.int .i64 (sAt ss j).num) ∧ w'.cell? ⟨b, o + j * 5 + 2, none⟩ = some (.int .i64 (sAt ss j).into) ∧ w'.cell? ⟨b, o + j * 5 + 3, none⟩ = some (.slice a3 n3 c3) ∧ w'.cell? ⟨b, o + j * 5 + 4, none⟩ = some (.slice a4 n4 c4)) (by kernel_rfl) ⟨x0, x1, y0, d0, d1, d2, d3, d4⟩ (fun hHeld => ?_)
      have pc : Hid (Keep wo.drew wo.drew) := Ext.refl _ _
      generalize wo.drew = W0 at *
      refine wT 0 hHeld ?_
      try go_frame
      refine wT 1 hHeld ?_
      try go_frame
      refine wT 2 hHeld ?_
      try go_frame
      refine wT 3 hHeld ?_
      try go_frame
      refine wT 4 hHeld ?_
      try go_frame
      refine wT 5 hHeld ?_
      try go_frame
      refine wT 6 hHeld ?_
      try go_frame
      refine wO 7 (fun K0 hK0 => ?_)
      go_simp
      go_at_call 129
      refine (IH.out j HJ.out _ _ _ _ _ _ a7 _ c7 scj _ _ _ _ _ _ W0 QP.out QV.out QA.out QK.out HSB.out HAJ.out).mono ?_
      rw [HT.out]
      rintro e y1 ⟨rfl, kk⟩
      replace pc := Lib.hid (pc.out.trans kk)
      clear kk
      refine hK0.out _ _ ⟨pc.out.cq x0 (fun h => h), pc.out.cq x1 (fun h => h), pc.out.cq y0 (fun h => h), pc.out.cq d0 (fun h => h), pc.out.cq d1 (fun h => h), pc.out.cq d2 (fun h => h), pc.out.cq d3 (fun h => h), pc.out.cq d4 (fun h => h)⟩ (fun hHeld => ?_)
      clear hK0
      try go_frame
      refine wT 8 hHeld ?_
      try go_frame
      refine wpAnyH_done (by kernel_rfl) ?_ _
      have KZ := Lib.hid (KD.trans pc.out)
      replace KW := Lib.hid (KW.out.trans KZ.out)
      replace VV := Lib.hid (VV.out.k KZ.out)
      replace R0w := Lib.hid (row_ext R0w.out KZ.out (fun h => h))
      replace R1w := Lib.hid (row_ext R1w.out KZ.out (fun h => h))
      replace HWZ : Hid (w.heap.size + 2 ≤ y1.heap.size) := Nat.le_trans HWZ.out KZ.out.size
      have y0 := KZ.out.cq HY0.out (fun h => h)
      have z0 := KZ.out.cq HG0.out (fun h => h)
      clear pc x0 x1 d0 d1 d2 d3 d4 hHeld QP QV QA QK KD
      by_cases ht0 : t < 0
      · have V : Hid (Z = -1) := by show _ = _; rw [← HD.out, HRT.out, HT.out, if_pos ht0]
        clear y0 z0
        go_wp2_with fail
        exact fin_ hQ ⟨ret_i V.out.symm, KW.out⟩
      have HTT : Hid (isT ds.length t = true) := by
        have h := stp_range HOK.out (sAt ss j) HAJ.out
        rw [HT.out] at h
        rcases h with h | h
        · omega
        · exact h
      go_wp2_with fail
      refine (specDefines _ _).mono ?_
      by_cases hdf : 0 ≤ (sAt ss j).op ∧ (sAt ss j).op ≤ 11
      · have HD2 : Hid (runT ds (rs.map sigR) res (scj ++ [t]) (ss.drop (j + 1)) = Z) := by
          show _ = _
          rw [← HD.out, HRT.out, HT.out, if_neg (by omega), nextS, if_pos hdf, HT.out]
        rw [decide_eq_true hdf]
        rintro e w9 ⟨rfl, rfl⟩
        clear y0 z0 hdf
        have KL := Keep.al y1 (.cells #[.int .i64 t] 3)
        have hxt : IntsL (y1.alloc (.cells #[.int .i64 t] 3)) (fun _ => True) (some ⟨y1.heap.size, 0, none⟩) 1 [t] := (lit_intsD y1 (fun _ => True) 3 [t] #[.int .i64 t] 1 trivial rfl rfl (by omega)).toInts
        have hv2 := VV.out.k KL
        have hzl : w.heap.size + 2 ≤ (y1.alloc (.cells #[.int .i64 t] 3)).heap.size := Nat.le_trans HWZ.out KL.size
        have hKK := Lib.hid (KW.out.trans KL)
        have R0l := Lib.hid (row_ext R0w.out KL (fun h => h))
        have R1l := Lib.hid (row_ext R1w.out KL (fun h => h))
        have VL := Lib.hid hv2.lt
        clear KL VV
        go_wp2_with (at_builtin; go_must (refine wpList_appInts _ rfl (.tmp 36) (.tmp 38) rfl (w.heap.size + 2) (.slice a7 scj.length c7) scj.length scj rfl hv2 _ 1 1 [t] (fun _ => True) rfl hxt (by omega) hzl ?_); intro vn w7 ho hgr; have X7 := Lib.hid ((Ext.refl (fun k => w.heap.size + 2 ≤ k) _).grown hgr (fun k hk => .inr (VL.out k hk).1)); have HO := Lib.hid ho; clear ho hgr)
        go_roundw
        case rel => exact ⟨j + 1, scj ++ [t], by omega, by go_num, by
          show VR _ _ _ _
          unfold VR
          rw [List.length_append]
          exact HO.out, HD2, by show _ ≤ _; have := HB.out; have := HNS.out; rw [List.length_append, List.length_singleton]; have := nS_eq (sAt ss j); omega, allT_append HAJ.out (allT_one HTT.out), hKK.out.then_ X7.out (fun q hq h => by omega), by show _ ≤ _; have := X7.out.size; omega, row_ext R0l.out X7.out (by omega), row_ext R1l.out X7.out (by omega)⟩
        case measure => simp [intOf]; omega
      · have HD2 : Hid (runT ds (rs.map sigR) res scj (ss.drop (j + 1)) = Z) := by
          show _ = _
          rw [← HD.out, HRT.out, HT.out, if_neg (by omega), nextS, if_neg hdf]
        rw [decide_eq_false hdf]
        rintro e w9 ⟨rfl, rfl⟩
        clear y0 z0 hdf
        go_wp2_with fail
        go_roundw
        case rel => exact ⟨j + 1, scj, by omega, by go_num, VV, HD2, by show _ ≤ _; have := HB.out; have := HNS.out; omega, HAJ, KW, HWZ, R0w, R1w⟩
        case measure => simp [intOf]; omega
    · have HJ : Hid (j = n) := by show _ = _; omega
      have hw2 : IntKind.i64.wrap ((scj.length : Int) - 1) = (scj.length : Int) - 1 := IntWalk.i64_in _ (by omega)
      have HNIL : Hid ((if 0 ≤ res ∧ res < (scj.length : Int) then iAt scj res.toNat else -1) = Z) := by
        show _ = _
        rw [← HD.out, List.drop_of_length_le (by have := HL.out; have := HJ.out; omega), runT_nil]
      go_wp2_with fail
      refine (specInRange _ _ _ _).mono ?_
      by_cases hr : 0 ≤ res ∧ res ≤ (scj.length : Int) - 1
      · rw [decide_eq_true hr]
        rintro e w9 ⟨rfl, rfl⟩
        obtain ⟨k, rfl⟩ := Int.eq_ofNat_of_zero_le hr.1
        have hk : k < scj.length := by omega
        obtain ⟨b7, o7, rfl, _, d7⟩ := (show IntsL wo (fun _ => True) a7 scj.length scj from ho7.read.mono (fun _ _ => trivial)).at hk
        have hk0 : (0 : Int) ≤ (k : Int) := by omega
        have hk1 : (k : Int) < (scj.length : Int) := by omega
        have V : Hid (iAt scj k = Z) := by show _ = _; rw [← HNIL.out, if_pos ⟨hk0, hk1⟩, Int.toNat_natCast]
        rw [V.out] at d7
        clear hr
        go_wp2_with fail
        exact fin_ hQ ⟨rfl, KW.out⟩
      · rw [decide_eq_false hr]
        rintro e w9 ⟨rfl, rfl⟩
        have V : Hid (Z = -1) := by show _ = _; rw [← HNIL.out, if_neg (by omega)]
        clear hr
        go_wp2_with fail
        exact fin_ hQ ⟨ret_i V.out.symm, KW.out⟩
theorem specBlk_n (N : Nat) : ∀ (res : Int) (ss : List StepL), nSs ss < N → BlS ds rs res ss := by
  induction N with
  | zero => intro res ss h; omega
  | succ N ih =>
    intro res ss hN
    refine specBlk_of ds rs hok res ss (fun j hj => specStp ds rs hok _ (fun k hk => ih _ _ ?_))
    have := nkid_lt ss hj hk
    omega
theorem specBlk (res : Int) (ss : List StepL) : BlS ds rs res ss := specBlk_n ds rs hok _ res ss (Nat.lt_succ_self _)
end
end Go.Proofs.YtkapldpmjkdmcaaGreat
/- The program's types of expressions: helpers. -/
namespace Go.Proofs.YtkapldpmjkdmcaaGreat
open Go.RowKit

theorem equalInts (a : Option Addr) (n c : Nat) (xs : List Int) (D : Nat → Prop) (a' : Option Addr) (n' c' : Nat) (ys : List Int) (D' : Nat → Prop) (w : World) (h : IntsL w D a n xs) (h' : IntsL w D' a' n' ys) (hn : n ≤ 4000000) (hn' : n' ≤ 4000000) :
    Calls Tryz.prog 203 #[.slice a n c, .slice a' n' c'] w fun e w' => e = .returned (.bool (decide (xs = ys))) ∧ Keep w w' := by
  have h1 := h.1
  have h2 := h'.1
  by_cases he : n = n'
  · rcases Nat.eq_zero_or_pos n with h0 | h0
    · subst he
      subst h0
      refine (Tryz.slices_Equal_int_empty a a' c 0 c' w (by omega)).mono ?_
      rintro e w' ⟨rfl, rfl⟩
      have e1 : xs = [] := List.eq_nil_of_length_eq_zero h1
      have e2 : ys = [] := List.eq_nil_of_length_eq_zero h2
      exact ⟨by simp [e1, e2], Ext.refl _ _⟩
    · obtain ⟨b1, o1, rfl, _, hc1⟩ := h.2 h0
      obtain ⟨b2, o2, rfl, _, hc2⟩ := h'.2 (by omega)
      refine (Tryz.slices_Equal_int b1 o1 n c b2 o2 n' c' xs ys w (by omega) (by omega) (by omega) (by omega) (fun j hj => hc1 j (by omega)) (fun j hj => hc2 j (by omega))).mono ?_
      rintro e w' ⟨rfl, q, rfl⟩
      refine ⟨?_, (Ext.refl _ w).drewN q⟩
      rw [List.take_of_length_le (by omega), List.take_of_length_le (by omega)]
      by_cases hxy : xs = ys <;> simp [hxy]
  · refine (Tryz.slices_Equal_int_lens a a' n c n' c' w he).mono ?_
    rintro e w' ⟨rfl, rfl⟩
    exact ⟨by rw [decide_eq_false (fun h => he (by rw [← h1, ← h2, h]))], Ext.refl _ _⟩

set_option maxHeartbeats 4000000 in
theorem implArrowAt (a : Option Addr) (n c : Nat) (ds : List DeclL) (D : Nat → Prop) (t : Int) (w : World) (h : DeclsR w D a n ds) (hn : n ≤ 1049576) :
    Calls Tryz.prog 189 #[.slice a n c, .int .i64 t] w fun e w' => ∃ f g a3 n3 c3, e = .returned (.tuple #[.agg #[.int .i64 f, .int .i64 g, .slice a3 n3 c3], .bool (isArr ds t)]) ∧ (isArr ds t = true → f = (dAt ds (t.toNat - 1)).from_ ∧ g = (dAt ds (t.toNat - 1)).to_) ∧ Keep w w' := by
  refine calls_k fun Q hQ => ?_
  have K0 := Keep.al w (.cells #[.int .i64 0, .int .i64 0, .slice none 0 0] 125)
  have HL := Lib.hid h.1
  by_cases ht1 : t < 1
  · have V : Hid (isArr ds t = false) := by show _ = _; rw [isArr, decide_eq_false (by omega)]; rfl
    go_enter Tryz.func189, Tryz.ntmps189
    go_wp2_with fail
    refine bodyPost_ret (v := .tuple #[.agg #[.int .i64 0, .int .i64 0, .slice none 0 0], .bool false]) (by simp [results, Tryz.results189, go_sem]) rfl (fin_ hQ ⟨0, 0, none, 0, 0, by rw [V.out], (fun h => by rw [V.out] at h; cases h), ?_⟩)
    exact Keep.al w _
  by_cases ht2 : (n : Int) < t
  · have V : Hid (isArr ds t = false) := by show _ = _; rw [isArr, decide_eq_false (by have := HL.out; omega)]; rfl
    go_enter Tryz.func189, Tryz.ntmps189
    go_wp2_with fail
    refine bodyPost_ret (v := .tuple #[.agg #[.int .i64 0, .int .i64 0, .slice none 0 0], .bool false]) (by simp [results, Tryz.results189, go_sem]) rfl (fin_ hQ ⟨0, 0, none, 0, 0, by rw [V.out], (fun h => by rw [V.out] at h; cases h), ?_⟩)
    exact Keep.al w _
  obtain ⟨k, rfl⟩ : ∃ k : Nat, t = (k : Int) + 1 := ⟨(t - 1).toNat, by omega⟩
  have hk : k < n := by omega
  obtain ⟨b, o, rfl, _, hc⟩ := h.2 (by omega)
  obtain ⟨d0, d1, a', m, c', d2, _, hcons⟩ := hc k hk
  have HK : Hid (((k : Int) + 1).toNat - 1 = k) := by show _ = _; omega
  have V0 : Hid (isArr ds ((k : Int) + 1) = decide (m = 0)) := by
    show _ = _
    rw [isArr, decide_eq_true (by have := HL.out; omega), Bool.true_and, HK.out, hcons.1]
  have g0 := (K0.cell (World.block_lt_of_cell? w _ d0) (fun h => h)).trans d0
  have g1 := (K0.cell (World.block_lt_of_cell? w _ d1) (fun h => h)).trans d1
  have g2 := (K0.cell (World.block_lt_of_cell? w _ d2) (fun h => h)).trans d2
  clear hc hcons d0 d1 d2 ht1 ht2
  rcases Nat.eq_zero_or_pos m with h0 | h0
  · subst h0
    go_enter Tryz.func189, Tryz.ntmps189
    go_wp2_with fail
    refine bodyPost_ret (v := .tuple #[.agg #[.int .i64 (dAt ds k).from_, .int .i64 (dAt ds k).to_, .slice a' 0 c'], .bool true]) (by simp [results, Tryz.results189, go_sem]) rfl (fin_ hQ ⟨_, _, a', 0, c', by rw [V0.out]; rfl, fun _ => by rw [HK.out]; exact ⟨rfl, rfl⟩, ?_⟩)
    exact Keep.al w _
  · have V : Hid (isArr ds ((k : Int) + 1) = false) := V0.out.trans (decide_eq_false (by omega))
    go_enter Tryz.func189, Tryz.ntmps189
    go_wp2_with fail
    refine bodyPost_ret (v := .tuple #[.agg #[.int .i64 0, .int .i64 0, .slice none 0 0], .bool false]) (by simp [results, Tryz.results189, go_sem]) rfl (fin_ hQ ⟨0, 0, none, 0, 0, by rw [V.out], (fun h => by rw [V.out] at h; cases h), ?_⟩)
    exact Keep.al w _

theorem implFieldsOf (a : Option Addr) (n c : Nat) (ds : List DeclL) (D : Nat → Prop) (x : Int) (w : World) (h : DeclsR w D a n ds) (hf : Few ds) (hx1 : -9223372036854775808 ≤ x) (hx2 : x ≤ 9223372036854775807) :
    Calls Tryz.prog 107 #[.slice a n c, .int .i64 x] w fun e w' => ∃ a' m c', e = .returned (.slice a' m c') ∧ m ≤ c' ∧ IntsL w' (fun k => D k ∨ w.heap.size ≤ k) a' m (conFieldsL ds x) ∧ Keep w w' := by
  refine calls_k fun Q hQ => ?_
  go_enter Tryz.func107, Tryz.ntmps107
  go_wp2_with fail
  refine (implConAt _ _ _ ds _ _ _ h hf hx1 hx2).mono ?_
  rintro e w1 ⟨a', m, c', rfl, hmc, hi, p1⟩
  go_wp2_with fail
  exact fin_ hQ ⟨a', m, c', rfl, hmc, (hi.ext (p1.trans (Keep.al w1 _)) (fun _ _ h => h)).mono (fun k hk => .inl hk), p1.trans (Keep.al w1 _)⟩

/-- What simpleType returns. -/
def SimR (ds : List DeclL) (sg : List SigL) (op num : Int) (tys : List Int) (w : World) (e : Ending) (w' : World) : Prop :=
  ∃ t ok, e = .returned (.tuple #[.int .i64 t, .bool ok]) ∧ ok = decide (0 ≤ simpleL ds sg op num tys) ∧ (ok = true → t = simpleL ds sg op num tys) ∧ Keep w w'
/-- Declarations and signatures that can be read. -/
def SR (w : World) (D : Nat → Prop) (ds : List DeclL) (sg : List SigL) (a0 : Option Addr) (n0 c0 : Nat) (a1 : Option Addr) (n1 c1 : Nat) : Prop :=
  Rd w D (encDecls ds) (.slice a0 n0 c0) ∧ Rd w D (encSigs sg) (.slice a1 n1 c1)
theorem SR.ext {S D : Nat → Prop} {w w' : World} {ds : List DeclL} {sg : List SigL} {a0 : Option Addr} {n0 c0 : Nat} {a1 : Option Addr} {n1 c1 : Nat} (h : SR w D ds sg a0 n0 c0 a1 n1 c1) (k : Ext S w w') (hs : ∀ q, D q → ¬ S q) : SR w' D ds sg a0 n0 c0 a1 n1 c1 := ⟨h.1.ext k hs, h.2.ext k hs⟩
theorem SR.k {D : Nat → Prop} {w w' : World} {ds : List DeclL} {sg : List SigL} {a0 : Option Addr} {n0 c0 : Nat} {a1 : Option Addr} {n1 c1 : Nat} (h : SR w D ds sg a0 n0 c0 a1 n1 c1) (k : Keep w w') : SR w' D ds sg a0 n0 c0 a1 n1 c1 := h.ext k (fun _ _ h => h)
end Go.Proofs.YtkapldpmjkdmcaaGreat
