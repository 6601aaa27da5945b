/- The program's types of expressions: if. -/
import Derived.Test.YtbknmljfnjlieaaTyI6
namespace Go.Proofs.Ytbknmljfnjlieaa
open Go.RowKit

theorem Rd.tailE {w : World} {D : Nat → Prop} {es : List ExprL} {b o n c : Nat} (h : Rd w D (encExprs es) (.slice (some ⟨b, o, none⟩) (n + 2) c)) : Rd w D (encExprs es.tail) (.slice (some ⟨b, o + 3, none⟩) (n + 1) (c - 1)) := by
  obtain ⟨e1, _⟩ := exprs_at h
  match es, e1 with
  | e :: es', e1 =>
    have hl : (rowsE es').length = n + 1 := by rw [exprs_len]; simpa using e1
    have hl2 : n + 2 = (rowsE (e :: es')).length := by rw [rowsE, List.length_cons, hl]
    rw [hl2] at h
    cases h with
    | arr s rows b o c vs hD h0 hs0 hc hm hs hcell hr =>
      have q := Rd.arr (w := w) (D := D) 3 (rowsE es') b (o + 3) (c - 1) (fun i j => vs (i + 1) j) hD (by omega) (by omega) (by omega) (by omega)
        (fun i hi => by have := hs (i + 1) (by simp [rowsE]; omega); simpa [rGet, rowsE] using this)
        (fun i j hi hj => by have := hcell (i + 1) j (by simp [rowsE]; omega) hj; rw [show o + 3 + i * 3 + j = o + (i + 1) * 3 + j by omega]; exact this)
        (fun i j hi hj => by have := hr (i + 1) j (by simp [rowsE]; omega) hj; simpa [rAt, rGet, rowsE] using this)
      rw [hl] at q
      exact q
theorem eAt_tail {es : List ExprL} {j : Nat} : eAt es.tail j = eAt es (j + 1) := by cases es <;> simp [eAt]
theorem nEs_tail (es : List ExprL) : nEs es.tail ≤ nEs es := by cases es <;> simp [nEs]
theorem tyTl_tail (ds : List DeclL) (sg : List SigL) (vars : List Int) (es : List ExprL) (fs : List (List Int)) : tyTl ds sg vars es fs = tyArms ds sg vars es.tail fs := by cases es <;> simp [tyTl, tyArms]

section
variable (ds : List DeclL) (sg : List SigL) (hok : sigsOk ds sg = true)
include hok

set_option maxRecDepth 100000 in
set_option maxHeartbeats 4000000 in
theorem implTy_7 (num : Int) (hnum : fitN 7 num) (es : List ExprL) (IH0 : ∀ j, j < es.length → TyI ds sg (eAt es j)) : TyI ds sg (.mk 7 num es) := by
  intro a0 n0 c0 a1 n1 c1 v vars a n c w base D hp hv h hD hb hlen hall
  refine calls_k fun Q hQ => ?_
  change Rd w D (encExprs es) _ at h
  rw [nE] at hlen
  simp only [ExprL.op, ExprL.num]
  obtain ⟨av, cv, rfl, hvc, hvo⟩ := hv.slice
  have VBL := Lib.hid hv.lt
  have ht := (sigsOk_parts hok).1
  have hf := Few.of_ok ht
  have hn0 : n0 ≤ 4 := by have := (decls_at hp.1).1; have := typesOk_len ht; omega
  have hvl : vars.length ≤ 1049576 := by omega
  have K0 := (Keep.al w (.cells #[.slice a0 n0 c0, .slice a1 n1 c1] 85)).trans (Keep.al _ (.cells #[.int .i64 7, .int .i64 num, .slice a n c] 41))
  have R0 := (rowOf w #[.slice a0 n0 c0, .slice a1 n1 c1] 85).alloc (.cells #[.int .i64 7, .int .i64 num, .slice a n c] 41)
  have R1 := rowOf (w.alloc (.cells #[.slice a0 n0 c0, .slice a1 n1 c1] 85)) #[.int .i64 7, .int .i64 num, .slice a n c] 41
  simp only [World.size_alloc] at R1
  have hv0 := hv.k K0
  have KT := Lib.hid (Keep.to (S := fun r => (Value.slice av vars.length cv).ownBlock = some r) K0)
  obtain ⟨e1, hnc, hnm, hat⟩ := exprs_at h
  have HL := Lib.hid e1
  have HA := Lib.hid hat
  have hn30 : n ≤ 262394 := by have := nEs_len es; omega
  have HOK := Lib.hid hok
  have HAll := Lib.hid hall
  have HLen := Lib.hid hlen
  have HT := Lib.hid ht
  have HD := Lib.hid hD
  have IH := Lib.hid IH0
  have HV := Lib.hid hv
  have HVO := Lib.hid hvo
  have HNUM := Lib.hid hnum
  clear e1 hat hok hall ht IH0 hD hv hvo hnum
  have V0 := Lib.hid (tyE_7 ds sg vars num es)
  by_cases hn : n = 3
  case neg =>
    have V : Hid (tyE ds sg vars (.mk 7 num es) = -1) := by show _ = _; rw [V0.out, if_neg (fun h => hn (by rw [← HL.out]; exact h.2.1))]
    have hz' : ((n : Int) != 3) = true := by simp; omega
    clear hn
    go_enter Try.func55, Try.ntmps55
    go_wp2_with fail
    go_quiet (fail)
    go_wp2_with fail
    exact fin_ hQ ⟨ret_i V.out.symm, hv0.k (by first | exact (Ext.refl _ _).drewN _ | exact (Ext.refl _ _).drew), by first | exact KT.out.drewN _ | exact KT.out.drew⟩
  subst hn
  by_cases hz : num = 0
  case neg =>
    have V : Hid (tyE ds sg vars (.mk 7 num es) = -1) := by show _ = _; rw [V0.out, if_neg (fun h => hz h.1)]
    have hz' : (num != 0) = true := by simpa using hz
    clear hz
    go_enter Try.func55, Try.ntmps55
    go_wp2_with fail
    go_quiet (fail)
    go_wp2_with fail
    exact fin_ hQ ⟨ret_i V.out.symm, hv0.k (by first | exact (Ext.refl _ _).drewN _ | exact (Ext.refl _ _).drew), by first | exact KT.out.drewN _ | exact KT.out.drew⟩
  subst hz
  obtain ⟨b, o, rfl, hDb, _⟩ := HA.out 0 (by omega)
  have HDB := Lib.hid hDb
  clear hDb
  have ns0 : ¬ (Value.slice av vars.length cv).ownBlock = some w.heap.size := fun e => by have := (VBL.out _ e).2; omega
  have ns1 : ¬ (Value.slice av vars.length cv).ownBlock = some (w.heap.size + 1) := fun e => by have := (VBL.out _ e).2; omega
  have nsb : ¬ (Value.slice av vars.length cv).ownBlock = some b := fun e => by have := (VBL.out _ e).1; have := HD.out _ HDB.out; omega
  have nsD : Hid (∀ q, D q → ¬ (Value.slice av vars.length cv).ownBlock = some q) := fun q hq e => by have := (VBL.out _ e).1; have := HD.out _ hq; omega
  have HE0 : Hid (0 < es.length) := by have := HL.out; show _ < _; omega
  have HB0 : Hid (vars.length + 4 * nE (eAt es 0) ≤ 1049576) := by have := nE_le es HE0.out; have := HLen.out; show _ ≤ _; omega
  have HE1 : Hid (1 < es.length) := by have := HL.out; show _ < _; omega
  have HB1 : Hid (vars.length + 4 * nE (eAt es 1) ≤ 1049576) := by have := nE_le es HE1.out; have := HLen.out; show _ ≤ _; omega
  have HE2 : Hid (2 < es.length) := by have := HL.out; show _ < _; omega
  have HB2 : Hid (vars.length + 4 * nE (eAt es 2) ≤ 1049576) := by have := nE_le es HE2.out; have := HLen.out; show _ ≤ _; omega
  obtain ⟨t, hz0⟩ : ∃ t, tyE ds sg vars (eAt es 0) = t := ⟨_, rfl⟩
  have HZ0 := Lib.hid hz0
  clear hz0
  have V1 : Hid (tyE ds sg vars (.mk 7 0 es) = if t = 0 then oneT (tyArms ds sg vars es.tail [[], []]) else -1) := by
    show _ = _
    rw [V0.out, tyHd_at _ _ _ HE0.out, HZ0.out, tyTl_tail]
    by_cases h : t = 0
    · rw [if_pos ⟨rfl, HL.out, h⟩, if_pos h]
    · rw [if_neg (fun h' => h h'.2.2), if_neg h]
  by_cases ht : t = 0
  case neg =>
    have V : Hid (tyE ds sg vars (.mk 7 0 es) = -1) := by show _ = _; rw [V1.out, if_neg ht]
    have ht' : (t != 0) = true := by simpa using ht
    clear ht
    go_enter Try.func55, Try.ntmps55
    go_wp2_with fail
    generalize hW : ((w.alloc (.cells #[.slice a0 n0 c0, .slice a1 n1 c1] 85)).alloc (.cells #[.int .i64 7, .int .i64 0, .slice (some ⟨b, o, none⟩) 3 c] 41)) = W at *
    have x0 := R0.cell (i := 0) (by simp)
    have x1 := R0.cell (i := 1) (by simp)
    have y0 := R1.cell (i := 0) (by simp)
    have y1 := R1.cell (i := 1) (by simp)
    have y2 := R1.cell (i := 2) (by simp)
    simp at x0 x1 y0 y1 y2
    have hWs : w.heap.size + 2 = W.heap.size := by rw [← hW]; simp
    clear hW
    have qp := hp.ext KT.out nsD.out
    have qpd := qp.k (w' := W.drew) (Ext.refl (fun _ => False) W).drew
    have hvd := hv0.k (w' := W.drew) (Ext.refl (fun _ => False) W).drew
    have hbd : base ≤ W.drew.heap.size := by show base ≤ W.heap.size; omega
    obtain ⟨b', o', e', _, ak, nk, ck, dk0, dk1, dk2, rk⟩ := HA.out 0 (by omega)
    injection e' with e'
    injection e' with e' e''
    subst e' e''
    have k0 := (KT.out.cell (World.block_lt_of_cell? _ _ dk0) nsb).trans dk0
    have k1 := (KT.out.cell (World.block_lt_of_cell? _ _ dk1) nsb).trans dk1
    have k2 := (KT.out.cell (World.block_lt_of_cell? _ _ dk2) nsb).trans dk2
    simp only [Nat.zero_mul, Nat.add_zero] at k0 k1 k2
    have qk := rk.ext KT.out nsD.out
    clear dk0 dk1 dk2 rk
    have qkd := qk.k (w' := W.drew) (Ext.refl (fun _ => False) W).drew
    have pc : Ext (fun r => (Value.slice av vars.length cv).ownBlock = some r) W.drew W.drew := Ext.refl _ _
    go_region_held3 (fun w' => w'.cell? ⟨w.heap.size, 0, none⟩ = some (.slice a0 n0 c0) ∧ w'.cell? ⟨w.heap.size, 1, none⟩ = some (.slice a1 n1 c1) ∧ w'.cell? ⟨w.heap.size + 1, 1, none⟩ = some (.int .i64 0) ∧ w'.cell? ⟨w.heap.size + 1, 2, none⟩ = some (.slice (some ⟨b, o, none⟩) 3 c) ∧ w'.cell? ⟨b, o, none⟩ = some (.int .i64 (eAt es 0).op) ∧ w'.cell? ⟨b, o + 1, none⟩ = some (.int .i64 (eAt es 0).num) ∧ w'.cell? ⟨b, o + 2, none⟩ = some (.slice ak nk ck))
      (first | exact ⟨Ext.at pc ns0 x0, Ext.at pc ns0 x1, Ext.at pc ns1 y1, Ext.at pc ns1 y2, Ext.at pc nsb k0, Ext.at pc nsb k1, Ext.at pc nsb k2⟩ | exact ⟨Ext.at (Ext.trans pc (Keep.to (Keep.al _ _))) ns0 x0, Ext.at (Ext.trans pc (Keep.to (Keep.al _ _))) ns0 x1, Ext.at (Ext.trans pc (Keep.to (Keep.al _ _))) ns1 y1, Ext.at (Ext.trans pc (Keep.to (Keep.al _ _))) ns1 y2, Ext.at (Ext.trans pc (Keep.to (Keep.al _ _))) nsb k0, Ext.at (Ext.trans pc (Keep.to (Keep.al _ _))) nsb k1, Ext.at (Ext.trans pc (Keep.to (Keep.al _ _))) nsb k2⟩ | go_keep)
      (first
        | (go_at_call 55; refine (IH.out 0 HE0.out _ _ _ _ _ _ _ vars _ _ _ _ base D qpd hvd qkd HD.out hbd HB0.out HAll.out).mono ?_; rw [HZ0.out]; rintro e w2 ⟨rfl, hv2, x2⟩; replace pc := Ext.trans pc x2))
    have PW := Lib.hid (Ext.dt pc)
    have KE := Lib.hid (KT.out.trans PW.out)
    have HV2 := Lib.hid hv2
    clear pc x2 hv2 qk qkd qpd hvd k0 k1 k2
    go_wp2_with fail
    exact fin_ hQ ⟨ret_i V.out.symm, HV2.out, KE.out⟩
  subst ht
  obtain ⟨u, hu⟩ : ∃ u, oneT (tyArms ds sg vars es.tail [[], []]) = u := ⟨_, rfl⟩
  have HU := Lib.hid hu
  have V : Hid (tyE ds sg vars (.mk 7 0 es) = u) := by show _ = _; rw [V1.out, if_pos rfl, hu]
  clear hu
  have hc1 : ¬ c = 1 := by omega
  have hc1' : ¬ 1 = c := by omega
  go_enter Try.func55, Try.ntmps55
  go_wp2_with fail
  generalize hW : ((w.alloc (.cells #[.slice a0 n0 c0, .slice a1 n1 c1] 85)).alloc (.cells #[.int .i64 7, .int .i64 0, .slice (some ⟨b, o, none⟩) 3 c] 41)) = W at *
  have x0 := R0.cell (i := 0) (by simp)
  have x1 := R0.cell (i := 1) (by simp)
  have y0 := R1.cell (i := 0) (by simp)
  have y1 := R1.cell (i := 1) (by simp)
  have y2 := R1.cell (i := 2) (by simp)
  simp at x0 x1 y0 y1 y2
  have hWs : w.heap.size + 2 = W.heap.size := by rw [← hW]; simp
  clear hW
  have qp := hp.ext KT.out nsD.out
  have qpd := qp.k (w' := W.drew) (Ext.refl (fun _ => False) W).drew
  have hvd := hv0.k (w' := W.drew) (Ext.refl (fun _ => False) W).drew
  have hbd : base ≤ W.drew.heap.size := by show base ≤ W.heap.size; omega
  obtain ⟨b', o', e', _, ak, nk, ck, dk0, dk1, dk2, rk⟩ := HA.out 0 (by omega)
  injection e' with e'
  injection e' with e' e''
  subst e' e''
  have k0 := (KT.out.cell (World.block_lt_of_cell? _ _ dk0) nsb).trans dk0
  have k1 := (KT.out.cell (World.block_lt_of_cell? _ _ dk1) nsb).trans dk1
  have k2 := (KT.out.cell (World.block_lt_of_cell? _ _ dk2) nsb).trans dk2
  simp only [Nat.zero_mul, Nat.add_zero] at k0 k1 k2
  have qk := rk.ext KT.out nsD.out
  clear dk0 dk1 dk2 rk
  have qkd := qk.k (w' := W.drew) (Ext.refl (fun _ => False) W).drew
  have pc : Ext (fun r => (Value.slice av vars.length cv).ownBlock = some r) W.drew W.drew := Ext.refl _ _
  go_region_held3 (fun w' => w'.cell? ⟨w.heap.size, 0, none⟩ = some (.slice a0 n0 c0) ∧ w'.cell? ⟨w.heap.size, 1, none⟩ = some (.slice a1 n1 c1) ∧ w'.cell? ⟨w.heap.size + 1, 1, none⟩ = some (.int .i64 0) ∧ w'.cell? ⟨w.heap.size + 1, 2, none⟩ = some (.slice (some ⟨b, o, none⟩) 3 c) ∧ w'.cell? ⟨b, o, none⟩ = some (.int .i64 (eAt es 0).op) ∧ w'.cell? ⟨b, o + 1, none⟩ = some (.int .i64 (eAt es 0).num) ∧ w'.cell? ⟨b, o + 2, none⟩ = some (.slice ak nk ck))
    (first | exact ⟨Ext.at pc ns0 x0, Ext.at pc ns0 x1, Ext.at pc ns1 y1, Ext.at pc ns1 y2, Ext.at pc nsb k0, Ext.at pc nsb k1, Ext.at pc nsb k2⟩ | exact ⟨Ext.at (Ext.trans pc (Keep.to (Keep.al _ _))) ns0 x0, Ext.at (Ext.trans pc (Keep.to (Keep.al _ _))) ns0 x1, Ext.at (Ext.trans pc (Keep.to (Keep.al _ _))) ns1 y1, Ext.at (Ext.trans pc (Keep.to (Keep.al _ _))) ns1 y2, Ext.at (Ext.trans pc (Keep.to (Keep.al _ _))) nsb k0, Ext.at (Ext.trans pc (Keep.to (Keep.al _ _))) nsb k1, Ext.at (Ext.trans pc (Keep.to (Keep.al _ _))) nsb k2⟩ | go_keep)
    (first
      | (go_at_call 55; refine (IH.out 0 HE0.out _ _ _ _ _ _ _ vars _ _ _ _ base D qpd hvd qkd HD.out hbd HB0.out HAll.out).mono ?_; rw [HZ0.out]; rintro e w2 ⟨rfl, hv2, x2⟩; replace pc := Ext.trans pc x2))
  have PW := Lib.hid (Ext.dt pc)
  have KE := Lib.hid (KT.out.trans PW.out)
  have HV2 := Lib.hid hv2
  clear pc x2 hv2 qk qkd qpd hvd k0 k1 k2
  have x0' := (PW.out.cell (World.block_lt_of_cell? _ _ x0) ns0).trans x0
  have x1' := (PW.out.cell (World.block_lt_of_cell? _ _ x1) ns0).trans x1
  have y2' := (PW.out.cell (World.block_lt_of_cell? _ _ y2) ns1).trans y2
  clear x0 x1 y0 y1 y2
  have qpd2 := (qp.ext PW.out nsD.out).k (w' := w2.drew) (Ext.refl (fun _ => False) w2).drew
  have hvd2 := HV2.out.k (w' := w2.drew) (Ext.refl (fun _ => False) w2).drew
  have hbd2 : base ≤ w2.drew.heap.size := by have := PW.out.size; show base ≤ w2.heap.size; omega
  have qtl := ((Rd.tailE (n := 1) h).ext KE.out nsD.out).k (w' := w2.drew) (Ext.refl (fun _ => False) w2).drew
  have qml := (lit_cons w2.drew 0 26 [[], []] [.slice none 0 0, .slice none 0 0] 2 (Nat.zero_le _) ⟨_, _, rfl, .nil 1 none 0, _, _, rfl, .nil 1 none 0, rfl⟩ rfl (by omega)).t
  have HTL : ∀ j, j < es.tail.length → TyI ds sg (eAt es.tail j) := fun j hj => by rw [eAt_tail]; exact IH.out (j + 1) (by simp at hj; omega)
  have hlt : vars.length + 4 + 4 * nEs es.tail ≤ 1049576 := by have := nEs_tail es; have := HLen.out; omega
  have hfl2 : ([[], []] : List (List Int)).length = es.tail.length := by have := HL.out; simp; omega
  have pcx : Keep w2.drew w2.drew := Ext.refl _ _
  have hmk : ∀ w : World, (Instr.makeSlice 137 (.int .i64 2) (.int .i64 2)).run Try.prog w = .ok (.slice (some ⟨w.heap.size, 0, none⟩) 2 2) (w.alloc (.cells #[.slice none 0 0, .slice none 0 0] 26)) := fun _ => by kernel_rfl
  go_wp2_with fail
  go_region_held3 (fun w' => w'.cell? ⟨w.heap.size, 0, none⟩ = some (.slice a0 n0 c0) ∧ w'.cell? ⟨w.heap.size, 1, none⟩ = some (.slice a1 n1 c1) ∧ w'.cell? ⟨w.heap.size + 1, 2, none⟩ = some (.slice (some ⟨b, o, none⟩) 3 c))
    (first | exact ⟨Keep.at pcx x0', Keep.at pcx x1', Keep.at pcx y2'⟩ | exact ⟨Keep.at (Ext.trans pcx (Keep.al _ _)) x0', Keep.at (Ext.trans pcx (Keep.al _ _)) x1', Keep.at (Ext.trans pcx (Keep.al _ _)) y2'⟩ | go_keep)
    ((go_at_call 100; have pl := Keep.al w2.drew (.cells #[.slice none 0 0, .slice none 0 0] 26); replace pcx := Ext.trans pcx pl; refine (implOneType ds sg es.tail HTL _ _ _ _ _ _ _ _ _ vars _ _ _ _ _ _ [[], []] _ base D (qpd2.k pcx) (hvd2.k pcx) (qtl.k pcx) HD.out (Nat.le_trans hbd2 pcx.size) qml hfl2 hlt HAll.out (fun i hi => by
        have hi2 : i < 2 := by simpa using hi
        rcases (show i = 0 ∨ i = 1 by omega) with h | h <;> (rw [h]; exact ⟨by simp [cAt], rfl⟩))).mono ?_; rw [HU.out]; rintro e w3 ⟨rfl, p3⟩; replace pcx := Ext.trans pcx p3))
  have KF := Lib.hid (KE.out.trans (Keep.to (S := fun r => (Value.slice av vars.length cv).ownBlock = some r) (Keep.dt pcx)))
  have HV3 := Lib.hid (HV2.out.k (Keep.dt pcx))
  go_wp2_with fail
  exact fin_ hQ ⟨ret_i V.out.symm, HV3.out, KF.out⟩
end
end Go.Proofs.Ytbknmljfnjlieaa
