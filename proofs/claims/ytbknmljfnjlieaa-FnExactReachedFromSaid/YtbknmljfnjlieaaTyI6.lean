/- The program's types of expressions: variables, let. -/
import Derived.Test.YtbknmljfnjlieaaTyI5
import Derived.Test.YtbknmljfnjlieaaTyS5
namespace Go.Proofs.Ytbknmljfnjlieaa
open Go.RowKit

theorem Ext.at {S : Nat → Prop} {w w' : World} (k : Ext S w.drew w') {p : Addr} (hs : ¬ S p.block) {v : Value} (h : w.cell? p = some v) : w'.cell? p = some v :=
  (k.cell (World.block_lt_of_cell? w.drew _ h) hs).trans h
theorem AppV.grow {w w' w'' : World} {base : Nat} {v v' : Value} {xs : List Int} {y : Int} (h : AppV w base v xs y v' w') (hx : Ext (fun r => v'.ownBlock = some r) w' w'') : Ext (fun r => v.ownBlock = some r) w w'' :=
  h.ext.then_ hx (fun i hi e => by
    rcases h.blk i e with h1 | h1
    · exact h1
    · omega)
theorem Ext.dt {S : Nat → Prop} {w w' : World} (h : Ext S w.drew w') : Ext S w w' := (Ext.refl _ w).drew.trans h

section
variable (ds : List DeclL) (sg : List SigL) (hok : sigsOk ds sg = true)
include hok

set_option maxRecDepth 100000 in
set_option maxHeartbeats 4000000 in
theorem implTy_12 (num : Int) (hnum : fitN 12 num) (es : List ExprL) (IH0 : ∀ j, j < es.length → TyI ds sg (eAt es j)) : TyI ds sg (.mk 12 num es) := by
  intro a0 n0 c0 a1 n1 c1 v vars a n c w base D hp hv h hD hb hlen hall
  refine calls_k fun Q hQ => ?_
  change Rd w D (encExprs es) _ at h
  rw [nE] at hlen
  simp only [ExprL.op, ExprL.num]
  obtain ⟨av, cv, rfl, hvc, hvo⟩ := hv.slice
  have VBL := Lib.hid hv.lt
  have ht := (sigsOk_parts hok).1
  have hf := Few.of_ok ht
  have hn0 : n0 ≤ 4 := by have := (decls_at hp.1).1; have := typesOk_len ht; omega
  have hvl : vars.length ≤ 1049576 := by omega
  have K0 := (Keep.al w (.cells #[.slice a0 n0 c0, .slice a1 n1 c1] 85)).trans (Keep.al _ (.cells #[.int .i64 12, .int .i64 num, .slice a n c] 41))
  have R0 := (rowOf w #[.slice a0 n0 c0, .slice a1 n1 c1] 85).alloc (.cells #[.int .i64 12, .int .i64 num, .slice a n c] 41)
  have R1 := rowOf (w.alloc (.cells #[.slice a0 n0 c0, .slice a1 n1 c1] 85)) #[.int .i64 12, .int .i64 num, .slice a n c] 41
  simp only [World.size_alloc] at R1
  have hv0 := hv.k K0
  have KT := Lib.hid (Keep.to (S := fun r => (Value.slice av vars.length cv).ownBlock = some r) K0)
  obtain ⟨e1, hnc, hnm, hat⟩ := exprs_at h
  have HL := Lib.hid e1
  have HA := Lib.hid hat
  have hn30 : n ≤ 262394 := by have := nEs_len es; omega
  have HOK := Lib.hid hok
  have HAll := Lib.hid hall
  have HLen := Lib.hid hlen
  have HT := Lib.hid ht
  have HD := Lib.hid hD
  have IH := Lib.hid IH0
  have HV := Lib.hid hv
  have HVO := Lib.hid hvo
  have HNUM := Lib.hid hnum
  clear e1 hat hok hall ht IH0 hD hv hvo hnum
  have V0 := Lib.hid (tyE_12 ds sg vars num es)
  rcases Nat.eq_zero_or_pos n with h0 | h0
  · subst h0
    by_cases hr : 0 ≤ num ∧ num < (vars.length : Int)
    · obtain ⟨k, rfl⟩ : ∃ k : Nat, num = (k : Int) := ⟨num.toNat, by omega⟩
      have hk : k < vars.length := by omega
      obtain ⟨b, o, rfl, _, d0⟩ := HV.out.ints.2.2 (by omega)
      have d1 := d0 k hk
      have V : Hid (tyE ds sg vars (.mk 12 (k : Int) es) = iAt vars k) := by show _ = _; rw [V0.out, if_pos ⟨HL.out, by omega, by omega⟩]; rfl
      have g0 := (K0.cell (World.block_lt_of_cell? w _ d1) (fun h => h)).trans d1
      have h00 : decide ((0 : Int) > 0) = false := rfl
      clear hr d0 d1
      go_enter Try.func55, Try.ntmps55
      go_wp2_with fail
      exact fin_ hQ ⟨ret_i V.out.symm, hv0, KT.out⟩
    · have V : Hid (tyE ds sg vars (.mk 12 num es) = -1) := by show _ = _; rw [V0.out, if_neg (fun h => hr h.2)]
      by_cases h1 : num < 0
      · clear hr
        go_enter Try.func55, Try.ntmps55
        go_wp2_with fail
        exact fin_ hQ ⟨ret_i V.out.symm, hv0, KT.out⟩
      · have h2 : (vars.length : Int) ≤ num := by omega
        clear hr
        go_enter Try.func55, Try.ntmps55
        go_wp2_with fail
        exact fin_ hQ ⟨ret_i V.out.symm, hv0, KT.out⟩
  · have V : Hid (tyE ds sg vars (.mk 12 num es) = -1) := by show _ = _; rw [V0.out, if_neg (fun h => by have := HL.out; omega)]
    go_enter Try.func55, Try.ntmps55
    go_wp2_with fail
    exact fin_ hQ ⟨ret_i V.out.symm, hv0, KT.out⟩

set_option maxRecDepth 100000 in
set_option maxHeartbeats 4000000 in
theorem implTy_13 (num : Int) (hnum : fitN 13 num) (es : List ExprL) (IH0 : ∀ j, j < es.length → TyI ds sg (eAt es j)) : TyI ds sg (.mk 13 num es) := by
  intro a0 n0 c0 a1 n1 c1 v vars a n c w base D hp hv h hD hb hlen hall
  refine calls_k fun Q hQ => ?_
  change Rd w D (encExprs es) _ at h
  rw [nE] at hlen
  simp only [ExprL.op, ExprL.num]
  obtain ⟨av, cv, rfl, hvc, hvo⟩ := hv.slice
  have VBL := Lib.hid hv.lt
  have ht := (sigsOk_parts hok).1
  have hf := Few.of_ok ht
  have hn0 : n0 ≤ 4 := by have := (decls_at hp.1).1; have := typesOk_len ht; omega
  have hvl : vars.length ≤ 1049576 := by omega
  have K0 := (Keep.al w (.cells #[.slice a0 n0 c0, .slice a1 n1 c1] 85)).trans (Keep.al _ (.cells #[.int .i64 13, .int .i64 num, .slice a n c] 41))
  have R0 := (rowOf w #[.slice a0 n0 c0, .slice a1 n1 c1] 85).alloc (.cells #[.int .i64 13, .int .i64 num, .slice a n c] 41)
  have R1 := rowOf (w.alloc (.cells #[.slice a0 n0 c0, .slice a1 n1 c1] 85)) #[.int .i64 13, .int .i64 num, .slice a n c] 41
  simp only [World.size_alloc] at R1
  have hv0 := hv.k K0
  have KT := Lib.hid (Keep.to (S := fun r => (Value.slice av vars.length cv).ownBlock = some r) K0)
  obtain ⟨e1, hnc, hnm, hat⟩ := exprs_at h
  have HL := Lib.hid e1
  have HA := Lib.hid hat
  have hn30 : n ≤ 262394 := by have := nEs_len es; omega
  have HOK := Lib.hid hok
  have HAll := Lib.hid hall
  have HLen := Lib.hid hlen
  have HT := Lib.hid ht
  have HD := Lib.hid hD
  have IH := Lib.hid IH0
  have HV := Lib.hid hv
  have HVO := Lib.hid hvo
  have HNUM := Lib.hid hnum
  clear e1 hat hok hall ht IH0 hD hv hvo hnum
  have V0 := Lib.hid (tyE_13 ds sg vars num es)
  by_cases hn : n = 2
  case neg =>
    have V : Hid (tyE ds sg vars (.mk 13 num es) = -1) := by show _ = _; rw [V0.out, if_neg (fun h => hn (by rw [← HL.out]; exact h.2))]
    have hz' : ((n : Int) != 2) = true := by simp; omega
    clear hn
    go_enter Try.func55, Try.ntmps55
    go_wp2_with fail
    exact fin_ hQ ⟨ret_i V.out.symm, hv0, KT.out⟩
  subst hn
  by_cases hz : num = 0
  case neg =>
    have V : Hid (tyE ds sg vars (.mk 13 num es) = -1) := by show _ = _; rw [V0.out, if_neg (fun h => hz h.1)]
    have hz' : (num != 0) = true := by simpa using hz
    clear hz
    go_enter Try.func55, Try.ntmps55
    go_wp2_with fail
    exact fin_ hQ ⟨ret_i V.out.symm, hv0, KT.out⟩
  subst hz
  obtain ⟨b, o, rfl, hDb, _⟩ := HA.out 0 (by omega)
  have HDB := Lib.hid hDb
  clear hDb
  have ns0 : ¬ (Value.slice av vars.length cv).ownBlock = some w.heap.size := fun e => by have := (VBL.out _ e).2; omega
  have ns1 : ¬ (Value.slice av vars.length cv).ownBlock = some (w.heap.size + 1) := fun e => by have := (VBL.out _ e).2; omega
  have nsb : ¬ (Value.slice av vars.length cv).ownBlock = some b := fun e => by have := (VBL.out _ e).1; have := HD.out _ HDB.out; omega
  have nsD : Hid (∀ q, D q → ¬ (Value.slice av vars.length cv).ownBlock = some q) := fun q hq e => by have := (VBL.out _ e).1; have := HD.out _ hq; omega
  have HE0 : Hid (0 < es.length) := by have := HL.out; show _ < _; omega
  have HB0 : Hid (vars.length + 4 * nE (eAt es 0) ≤ 1049576) := by have := nE_le es HE0.out; have := HLen.out; show _ ≤ _; omega
  have HE1 : Hid (1 < es.length) := by have := HL.out; show _ < _; omega
  have HB1 : Hid (vars.length + 4 * nE (eAt es 1) ≤ 1049576) := by have := nE_le es HE1.out; have := HLen.out; show _ ≤ _; omega
  obtain ⟨t, hz0⟩ : ∃ t, tyE ds sg vars (eAt es 0) = t := ⟨_, rfl⟩
  have HZ0 := Lib.hid hz0
  clear hz0
  have V1 : Hid (tyE ds sg vars (.mk 13 0 es) = if 0 ≤ t then tyE ds sg (vars ++ [t]) (eAt es 1) else -1) := by show _ = _; rw [V0.out, if_pos ⟨rfl, HL.out⟩, tyLet_at _ _ _ HL.out, HZ0.out]
  have TR := Lib.hid (ty_range HOK.out (eAt es 0) HAll.out)
  by_cases ht : 0 ≤ t
  case neg =>
    have V : Hid (tyE ds sg vars (.mk 13 0 es) = -1) := by show _ = _; rw [V1.out, if_neg ht]
    go_enter Try.func55, Try.ntmps55
    go_wp2_with fail
    generalize hW : ((w.alloc (.cells #[.slice a0 n0 c0, .slice a1 n1 c1] 85)).alloc (.cells #[.int .i64 13, .int .i64 0, .slice (some ⟨b, o, none⟩) 2 c] 41)) = W at *
    have x0 := R0.cell (i := 0) (by simp)
    have x1 := R0.cell (i := 1) (by simp)
    have y0 := R1.cell (i := 0) (by simp)
    have y1 := R1.cell (i := 1) (by simp)
    have y2 := R1.cell (i := 2) (by simp)
    simp at x0 x1 y0 y1 y2
    have hWs : w.heap.size + 2 = W.heap.size := by rw [← hW]; simp
    clear hW
    have qp := hp.ext KT.out nsD.out
    have qpd := qp.k (w' := W.drew) (Ext.refl (fun _ => False) W).drew
    have hvd := hv0.k (w' := W.drew) (Ext.refl (fun _ => False) W).drew
    have hbd : base ≤ W.drew.heap.size := by show base ≤ W.heap.size; omega
    obtain ⟨b', o', e', _, ak, nk, ck, dk0, dk1, dk2, rk⟩ := HA.out 0 (by omega)
    injection e' with e'
    injection e' with e' e''
    subst e' e''
    have k0 := (KT.out.cell (World.block_lt_of_cell? _ _ dk0) nsb).trans dk0
    have k1 := (KT.out.cell (World.block_lt_of_cell? _ _ dk1) nsb).trans dk1
    have k2 := (KT.out.cell (World.block_lt_of_cell? _ _ dk2) nsb).trans dk2
    simp only [Nat.zero_mul, Nat.add_zero] at k0 k1 k2
    have qk := rk.ext KT.out nsD.out
    clear dk0 dk1 dk2 rk
    have qkd := qk.k (w' := W.drew) (Ext.refl (fun _ => False) W).drew
    have pc : Ext (fun r => (Value.slice av vars.length cv).ownBlock = some r) W.drew W.drew := Ext.refl _ _
    go_region_held3 (fun w' => w'.cell? ⟨w.heap.size, 0, none⟩ = some (.slice a0 n0 c0) ∧ w'.cell? ⟨w.heap.size, 1, none⟩ = some (.slice a1 n1 c1) ∧ w'.cell? ⟨w.heap.size + 1, 2, none⟩ = some (.slice (some ⟨b, o, none⟩) 2 c) ∧ w'.cell? ⟨b, o, none⟩ = some (.int .i64 (eAt es 0).op) ∧ w'.cell? ⟨b, o + 1, none⟩ = some (.int .i64 (eAt es 0).num) ∧ w'.cell? ⟨b, o + 2, none⟩ = some (.slice ak nk ck))
      (first | exact ⟨Ext.at pc ns0 x0, Ext.at pc ns0 x1, Ext.at pc ns1 y2, Ext.at pc nsb k0, Ext.at pc nsb k1, Ext.at pc nsb k2⟩ | exact ⟨Ext.at (Ext.trans pc (Keep.to (Keep.al _ _))) ns0 x0, Ext.at (Ext.trans pc (Keep.to (Keep.al _ _))) ns0 x1, Ext.at (Ext.trans pc (Keep.to (Keep.al _ _))) ns1 y2, Ext.at (Ext.trans pc (Keep.to (Keep.al _ _))) nsb k0, Ext.at (Ext.trans pc (Keep.to (Keep.al _ _))) nsb k1, Ext.at (Ext.trans pc (Keep.to (Keep.al _ _))) nsb k2⟩ | go_keep)
      (first
        | (go_at_call 55; refine (IH.out 0 HE0.out _ _ _ _ _ _ _ vars _ _ _ _ base D qpd hvd qkd HD.out hbd HB0.out HAll.out).mono ?_; rw [HZ0.out]; rintro e w2 ⟨rfl, hv2, x2⟩; replace pc := Ext.trans pc x2))
    have PW := Lib.hid (Ext.dt pc)
    have KE := Lib.hid (KT.out.trans PW.out)
    have HV2 := Lib.hid hv2
    clear pc x2 hv2 qk qkd qpd hvd k0 k1 k2
    go_wp2_with fail
    exact fin_ hQ ⟨ret_i V.out.symm, HV2.out, KE.out⟩
  obtain ⟨u, hz1⟩ : ∃ u, tyE ds sg (vars ++ [t]) (eAt es 1) = u := ⟨_, rfl⟩
  have HZ1 := Lib.hid hz1
  clear hz1
  have V : Hid (tyE ds sg vars (.mk 13 0 es) = u) := by show _ = _; rw [V1.out, if_pos ht, HZ1.out]
  have HT1 : Hid (isT ds.length t = true) := by
    rcases TR.out with h | h
    · rw [HZ0.out] at h; omega
    · rw [HZ0.out] at h; exact h
  have HB1' : Hid ((vars ++ [t]).length + 4 * nE (eAt es 1) ≤ 1049576) := by
    have h1 := nE_two HL.out
    have h2 := nE_pos (eAt es 0)
    have := HLen.out
    show _ ≤ _
    rw [List.length_append, List.length_singleton]
    omega
  go_enter Try.func55, Try.ntmps55
  go_wp2_with fail
  generalize hW : ((w.alloc (.cells #[.slice a0 n0 c0, .slice a1 n1 c1] 85)).alloc (.cells #[.int .i64 13, .int .i64 0, .slice (some ⟨b, o, none⟩) 2 c] 41)) = W at *
  have x0 := R0.cell (i := 0) (by simp)
  have x1 := R0.cell (i := 1) (by simp)
  have y0 := R1.cell (i := 0) (by simp)
  have y1 := R1.cell (i := 1) (by simp)
  have y2 := R1.cell (i := 2) (by simp)
  simp at x0 x1 y0 y1 y2
  have hWs : w.heap.size + 2 = W.heap.size := by rw [← hW]; simp
  clear hW
  have qp := hp.ext KT.out nsD.out
  have qpd := qp.k (w' := W.drew) (Ext.refl (fun _ => False) W).drew
  have hvd := hv0.k (w' := W.drew) (Ext.refl (fun _ => False) W).drew
  have hbd : base ≤ W.drew.heap.size := by show base ≤ W.heap.size; omega
  obtain ⟨b', o', e', _, ak, nk, ck, dk0, dk1, dk2, rk⟩ := HA.out 0 (by omega)
  injection e' with e'
  injection e' with e' e''
  subst e' e''
  have k0 := (KT.out.cell (World.block_lt_of_cell? _ _ dk0) nsb).trans dk0
  have k1 := (KT.out.cell (World.block_lt_of_cell? _ _ dk1) nsb).trans dk1
  have k2 := (KT.out.cell (World.block_lt_of_cell? _ _ dk2) nsb).trans dk2
  simp only [Nat.zero_mul, Nat.add_zero] at k0 k1 k2
  have qk := rk.ext KT.out nsD.out
  clear dk0 dk1 dk2 rk
  have qkd := qk.k (w' := W.drew) (Ext.refl (fun _ => False) W).drew
  have pc : Ext (fun r => (Value.slice av vars.length cv).ownBlock = some r) W.drew W.drew := Ext.refl _ _
  go_region_held3 (fun w' => w'.cell? ⟨w.heap.size, 0, none⟩ = some (.slice a0 n0 c0) ∧ w'.cell? ⟨w.heap.size, 1, none⟩ = some (.slice a1 n1 c1) ∧ w'.cell? ⟨w.heap.size + 1, 2, none⟩ = some (.slice (some ⟨b, o, none⟩) 2 c) ∧ w'.cell? ⟨b, o, none⟩ = some (.int .i64 (eAt es 0).op) ∧ w'.cell? ⟨b, o + 1, none⟩ = some (.int .i64 (eAt es 0).num) ∧ w'.cell? ⟨b, o + 2, none⟩ = some (.slice ak nk ck))
    (first | exact ⟨Ext.at pc ns0 x0, Ext.at pc ns0 x1, Ext.at pc ns1 y2, Ext.at pc nsb k0, Ext.at pc nsb k1, Ext.at pc nsb k2⟩ | exact ⟨Ext.at (Ext.trans pc (Keep.to (Keep.al _ _))) ns0 x0, Ext.at (Ext.trans pc (Keep.to (Keep.al _ _))) ns0 x1, Ext.at (Ext.trans pc (Keep.to (Keep.al _ _))) ns1 y2, Ext.at (Ext.trans pc (Keep.to (Keep.al _ _))) nsb k0, Ext.at (Ext.trans pc (Keep.to (Keep.al _ _))) nsb k1, Ext.at (Ext.trans pc (Keep.to (Keep.al _ _))) nsb k2⟩ | go_keep)
    (first
      | (go_at_call 55; refine (IH.out 0 HE0.out _ _ _ _ _ _ _ vars _ _ _ _ base D qpd hvd qkd HD.out hbd HB0.out HAll.out).mono ?_; rw [HZ0.out]; rintro e w2 ⟨rfl, hv2, x2⟩; replace pc := Ext.trans pc x2))
  have PW := Lib.hid (Ext.dt pc)
  have KE := Lib.hid (KT.out.trans PW.out)
  have HV2 := Lib.hid hv2
  clear pc x2 hv2 qk qkd qpd hvd k0 k1 k2
  have x0' := (PW.out.cell (World.block_lt_of_cell? _ _ x0) ns0).trans x0
  have x1' := (PW.out.cell (World.block_lt_of_cell? _ _ x1) ns0).trans x1
  have y2' := (PW.out.cell (World.block_lt_of_cell? _ _ y2) ns1).trans y2
  clear x0 x1 y0 y1 y2
  have qpd2 := (qp.ext PW.out nsD.out).k (w' := w2.drew) (Ext.refl (fun _ => False) w2).drew
  have hvd2 := HV2.out.k (w' := w2.drew) (Ext.refl (fun _ => False) w2).drew
  have hbd2 : base ≤ w2.drew.heap.size := by have := PW.out.size; show base ≤ w2.heap.size; omega
  have hb2 : base ≤ w2.heap.size := hbd2
  obtain ⟨b', o', e', _, ak, nk, ck, dk0, dk1, dk2, rk⟩ := HA.out 1 (by omega)
  injection e' with e'
  injection e' with e' e''
  subst e' e''
  have k0 := (KE.out.cell (World.block_lt_of_cell? _ _ dk0) nsb).trans dk0
  have k1 := (KE.out.cell (World.block_lt_of_cell? _ _ dk1) nsb).trans dk1
  have k2 := (KE.out.cell (World.block_lt_of_cell? _ _ dk2) nsb).trans dk2
  simp only [Nat.one_mul] at k0 k1 k2
  have qk2 := rk.ext KE.out nsD.out
  clear dk0 dk1 dk2 rk
  have qkd2 := qk2.k (w' := w2.drew) (Ext.refl (fun _ => False) w2).drew
  go_wp2_with fail
  have pc : Ext (fun r => (Value.slice av vars.length cv).ownBlock = some r) w2.drew w2.drew := Ext.refl _ _
  go_region_held3 (fun w' => w'.cell? ⟨w.heap.size, 0, none⟩ = some (.slice a0 n0 c0) ∧ w'.cell? ⟨w.heap.size, 1, none⟩ = some (.slice a1 n1 c1) ∧ w'.cell? ⟨w.heap.size + 1, 2, none⟩ = some (.slice (some ⟨b, o, none⟩) 2 c) ∧ w'.cell? ⟨b, o + 3, none⟩ = some (.int .i64 (eAt es 1).op) ∧ w'.cell? ⟨b, o + 3 + 1, none⟩ = some (.int .i64 (eAt es 1).num) ∧ w'.cell? ⟨b, o + 3 + 2, none⟩ = some (.slice ak nk ck))
    (first | exact ⟨Ext.at pc ns0 x0', Ext.at pc ns0 x1', Ext.at pc ns1 y2', Ext.at pc nsb k0, Ext.at pc nsb k1, Ext.at pc nsb k2⟩ | exact ⟨Ext.at (Ext.trans pc (Keep.to (Keep.al _ _))) ns0 x0', Ext.at (Ext.trans pc (Keep.to (Keep.al _ _))) ns0 x1', Ext.at (Ext.trans pc (Keep.to (Keep.al _ _))) ns1 y2', Ext.at (Ext.trans pc (Keep.to (Keep.al _ _))) nsb k0, Ext.at (Ext.trans pc (Keep.to (Keep.al _ _))) nsb k1, Ext.at (Ext.trans pc (Keep.to (Keep.al _ _))) nsb k2⟩ | go_keep)
    (first
      | (refine step_appV (by rfl) (.tmp 63) (.tmp 65) (by rfl) base (.slice av vars.length cv) vars (by rfl) (hvd2.k (Keep.al _ _)) w2.heap.size 1 t (by rfl) (boxk (w := w2.drew) (Ext.refl _ _) 0) (by omega) (by simp; omega) ?_; intro v3 w3 hA; have HAA := Lib.hid hA; have pl := Keep.to (S := fun r => (Value.slice av vars.length cv).ownBlock = some r) (Keep.al w2.drew (.cells #[.int .i64 t] 3)); have PL := Lib.hid (Ext.trans pc pl); replace pc := Ext.trans (Ext.trans pc pl) hA.ext; have hr3 := hA.row; clear hA pl)
      | (go_at_call 55; refine (IH.out 1 HE1.out _ _ _ _ _ _ v3 (vars ++ [t]) _ _ _ _ base D (qpd2.ext pc nsD.out) hr3 (qkd2.ext pc nsD.out) HD.out (Nat.le_trans hbd2 pc.size) HB1'.out (allT_append HAll.out (allT_one HT1.out))).mono ?_; rw [HZ1.out]; rintro e w4 ⟨rfl, hv4, x4⟩; have HBK := Lib.hid (HAA.out.back w4 x4 hv4); replace pc := Ext.trans PL.out (HAA.out.grow x4); clear x4 hv4 hr3))
  have KF := Lib.hid (KE.out.trans (Ext.dt pc))
  go_wp2_with fail
  exact fin_ hQ ⟨ret_i V.out.symm, HBK.out, KF.out⟩
end
end Go.Proofs.Ytbknmljfnjlieaa
