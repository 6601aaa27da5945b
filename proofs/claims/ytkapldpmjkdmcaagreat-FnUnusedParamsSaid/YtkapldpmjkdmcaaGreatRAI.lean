/- The reference's types of expressions: matches. -/
import Derived.Test.YtkapldpmjkdmcaaGreatRAH
import Derived.Test.YtkapldpmjkdmcaaGreatRAE
import Derived.Test.YtkapldpmjkdmcaaGreatRAG
import Derived.IntWalk
namespace Go.Proofs.YtkapldpmjkdmcaaGreat
open Go.RowKit

theorem Ext.refl0 (w : World) : Keep w.drew w.drew := Ext.refl _ _
theorem Rd.kd {w : World} {D : Nat → Prop} {d : Dat} {v : Value} (h : Rd w D d v) : Rd w.drew D d v := h.k (Ext.refl (fun _ => False) w).drew
theorem PR.kd {w : World} {ds : List DeclL} {fs : List FuncL} {a0 : Option Addr} {n0 c0 : Nat} {a1 : Option Addr} {n1 c1 : Nat} (h : PR w ds fs a0 n0 c0 a1 n1 c1) : PR w.drew ds fs a0 n0 c0 a1 n1 c1 := h.k (Ext.refl (fun _ => False) w).drew
theorem Keep.dt {w w' : World} (h : Keep w.drew w') : Keep w w' := (Ext.refl _ w).drew.trans h
def matchL (ds : List DeclL) (sg : List SigL) (vars : List Int) (num : Int) (es : List ExprL) : Int :=
  if 0 < (armsL ds num).length ∧ es.length = 1 + (armsL ds num).length ∧ tyHd ds sg vars es = num then oneT (tyTl ds sg vars es (armsL ds num)) else -1
theorem armsL_len (ds : List DeclL) (t : Int) : (armsL ds t).length = (consL ds t).length := by simp [armsL]
theorem armsL_at {ds : List DeclL} {t : Int} {i : Nat} (h : i < (consL ds t).length) : cAt (armsL ds t) i = conFieldsL ds (iAt (consL ds t) i) := by
  rw [cAt_get (by rw [armsL_len]; exact h), iAt_eq h]; simp [armsL]
theorem consL_len {ds : List DeclL} (hf : Few ds) (t : Int) : (consL ds t).length ≤ 3 := by
  unfold consL
  split
  · next h => rw [List.length_map, List.length_range]; exact hf.2 _ (by omega)
  · simp

section
variable (ds : List DeclL) (fs : List FuncL)

set_option maxRecDepth 100000 in
set_option maxHeartbeats 8000000 in
theorem specMatchType (num : Int) (es : List ExprL) (IH0 : ∀ j, j < es.length → TyS ds fs (eAt es j)) (a0 : Option Addr) (n0 c0 : Nat) (a1 : Option Addr) (n1 c1 : Nat) (av : Option Addr) (nv cv : Nat) (vars : List Int) (a : Option Addr) (n c : Nat) (w : World)
    (hp : PR w ds fs a0 n0 c0 a1 n1 c1) (hv : Rd w (fun _ => True) (encInts vars) (.slice av nv cv)) (h : Rd w (fun _ => True) (encExprs es) (.slice a n c)) (hlen : vars.length + 4 * (nEs es + 1) ≤ 1049576) (hall : allT ds.length vars = true) (hok : sigsOk ds (fs.map sigF) = true) :
    Calls Tryz.prog 150 #[.agg #[.slice a0 n0 c0, .slice a1 n1 c1], .slice av nv cv, .agg #[.int .i64 8, .int .i64 num, .slice a n c]] w fun r w' => r = .returned (.int .i64 (matchL ds (fs.map sigF) vars num es)) ∧ Keep w w' := by
  refine calls_k fun Q hQ => ?_
  have ht := (sigsOk_parts hok).1
  have hf := Few.of_ok ht
  have K0 := (Keep.al w (.cells #[.slice a0 n0 c0, .slice a1 n1 c1] 44)).trans (Keep.al _ (.cells #[.int .i64 8, .int .i64 num, .slice a n c] 58))
  have R0 := (rowOf w #[.slice a0 n0 c0, .slice a1 n1 c1] 44).alloc (.cells #[.int .i64 8, .int .i64 num, .slice a n c] 58)
  have R1 := rowOf (w.alloc (.cells #[.slice a0 n0 c0, .slice a1 n1 c1] 44)) #[.int .i64 8, .int .i64 num, .slice a n c] 58
  simp only [World.size_alloc] at R1
  obtain ⟨e1, hnc, hnm, hat⟩ := exprs_at h
  have HL := Lib.hid e1
  have HA := Lib.hid hat
  have hn30 : n ≤ 262394 := by have := nEs_len es; omega
  have hnv : nv ≤ 1049576 := by have := (ints_at hv).1; omega
  have HOK := Lib.hid hok
  have HAll := Lib.hid hall
  have HLen := Lib.hid hlen
  have HF := Lib.hid hf
  have HT := Lib.hid ht
  have IH := Lib.hid IH0
  have hcl := consL_len hf num
  have HAL := Lib.hid (armsL_len ds num)
  clear e1 hat hok hall ht IH0
  rcases Nat.eq_zero_or_pos (consL ds num).length with hm0 | hm0
  · have V : Hid (matchL ds (fs.map sigF) vars num es = -1) := by show _ = _; rw [matchL, if_neg (by rw [HAL.out]; omega)]
    go_enter Tryz.func150, Tryz.ntmps150
    go_wp2_with fail
    refine (specConsOf0 _ _ _ ds _ _ _ (Rd.toDecls (hp.k K0).1) hf).mono ?_
    rintro e w1 ⟨ac, m, cc, rfl, hmc, oc, p1⟩
    have OC := Lib.hid oc
    have hml : m = (consL ds num).length := oc.1.symm
    have HM := Lib.hid hml
    have hm3 : m ≤ 3 := by omega
    have K1 := Lib.hid (K0.trans p1)
    have R0' := Lib.hid (row_ext R0 p1 (fun h => h))
    have R1' := Lib.hid (row_ext R1 p1 (fun h => h))
    have x0 := R0'.out.cell (i := 0) (by simp)
    have x1 := R0'.out.cell (i := 1) (by simp)
    have y0 := R1'.out.cell (i := 0) (by simp)
    have y1 := R1'.out.cell (i := 1) (by simp)
    have y2 := R1'.out.cell (i := 2) (by simp)
    simp at x0 x1 y0 y1 y2
    have qp := hp.k K1.out
    have qv := hv.k K1.out
    have qe := h.k K1.out
    clear oc hml p1 R0 R1 K0 hp hv h hcl hlen
    have hmz : m = 0 := by have := HM.out; omega
    subst hmz
    go_wp2_with fail
    go_quiet (fail)
    go_wp2_with fail
    exact fin_ hQ ⟨ret_i V.out.symm, by first | exact K1.out.drew | exact K1.out.drewN _⟩
  by_cases hn : n = 1 + (consL ds num).length
  case neg =>
    have V : Hid (matchL ds (fs.map sigF) vars num es = -1) := by show _ = _; rw [matchL, if_neg (by rw [HAL.out]; have := HL.out; omega)]
    go_enter Tryz.func150, Tryz.ntmps150
    go_wp2_with fail
    refine (specConsOf0 _ _ _ ds _ _ _ (Rd.toDecls (hp.k K0).1) hf).mono ?_
    rintro e w1 ⟨ac, m, cc, rfl, hmc, oc, p1⟩
    have OC := Lib.hid oc
    have hml : m = (consL ds num).length := oc.1.symm
    have HM := Lib.hid hml
    have hm3 : m ≤ 3 := by omega
    have K1 := Lib.hid (K0.trans p1)
    have R0' := Lib.hid (row_ext R0 p1 (fun h => h))
    have R1' := Lib.hid (row_ext R1 p1 (fun h => h))
    have x0 := R0'.out.cell (i := 0) (by simp)
    have x1 := R0'.out.cell (i := 1) (by simp)
    have y0 := R1'.out.cell (i := 0) (by simp)
    have y1 := R1'.out.cell (i := 1) (by simp)
    have y2 := R1'.out.cell (i := 2) (by simp)
    simp at x0 x1 y0 y1 y2
    have qp := hp.k K1.out
    have qv := hv.k K1.out
    have qe := h.k K1.out
    clear oc hml p1 R0 R1 K0 hp hv h hcl hlen
    have hmz : ((m : Int) == 0) = false := by have := HM.out; simp; omega
    have hmz2 : ((n : Int) != 1 + (m : Int)) = true := by have := HM.out; simp; omega
    have hmw : IntKind.i64.wrap (1 + (m : Int)) = 1 + (m : Int) := by rw [IntWalk.i64_in _ (by omega)]
    go_wp2_with fail
    go_quiet (fail)
    go_wp2_with fail
    exact fin_ hQ ⟨ret_i V.out.symm, by first | exact K1.out.drew | exact K1.out.drewN _⟩
  have hnA : n ≤ 1 + (consL ds num).length := by omega
  have hnB : 1 + (consL ds num).length ≤ n := by omega
  clear hn
  obtain ⟨b, o, rfl, _, ak, nk, ck, dk0, dk1, dk2, rk⟩ := HA.out 0 (by omega)
  rw [Nat.zero_mul, Nat.add_zero] at dk0 dk1 dk2
  have HE0 : Hid (0 < es.length) := by have := HL.out; show _ < _; omega
  have hb0 : vars.length + 4 * nE (eAt es 0) ≤ 1049576 := by have := nE_le es HE0.out; omega
  have HZ := Lib.hid (tyHd_at ds (fs.map sigF) vars HE0.out)
  generalize hz : tyE ds (fs.map sigF) vars (eAt es 0) = z at HZ
  have HZ2 := Lib.hid hz
  clear hz
  by_cases hzn : z = num
  case neg =>
    have V : Hid (matchL ds (fs.map sigF) vars num es = -1) := by show _ = _; rw [matchL, if_neg (by rw [HZ.out]; exact fun h => hzn h.2.2)]
    have hzn' : (z != num) = true := by simpa using hzn
    clear hzn
    go_enter Tryz.func150, Tryz.ntmps150
    go_wp2_with fail
    refine (specConsOf0 _ _ _ ds _ _ _ (Rd.toDecls (hp.k K0).1) hf).mono ?_
    rintro e w1 ⟨ac, m, cc, rfl, hmc, oc, p1⟩
    have OC := Lib.hid oc
    have hml : m = (consL ds num).length := oc.1.symm
    have HM := Lib.hid hml
    have hm3 : m ≤ 3 := by omega
    have K1 := Lib.hid (K0.trans p1)
    have R0' := Lib.hid (row_ext R0 p1 (fun h => h))
    have R1' := Lib.hid (row_ext R1 p1 (fun h => h))
    have x0 := R0'.out.cell (i := 0) (by simp)
    have x1 := R0'.out.cell (i := 1) (by simp)
    have y0 := R1'.out.cell (i := 0) (by simp)
    have y1 := R1'.out.cell (i := 1) (by simp)
    have y2 := R1'.out.cell (i := 2) (by simp)
    simp at x0 x1 y0 y1 y2
    have qp := hp.k K1.out
    have qv := hv.k K1.out
    have qe := h.k K1.out
    clear oc hml p1 R0 R1 K0 hp hv h hcl hlen
    have k0 := (K1.out.cell (World.block_lt_of_cell? w _ dk0) (fun h => h)).trans dk0
    have k1 := (K1.out.cell (World.block_lt_of_cell? w _ dk1) (fun h => h)).trans dk1
    have k2 := (K1.out.cell (World.block_lt_of_cell? w _ dk2) (fun h => h)).trans dk2
    have qk := (rk.k K1.out).kd
    have qpd := qp.kd
    have qvd := qv.kd
    have hmz : ((m : Int) == 0) = false := by have := HM.out; simp; omega
    have hmz2 : ((n : Int) != 1 + (m : Int)) = false := by have := HM.out; simp; omega
    have hmw : IntKind.i64.wrap (1 + (m : Int)) = 1 + (m : Int) := by rw [IntWalk.i64_in _ (by omega)]
    have hn0 : (0 : Int) < (n : Int) := by omega
    have hn0' : 0 < n := by omega
    have pc := Ext.refl0 w1
    go_wp2_with fail
    go_region_held3 (fun w' => w'.cell? ⟨w.heap.size, 0, none⟩ = some (.slice a0 n0 c0) ∧ w'.cell? ⟨w.heap.size, 1, none⟩ = some (.slice a1 n1 c1) ∧ w'.cell? ⟨w.heap.size + 1, 1, none⟩ = some (.int .i64 num) ∧ w'.cell? ⟨w.heap.size + 1, 2, none⟩ = some (.slice (some ⟨b, o, none⟩) n c) ∧ w'.cell? ⟨b, o, none⟩ = some (.int .i64 (eAt es 0).op) ∧ w'.cell? ⟨b, o + 1, none⟩ = some (.int .i64 (eAt es 0).num) ∧ w'.cell? ⟨b, o + 2, none⟩ = some (.slice ak nk ck))
      (first | exact ⟨Keep.at pc x0, Keep.at pc x1, Keep.at pc y1, Keep.at pc y2, Keep.at pc k0, Keep.at pc k1, Keep.at pc k2⟩ | go_keep)
      (first
        | (go_at_call 99; refine (IH.out 0 HE0.out _ _ _ _ _ _ _ _ _ _ _ _ _ _ (qpd.k pc) (qvd.k pc) (qk.k pc) hb0 HAll.out).mono ?_; rw [HZ2.out]; rintro e w2 ⟨rfl, p2⟩; replace pc := pc.trans p2))
    have KE := Lib.hid (K1.out.trans (Keep.dt pc))
    go_wp2_with fail
    exact fin_ hQ ⟨ret_i V.out.symm, KE.out⟩
  subst hzn
  have HTL : ∀ i, i < (consL ds z).length → iAt (tyTl ds (fs.map sigF) vars es (armsL ds z)) i = tyE ds (fs.map sigF) (vars ++ conFieldsL ds (iAt (consL ds z) i)) (eAt es (i + 1)) := fun i hi => by
    rw [tyTl_at ds (fs.map sigF) vars (by have := HL.out; omega), armsL_at hi]
  have HTL := Lib.hid HTL
  have HTLL : Hid ((tyTl ds (fs.map sigF) vars es (armsL ds z)).length = (consL ds z).length) := by show _ = _; rw [tyTl_len]; have := HL.out; omega
  have V0 : Hid (matchL ds (fs.map sigF) vars z es = oneT (tyTl ds (fs.map sigF) vars es (armsL ds z))) := by show _ = _; rw [matchL, if_pos ⟨by rw [HAL.out]; exact hm0, by rw [HAL.out]; have := HL.out; omega, HZ.out⟩]
  have hzz : (z != z) = false := by simp
  have GE : ∀ i, i < (consL ds z).length → -1 ≤ iAt (tyTl ds (fs.map sigF) vars es (armsL ds z)) i := fun i hi => by
    rw [HTL.out i hi]; exact (ty_ge HOK.out _ (allT_append HAll.out (conFieldsL_ok HT.out _).2)).1
  have GE := Lib.hid GE
  go_enter Tryz.func150, Tryz.ntmps150
  go_wp2_with fail
  refine (specConsOf0 _ _ _ ds _ _ _ (Rd.toDecls (hp.k K0).1) hf).mono ?_
  rintro e w1 ⟨ac, m, cc, rfl, hmc, oc, p1⟩
  have OC := Lib.hid oc
  have hml : m = (consL ds z).length := oc.1.symm
  have HM := Lib.hid hml
  have hm3 : m ≤ 3 := by omega
  have K1 := Lib.hid (K0.trans p1)
  have R0' := Lib.hid (row_ext R0 p1 (fun h => h))
  have R1' := Lib.hid (row_ext R1 p1 (fun h => h))
  have x0 := R0'.out.cell (i := 0) (by simp)
  have x1 := R0'.out.cell (i := 1) (by simp)
  have y0 := R1'.out.cell (i := 0) (by simp)
  have y1 := R1'.out.cell (i := 1) (by simp)
  have y2 := R1'.out.cell (i := 2) (by simp)
  simp at x0 x1 y0 y1 y2
  have qp := hp.k K1.out
  have qv := hv.k K1.out
  have qe := h.k K1.out
  clear oc hml p1 R0 R1 K0 hp hv h hcl hlen
  have k0 := (K1.out.cell (World.block_lt_of_cell? w _ dk0) (fun h => h)).trans dk0
  have k1 := (K1.out.cell (World.block_lt_of_cell? w _ dk1) (fun h => h)).trans dk1
  have k2 := (K1.out.cell (World.block_lt_of_cell? w _ dk2) (fun h => h)).trans dk2
  have qk := (rk.k K1.out).kd
  have qpd := qp.kd
  have qvd := qv.kd
  have hmz : ((m : Int) == 0) = false := by have := HM.out; simp; omega
  have hmz2 : ((n : Int) != 1 + (m : Int)) = false := by have := HM.out; simp; omega
  have hmw : IntKind.i64.wrap (1 + (m : Int)) = 1 + (m : Int) := by rw [IntWalk.i64_in _ (by omega)]
  have hn0 : (0 : Int) < (n : Int) := by omega
  have hn0' : 0 < n := by omega
  have pc := Ext.refl0 w1
  go_wp2_with fail
  go_region_held3 (fun w' => w'.cell? ⟨w.heap.size, 0, none⟩ = some (.slice a0 n0 c0) ∧ w'.cell? ⟨w.heap.size, 1, none⟩ = some (.slice a1 n1 c1) ∧ w'.cell? ⟨w.heap.size + 1, 1, none⟩ = some (.int .i64 z) ∧ w'.cell? ⟨w.heap.size + 1, 2, none⟩ = some (.slice (some ⟨b, o, none⟩) n c) ∧ w'.cell? ⟨b, o, none⟩ = some (.int .i64 (eAt es 0).op) ∧ w'.cell? ⟨b, o + 1, none⟩ = some (.int .i64 (eAt es 0).num) ∧ w'.cell? ⟨b, o + 2, none⟩ = some (.slice ak nk ck))
    (first | exact ⟨Keep.at pc x0, Keep.at pc x1, Keep.at pc y1, Keep.at pc y2, Keep.at pc k0, Keep.at pc k1, Keep.at pc k2⟩ | go_keep)
    (first
      | (go_at_call 99; refine (IH.out 0 HE0.out _ _ _ _ _ _ _ _ _ _ _ _ _ _ (qpd.k pc) (qvd.k pc) (qk.k pc) hb0 HAll.out).mono ?_; rw [HZ2.out]; rintro e w2 ⟨rfl, p2⟩; replace pc := pc.trans p2))
  have KE := Lib.hid (K1.out.trans (Keep.dt pc))
  have PC := Lib.hid (Keep.dt pc)
  clear qk qpd qvd k0 k1 k2 x0 x1 y0 y1 y2 hmw hn0 hn0' hmz hmz2 pc
  have x0 := (row_ext R0'.out PC.out (fun h => h)).cell (i := 0) (by simp)
  have x1 := (row_ext R0'.out PC.out (fun h => h)).cell (i := 1) (by simp)
  have y2 := (row_ext R1'.out PC.out (fun h => h)).cell (i := 2) (by simp)
  simp at x0 x1 y2
  obtain ⟨bc, oc, rfl, dc⟩ : ∃ bc oc, ac = some ⟨bc, oc, none⟩ ∧ ∀ i, i < m → w2.cell? ⟨bc, oc + i, none⟩ = some (.int .i64 (iAt (consL ds z) i)) := by
    obtain ⟨bc, oc, e, _, hc⟩ := (OC.out.read).2 (by have := HM.out; omega)
    exact ⟨bc, oc, e, fun i hi => (PC.out.cell (World.block_lt_of_cell? _ _ (hc i hi)) (fun h => h)).trans (hc i hi)⟩
  have DC := Lib.hid dc
  clear dc
  obtain ⟨b', o', e', _, ak, nk, ck, dk0, dk1, dk2, rk⟩ := HA.out 1 (by omega)
  injection e' with e'
  injection e' with e' e''
  subst e' e''
  rw [Nat.one_mul] at dk0 dk1 dk2
  have k0 := (KE.out.cell (World.block_lt_of_cell? w _ dk0) (fun h => h)).trans dk0
  have k1 := (KE.out.cell (World.block_lt_of_cell? w _ dk1) (fun h => h)).trans dk1
  have k2 := (KE.out.cell (World.block_lt_of_cell? w _ dk2) (fun h => h)).trans dk2
  have qk := (rk.k KE.out).kd
  have qpd := (qp.k PC.out).kd
  have qvd := (qv.k PC.out).kd
  have cq0 := DC.out 0 (by have := HM.out; omega)
  rw [Nat.add_zero] at cq0
  have hm0'' : 0 < m := by have := HM.out; omega
  have hm0' : (0 : Int) < (m : Int) := by omega
  have hn1 : (1 : Int) < (n : Int) := by omega
  have hn1' : 1 < n := by omega
  have HE1 : Hid (1 < es.length) := by have := HL.out; show _ < _; omega
  have hb1 : vars.length + 4 * nE (eAt es 1) + 4 ≤ 1049576 := by have := nE_le es HE1.out; have := HLen.out; omega
  have HFO := Lib.hid (conFieldsL_ok HT.out (iAt (consL ds z) 0))
  have hfo : (conFieldsL ds (iAt (consL ds z) 0)).length ≤ 3 := HFO.out.1
  have HY0 := Lib.hid (HTL.out 0 (by omega))
  generalize hy : tyE ds (fs.map sigF) (vars ++ conFieldsL ds (iAt (consL ds z) 0)) (eAt es (0 + 1)) = y at HY0
  have HY : Hid (tyE ds (fs.map sigF) (vars ++ conFieldsL ds (iAt (consL ds z) 0)) (eAt es 1) = y) := hy
  clear hy dk0 dk1 dk2 rk
  have pc := Ext.refl0 w2
  go_wp2_with fail
  go_region_held3 (fun w' => w'.cell? ⟨w.heap.size, 0, none⟩ = some (.slice a0 n0 c0) ∧ w'.cell? ⟨w.heap.size, 1, none⟩ = some (.slice a1 n1 c1) ∧ w'.cell? ⟨w.heap.size + 1, 2, none⟩ = some (.slice (some ⟨b, o, none⟩) n c) ∧ w'.cell? ⟨bc, oc, none⟩ = some (.int .i64 (iAt (consL ds z) 0)) ∧ w'.cell? ⟨b, o + 3, none⟩ = some (.int .i64 (eAt es 1).op) ∧ w'.cell? ⟨b, o + 3 + 1, none⟩ = some (.int .i64 (eAt es 1).num) ∧ w'.cell? ⟨b, o + 3 + 2, none⟩ = some (.slice ak nk ck))
    (first | exact ⟨Keep.at pc x0, Keep.at pc x1, Keep.at pc y2, Keep.at pc cq0, Keep.at pc k0, Keep.at pc k1, Keep.at pc k2⟩ | go_keep)
    (first
      | (go_at_call 148; refine (specConFields0 _ _ _ ds _ _ _ (Rd.toDecls (qpd.k pc).1) HF.out).mono ?_; rintro e wa ⟨fa, fm, fc, rfl, hfc, fi, pa⟩; replace pc := pc.trans pa)
      | (go_at_call 149; refine (specExtend _ _ _ vars _ _ _ _ _ _ _ (Rd.toInts (qvd.k pc)) (by omega) fi (by have := fi.1; omega)).mono ?_; rintro e wb ⟨xa, xn, xc, rfl, hxc, ox, pb⟩; replace pc := pc.trans pb)
      | (go_at_call 99; refine (IH.out 1 HE1.out _ _ _ _ _ _ _ _ _ _ _ _ _ _ (qpd.k pc) ((ox.read.toRd hxc (by have := ox.1; simp at this; omega)).t) (qk.k pc) (by rw [List.length_append]; omega) (allT_append HAll.out HFO.out.2)).mono ?_; rw [HY.out]; rintro e w3 ⟨rfl, p3⟩; replace pc := pc.trans p3))
  have KE3 := Lib.hid (KE.out.trans (Keep.dt pc))
  have PC3 := Lib.hid (PC.out.trans (Keep.dt pc))
  clear qk qpd qvd k0 k1 k2 x0 x1 y2 hn1 hn1' cq0 pc
  go_wp2_with fail
  go_loopw [9] (fun iv wr => ∃ j : Nat, 1 ≤ j ∧ j ≤ m ∧ iv = .int .i64 j ∧ Hid (∀ l, l < j → iAt (tyTl ds (fs.map sigF) vars es (armsL ds z)) l = y) ∧ Hid (Keep w1 wr)) (fun iv _ => m - (intOf iv).toNat)
  case atStart =>
    refine ⟨1, Nat.le_refl _, by omega, rfl, fun l hl => ?_, PC3.out⟩
    have hl0 : l = 0 := by omega
    rw [hl0]; exact HY0.out
  case round =>
    obtain ⟨j, hj1, hjm, rfl, hI, hK⟩ := hrel
    by_cases hlt : j < m
    · have KW := Lib.hid (K1.out.trans hK.out)
      have x0 := (row_ext R0'.out hK.out (fun h => h)).cell (i := 0) (by simp)
      have x1 := (row_ext R0'.out hK.out (fun h => h)).cell (i := 1) (by simp)
      have y2 := (row_ext R1'.out hK.out (fun h => h)).cell (i := 2) (by simp)
      simp at x0 x1 y2
      obtain ⟨bq, oq, e', hd', hcq⟩ := (OC.out.read).2 (by have := HM.out; omega)
      injection e' with e'
      injection e' with e' e''
      subst e' e''
      have dj := hcq j hlt
      have cq0 := (hK.out.cell (World.block_lt_of_cell? _ _ dj) (fun h => h)).trans dj
      obtain ⟨b', o', e', _, ak, nk, ck, dk0, dk1, dk2, rk⟩ := HA.out (1 + j) (by have := HM.out; omega)
      injection e' with e'
      injection e' with e' e''
      subst e' e''
      have k0 := (KW.out.cell (World.block_lt_of_cell? w _ dk0) (fun h => h)).trans dk0
      have k1 := (KW.out.cell (World.block_lt_of_cell? w _ dk1) (fun h => h)).trans dk1
      have k2 := (KW.out.cell (World.block_lt_of_cell? w _ dk2) (fun h => h)).trans dk2
      have qk := (rk.k KW.out).kd
      have qpd := (qp.k hK.out).kd
      have qvd := (qv.k hK.out).kd
      have HEJ : Hid (1 + j < es.length) := by have := HL.out; have := HM.out; show _ < _; omega
      have hb1 : vars.length + 4 * nE (eAt es (1 + j)) + 4 ≤ 1049576 := by have := nE_le es HEJ.out; have := HLen.out; omega
      have HFO := Lib.hid (conFieldsL_ok HT.out (iAt (consL ds z) j))
      have hfo : (conFieldsL ds (iAt (consL ds z) j)).length ≤ 3 := HFO.out.1
      have HYJ := HTL.out j (by have := HM.out; omega)
      rw [show j + 1 = 1 + j by omega] at HYJ
      generalize hyj : tyE ds (fs.map sigF) (vars ++ conFieldsL ds (iAt (consL ds z) j)) (eAt es (1 + j)) = yj at HYJ
      have HY2 := Lib.hid hyj
      have HYJ2 := Lib.hid HYJ
      have hw1 : IntKind.i64.wrap (1 + (j : Int)) = 1 + (j : Int) := by rw [IntWalk.i64_in _ (by omega)]
      have hw2 : (0 : Int) ≤ 1 + (j : Int) := by omega
      have hw3 : 1 + (j : Int) < (n : Int) := by have := HM.out; omega
      have hw4 : (1 + (j : Int)).toNat = 1 + j := by omega
      have hj0 : (0 : Int) ≤ (j : Int) := by omega
      have hjm' : (j : Int) < (m : Int) := by omega
      clear hyj HYJ dk0 dk1 dk2 rk dj hcq
      by_cases hyy : yj = y
      · have hyy' : (yj != y) = false := by simpa using hyy
        have HYY := Lib.hid hyy
        clear hyy
        have pc := Ext.refl0 wr
        go_wp2_with fail
        go_region_held3 (fun w' => w'.cell? ⟨w.heap.size, 0, none⟩ = some (.slice a0 n0 c0) ∧ w'.cell? ⟨w.heap.size, 1, none⟩ = some (.slice a1 n1 c1) ∧ w'.cell? ⟨w.heap.size + 1, 2, none⟩ = some (.slice (some ⟨b, o, none⟩) n c) ∧ w'.cell? ⟨bc, oc + j, none⟩ = some (.int .i64 (iAt (consL ds z) j)) ∧ w'.cell? ⟨b, o + (1 + j) * 3, none⟩ = some (.int .i64 (eAt es (1 + j)).op) ∧ w'.cell? ⟨b, o + (1 + j) * 3 + 1, none⟩ = some (.int .i64 (eAt es (1 + j)).num) ∧ w'.cell? ⟨b, o + (1 + j) * 3 + 2, none⟩ = some (.slice ak nk ck))
          (first | exact ⟨Keep.at pc x0, Keep.at pc x1, Keep.at pc y2, Keep.at pc cq0, Keep.at pc k0, Keep.at pc k1, Keep.at pc k2⟩ | go_keep)
          (first
            | (go_at_call 148; refine (specConFields0 _ _ _ ds _ _ _ (Rd.toDecls (qpd.k pc).1) HF.out).mono ?_; rintro e wa ⟨fa, fm, fc, rfl, hfc, fi, pa⟩; replace pc := pc.trans pa)
            | (go_at_call 149; refine (specExtend _ _ _ vars _ _ _ _ _ _ _ (Rd.toInts (qvd.k pc)) (by omega) fi (by have := fi.1; omega)).mono ?_; rintro e wb ⟨xa, xn, xc, rfl, hxc, ox, pb⟩; replace pc := pc.trans pb)
            | (go_at_call 99; refine (IH.out (1 + j) HEJ.out _ _ _ _ _ _ _ _ _ _ _ _ _ _ (qpd.k pc) ((ox.read.toRd hxc (by have := ox.1; simp at this; omega)).t) (qk.k pc) (by rw [List.length_append]; omega) (allT_append HAll.out HFO.out.2)).mono ?_; rw [HY2.out]; rintro e w4 ⟨rfl, p4⟩; replace pc := pc.trans p4))
        have hI2 : Hid (∀ l, l < j + 1 → iAt (tyTl ds (fs.map sigF) vars es (armsL ds z)) l = y) := by
          intro l hl
          rcases Nat.lt_succ_iff_lt_or_eq.1 hl with h | rfl
          · exact hI.out l h
          · rw [HYJ2.out, HYY.out]
        have hK2 := Lib.hid (hK.out.trans (Keep.dt pc))
        clear qk qpd qvd k0 k1 k2 x0 x1 y2 cq0 pc hw1 hw2 hw3 hw4 hI hK KW
        go_wp2_with fail
        go_roundw
        case rel => exact ⟨j + 1, by omega, by omega, by go_num, hI2, hK2⟩
        case measure => simp [intOf]; omega
      · have hyy' : (yj != y) = true := by simpa using hyy
        have V : Hid (matchL ds (fs.map sigF) vars z es = -1) := by
          show _ = _
          rw [V0.out, oneT_neg (i := j) (by rw [HTLL.out]; have := HM.out; omega) (.inl (by rw [HYJ2.out, hI.out 0 (by omega)]; exact hyy))]
        clear hyy
        have pc := Ext.refl0 wr
        go_wp2_with fail
        go_region_held3 (fun w' => w'.cell? ⟨w.heap.size, 0, none⟩ = some (.slice a0 n0 c0) ∧ w'.cell? ⟨w.heap.size, 1, none⟩ = some (.slice a1 n1 c1) ∧ w'.cell? ⟨w.heap.size + 1, 2, none⟩ = some (.slice (some ⟨b, o, none⟩) n c) ∧ w'.cell? ⟨bc, oc + j, none⟩ = some (.int .i64 (iAt (consL ds z) j)) ∧ w'.cell? ⟨b, o + (1 + j) * 3, none⟩ = some (.int .i64 (eAt es (1 + j)).op) ∧ w'.cell? ⟨b, o + (1 + j) * 3 + 1, none⟩ = some (.int .i64 (eAt es (1 + j)).num) ∧ w'.cell? ⟨b, o + (1 + j) * 3 + 2, none⟩ = some (.slice ak nk ck))
          (first | exact ⟨Keep.at pc x0, Keep.at pc x1, Keep.at pc y2, Keep.at pc cq0, Keep.at pc k0, Keep.at pc k1, Keep.at pc k2⟩ | go_keep)
          (first
            | (go_at_call 148; refine (specConFields0 _ _ _ ds _ _ _ (Rd.toDecls (qpd.k pc).1) HF.out).mono ?_; rintro e wa ⟨fa, fm, fc, rfl, hfc, fi, pa⟩; replace pc := pc.trans pa)
            | (go_at_call 149; refine (specExtend _ _ _ vars _ _ _ _ _ _ _ (Rd.toInts (qvd.k pc)) (by omega) fi (by have := fi.1; omega)).mono ?_; rintro e wb ⟨xa, xn, xc, rfl, hxc, ox, pb⟩; replace pc := pc.trans pb)
            | (go_at_call 99; refine (IH.out (1 + j) HEJ.out _ _ _ _ _ _ _ _ _ _ _ _ _ _ (qpd.k pc) ((ox.read.toRd hxc (by have := ox.1; simp at this; omega)).t) (qk.k pc) (by rw [List.length_append]; omega) (allT_append HAll.out HFO.out.2)).mono ?_; rw [HY2.out]; rintro e w4 ⟨rfl, p4⟩; replace pc := pc.trans p4))
        have hK2 := Lib.hid (KW.out.trans (Keep.dt pc))
        clear qk qpd qvd k0 k1 k2 x0 x1 y2 cq0 pc hw1 hw2 hw3 hw4 hI hK
        go_wp2_with fail
        exact fin_ hQ ⟨ret_i V.out.symm, hK2.out⟩
    · have V : Hid (matchL ds (fs.map sigF) vars z es = y) := by
        show _ = _
        rw [V0.out]
        refine oneT_same (by rw [HTLL.out]; exact hm0) ?_ (fun i hi => hI.out i (by rw [HTLL.out] at hi; have := HM.out; omega))
        have := GE.out 0 hm0
        rw [hI.out 0 (by omega)] at this
        exact this
      go_wp2_with fail
      exact fin_ hQ ⟨ret_i V.out.symm, K1.out.trans hK.out⟩
end
end Go.Proofs.YtkapldpmjkdmcaaGreat
