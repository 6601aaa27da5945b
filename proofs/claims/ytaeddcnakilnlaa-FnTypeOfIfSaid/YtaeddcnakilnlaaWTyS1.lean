/- The reference's types of expressions: its helpers over all kids. -/
import Derived.Test.YtaeddcnakilnlaaMH
import Derived.Test.YtaeddcnakilnlaaMGA
import Derived.Test.YtaeddcnakilnlaaMGB
import Derived.Deep.RegionHeld3
namespace Go.Proofs.Ytaeddcnakilnlaa
open Go.RowKit

theorem ints_ext {xs ys : List Int} (h : xs.length = ys.length) (h2 : ∀ i, i < xs.length → iAt xs i = iAt ys i) : xs = ys := by
  apply List.ext_getElem h
  intro i h3 h4
  have := h2 i h3
  rwa [iAt_eq h3, iAt_eq h4] at this
theorem ints_ne {xs ys : List Int} (i : Nat) (h : iAt xs i ≠ iAt ys i) : xs ≠ ys := fun e => h (by rw [e])
theorem iAt_rep {m i : Nat} (h : i < m) : iAt (List.replicate m 0) i = 0 := by simp [iAt, List.getD, h]

/-- A program that can be read. -/
def PR (w : World) (ds : List DeclL) (fs : List FuncL) (a0 : Option Addr) (n0 c0 : Nat) (a1 : Option Addr) (n1 c1 : Nat) : Prop :=
  Rd w (fun _ => True) (encDecls ds) (.slice a0 n0 c0) ∧ Rd w (fun _ => True) (encFuncs fs) (.slice a1 n1 c1)
theorem PR.k {w w' : World} {ds : List DeclL} {fs : List FuncL} {a0 : Option Addr} {n0 c0 : Nat} {a1 : Option Addr} {n1 c1 : Nat} (h : PR w ds fs a0 n0 c0 a1 n1 c1) (k : Keep w w') : PR w' ds fs a0 n0 c0 a1 n1 c1 := ⟨h.1.k k, h.2.k k⟩
theorem Rd.t {w : World} {D : Nat → Prop} {d : Dat} {v : Value} (h : Rd w D d v) : Rd w (fun _ => True) d v := h.mono (fun _ _ => trivial)

/-- What typeOf of the reference does for one expression. -/
def TyS (ds : List DeclL) (fs : List FuncL) (e : ExprL) : Prop := ∀ (a0 : Option Addr) (n0 c0 : Nat) (a1 : Option Addr) (n1 c1 : Nat) (av : Option Addr) (nv cv : Nat) (vars : List Int) (a : Option Addr) (n c : Nat) (w : World),
  PR w ds fs a0 n0 c0 a1 n1 c1 → Rd w (fun _ => True) (encInts vars) (.slice av nv cv) → Rd w (fun _ => True) (encExprs e.kids) (.slice a n c) → vars.length + 4 * nE e ≤ 1049576 → allT ds.length vars = true →
  Calls Try.prog 77 #[.agg #[.slice a0 n0 c0, .slice a1 n1 c1], .slice av nv cv, .agg #[.int .i64 e.op, .int .i64 e.num, .slice a n c]] w fun r w' => r = .returned (.int .i64 (tyE ds (fs.map sigF) vars e)) ∧ Keep w w'

section
variable (ds : List DeclL) (fs : List FuncL)

set_option maxRecDepth 100000 in
set_option maxHeartbeats 4000000 in
theorem specAllOf (es : List ExprL) (IH0 : ∀ j, j < es.length → TyS ds fs (eAt es j)) (a0 : Option Addr) (n0 c0 : Nat) (a1 : Option Addr) (n1 c1 : Nat) (av : Option Addr) (nv cv : Nat) (vars : List Int) (a : Option Addr) (n c : Nat) (at_ : Option Addr) (nt ct : Nat) (ts : List Int) (w : World)
    (hp : PR w ds fs a0 n0 c0 a1 n1 c1) (hv : Rd w (fun _ => True) (encInts vars) (.slice av nv cv)) (h : Rd w (fun _ => True) (encExprs es) (.slice a n c)) (ht : Rd w (fun _ => True) (encInts ts) (.slice at_ nt ct)) (hlen : vars.length + 4 * nEs es ≤ 1049576) (hall : allT ds.length vars = true) :
    Calls Try.prog 125 #[.agg #[.slice a0 n0 c0, .slice a1 n1 c1], .slice av nv cv, .slice a n c, .slice at_ nt ct] w fun r w' => r = .returned (.bool (decide (tyEs ds (fs.map sigF) vars es = ts))) ∧ Keep w w' := by
  refine calls_k fun Q hQ => ?_
  have K0 := Keep.al w (.cells #[.slice a0 n0 c0, .slice a1 n1 c1] 50)
  have R0 := rowOf w #[.slice a0 n0 c0, .slice a1 n1 c1] 50
  have hp1 := hp.k K0
  have hv1 := hv.k K0
  obtain ⟨e1, hnc, hm, hat⟩ := exprs_at h
  obtain ⟨e2, htc, htm, htat⟩ := ints_at ht
  have HL := Lib.hid e1
  have HT := Lib.hid e2
  have HA := Lib.hid hat
  have HTA := Lib.hid htat
  have IH := Lib.hid IH0
  have HLen := Lib.hid hlen
  have HAll := Lib.hid hall
  have TL := Lib.hid (tyEs_len ds (fs.map sigF) vars es)
  have hnl : n ≤ 1049576 := by have := nEs_len es; omega
  clear e1 e2 hat htat h ht hp hv IH0 hlen hall
  by_cases hlt0 : n = nt
  case neg =>
    have V : Hid (decide (tyEs ds (fs.map sigF) vars es = ts) = false) := decide_eq_false (fun e => hlt0 (by have := congrArg List.length e; rw [TL.out] at this; have := HL.out; have := HT.out; omega))
    go_enter Try.func125, Try.ntmps125
    go_wp2_with fail
    exact fin_ hQ ⟨ret_b V.out.symm, K0⟩
  subst hlt0
  go_enter Try.func125, Try.ntmps125
  go_wp2_with fail
  go_loopw [9] (fun iv wr => ∃ j : Nat, j ≤ n ∧ iv = .int .i64 j ∧ Hid (∀ l, l < j → iAt (tyEs ds (fs.map sigF) vars es) l = iAt ts l) ∧ Hid (wr.rowIs w.heap.size 50 2 (fun i => (#[.slice a0 n0 c0, .slice a1 n1 c1] : Array Value).getD i undef)) ∧ Keep (w.alloc (.cells #[.slice a0 n0 c0, .slice a1 n1 c1] 50)) wr) (fun iv _ => n - (intOf iv).toNat)
  case atStart => exact ⟨0, Nat.zero_le _, rfl, fun l hl => absurd hl (by omega), R0, Ext.refl _ _⟩
  case round =>
    obtain ⟨j, hj, rfl, hI, hR, hK⟩ := hrel
    by_cases hlt : j < n
    · have HJ : Hid (j < es.length) := by have := HL.out; show _ < _; omega
      obtain ⟨b, o, rfl, hd, a2, n2, c2, d0, d1, d2, r2⟩ := HA.out j hlt
      obtain ⟨b', o', rfl, hd', d3⟩ := HTA.out j hlt
      have KW : Keep w wr := K0.trans hK
      have g0 := (KW.cell (World.block_lt_of_cell? w _ d0) (fun h => h)).trans d0
      have g1 := (KW.cell (World.block_lt_of_cell? w _ d1) (fun h => h)).trans d1
      have g2 := (KW.cell (World.block_lt_of_cell? w _ d2) (fun h => h)).trans d2
      have g3 := (KW.cell (World.block_lt_of_cell? w _ d3) (fun h => h)).trans d3
      have x0 := hR.out.cell (i := 0) (by simp)
      have x1 := hR.out.cell (i := 1) (by simp)
      simp at x0 x1
      have q2 := (r2.k KW).k (w' := wr.drew) (Ext.refl (fun _ => False) wr).drew
      have qp := (hp1.k hK).k (w' := wr.drew) (Ext.refl (fun _ => False) wr).drew
      have qv := (hv1.k hK).k (w' := wr.drew) (Ext.refl (fun _ => False) wr).drew
      have hb : vars.length + 4 * nE (eAt es j) ≤ 1049576 := by have := nE_le es HJ.out; have := HLen.out; omega
      have pc : Keep wr.drew wr.drew := Ext.refl _ _
      have HZ := Lib.hid (tyEs_at ds (fs.map sigF) vars HJ.out)
      generalize hz : tyE ds (fs.map sigF) vars (eAt es j) = z at HZ
      have HZ2 := Lib.hid hz
      generalize hu : iAt ts j = u at g3 d3
      have HU := Lib.hid hu
      clear d0 d1 d2 d3 r2 hz hu
      by_cases hzu : z = u
      · have hzu' : (z != u) = false := by simpa using hzu
        have HZU := Lib.hid hzu
        clear hzu
        go_wp2_with fail
        go_region_held3 (fun w' => w'.cell? ⟨w.heap.size, 0, none⟩ = some (.slice a0 n0 c0) ∧ w'.cell? ⟨w.heap.size, 1, none⟩ = some (.slice a1 n1 c1) ∧ w'.cell? ⟨b, o + j * 3, none⟩ = some (.int .i64 (eAt es j).op) ∧ w'.cell? ⟨b, o + j * 3 + 1, none⟩ = some (.int .i64 (eAt es j).num) ∧ w'.cell? ⟨b, o + j * 3 + 2, none⟩ = some (.slice a2 n2 c2) ∧ w'.cell? ⟨b', o' + j, none⟩ = some (.int .i64 u))
          (first | exact ⟨Keep.at pc x0, Keep.at pc x1, Keep.at pc g0, Keep.at pc g1, Keep.at pc g2, Keep.at pc g3⟩ | go_keep)
          ((go_at_call 77; refine (IH.out j HJ.out _ _ _ _ _ _ _ _ _ _ _ _ _ _ (qp.k pc) (qv.k pc) (q2.k pc) hb HAll.out).mono ?_; rw [HZ2.out]; rintro e w1 ⟨rfl, p1⟩; replace pc := pc.trans p1))
        have hI2 : Hid (∀ l, l < j + 1 → iAt (tyEs ds (fs.map sigF) vars es) l = iAt ts l) := by
          intro l hl
          rcases Nat.lt_succ_iff_lt_or_eq.1 hl with h | rfl
          · exact hI.out l h
          · rw [HZ.out, HZU.out]; exact HU.out.symm
        have hR2 := Lib.hid (row_ext hR.out ((Ext.refl _ wr).drew.trans pc) (fun h => h))
        have hK2 := hK.trans ((Ext.refl _ wr).drew.trans pc)
        clear pc qp qv q2 hI hR
        go_wp2_with fail
        go_roundw
        case rel => exact ⟨j + 1, by omega, by go_num, hI2, hR2, hK2⟩
        case measure => simp [intOf]; omega
      · have hzu' : (z != u) = true := by simpa using hzu
        have HZU := Lib.hid hzu
        clear hzu
        go_wp2_with fail
        go_region_held3 (fun w' => w'.cell? ⟨w.heap.size, 0, none⟩ = some (.slice a0 n0 c0) ∧ w'.cell? ⟨w.heap.size, 1, none⟩ = some (.slice a1 n1 c1) ∧ w'.cell? ⟨b, o + j * 3, none⟩ = some (.int .i64 (eAt es j).op) ∧ w'.cell? ⟨b, o + j * 3 + 1, none⟩ = some (.int .i64 (eAt es j).num) ∧ w'.cell? ⟨b, o + j * 3 + 2, none⟩ = some (.slice a2 n2 c2) ∧ w'.cell? ⟨b', o' + j, none⟩ = some (.int .i64 u))
          (first | exact ⟨Keep.at pc x0, Keep.at pc x1, Keep.at pc g0, Keep.at pc g1, Keep.at pc g2, Keep.at pc g3⟩ | go_keep)
          ((go_at_call 77; refine (IH.out j HJ.out _ _ _ _ _ _ _ _ _ _ _ _ _ _ (qp.k pc) (qv.k pc) (q2.k pc) hb HAll.out).mono ?_; rw [HZ2.out]; rintro e w1 ⟨rfl, p1⟩; replace pc := pc.trans p1))
        have V : Hid (decide (tyEs ds (fs.map sigF) vars es = ts) = false) := decide_eq_false (ints_ne j (by rw [HZ.out, HU.out]; exact HZU.out))
        have hK2 := KW.trans ((Ext.refl _ wr).drew.trans pc)
        go_wp2_with fail
        exact fin_ hQ ⟨ret_b V.out.symm, hK2⟩
    · have V : Hid (decide (tyEs ds (fs.map sigF) vars es = ts) = true) := decide_eq_true (ints_ext (by rw [TL.out]; have := HL.out; have := HT.out; omega) (fun l hl => hI.out l (by rw [TL.out] at hl; have := HL.out; omega)))
      go_wp2_with fail
      exact fin_ hQ ⟨ret_b V.out.symm, K0.trans hK⟩

set_option maxRecDepth 100000 in
set_option maxHeartbeats 4000000 in
theorem specAllInts (es : List ExprL) (IH0 : ∀ j, j < es.length → TyS ds fs (eAt es j)) (a0 : Option Addr) (n0 c0 : Nat) (a1 : Option Addr) (n1 c1 : Nat) (av : Option Addr) (nv cv : Nat) (vars : List Int) (a : Option Addr) (n c : Nat) (nt : Nat) (w : World)
    (hp : PR w ds fs a0 n0 c0 a1 n1 c1) (hv : Rd w (fun _ => True) (encInts vars) (.slice av nv cv)) (h : Rd w (fun _ => True) (encExprs es) (.slice a n c)) (hlen : vars.length + 4 * nEs es ≤ 1049576) (hall : allT ds.length vars = true) :
    Calls Try.prog 123 #[.agg #[.slice a0 n0 c0, .slice a1 n1 c1], .slice av nv cv, .slice a n c, .int .i64 nt] w fun r w' => r = .returned (.bool (decide (tyEs ds (fs.map sigF) vars es = List.replicate nt 0))) ∧ Keep w w' := by
  refine calls_k fun Q hQ => ?_
  have K0 := Keep.al w (.cells #[.slice a0 n0 c0, .slice a1 n1 c1] 50)
  have R0 := rowOf w #[.slice a0 n0 c0, .slice a1 n1 c1] 50
  have hp1 := hp.k K0
  have hv1 := hv.k K0
  obtain ⟨e1, hnc, hm, hat⟩ := exprs_at h
  have HL := Lib.hid e1
  have HA := Lib.hid hat
  have IH := Lib.hid IH0
  have HLen := Lib.hid hlen
  have HAll := Lib.hid hall
  have TL := Lib.hid (tyEs_len ds (fs.map sigF) vars es)
  have hnl : n ≤ 1049576 := by have := nEs_len es; omega
  clear e1 hat h hp hv IH0 hlen hall
  by_cases hlt0 : n = nt
  case neg =>
    have V : Hid (decide (tyEs ds (fs.map sigF) vars es = List.replicate nt 0) = false) := decide_eq_false (fun e => hlt0 (by have := congrArg List.length e; rw [TL.out, List.length_replicate] at this; have := HL.out; omega))
    go_enter Try.func123, Try.ntmps123
    go_wp2_with fail
    exact fin_ hQ ⟨ret_b V.out.symm, K0⟩
  subst hlt0
  go_enter Try.func123, Try.ntmps123
  go_wp2_with fail
  go_loopw [9] (fun iv wr => ∃ j : Nat, j ≤ n ∧ iv = .int .i64 j ∧ Hid (∀ l, l < j → iAt (tyEs ds (fs.map sigF) vars es) l = iAt (List.replicate n 0) l) ∧ Hid (wr.rowIs w.heap.size 50 2 (fun i => (#[.slice a0 n0 c0, .slice a1 n1 c1] : Array Value).getD i undef)) ∧ Keep (w.alloc (.cells #[.slice a0 n0 c0, .slice a1 n1 c1] 50)) wr) (fun iv _ => n - (intOf iv).toNat)
  case atStart => exact ⟨0, Nat.zero_le _, rfl, fun l hl => absurd hl (by omega), R0, Ext.refl _ _⟩
  case round =>
    obtain ⟨j, hj, rfl, hI, hR, hK⟩ := hrel
    by_cases hlt : j < n
    · have HJ : Hid (j < es.length) := by have := HL.out; show _ < _; omega
      obtain ⟨b, o, rfl, hd, a2, n2, c2, d0, d1, d2, r2⟩ := HA.out j hlt
      have KW : Keep w wr := K0.trans hK
      have g0 := (KW.cell (World.block_lt_of_cell? w _ d0) (fun h => h)).trans d0
      have g1 := (KW.cell (World.block_lt_of_cell? w _ d1) (fun h => h)).trans d1
      have g2 := (KW.cell (World.block_lt_of_cell? w _ d2) (fun h => h)).trans d2
      have x0 := hR.out.cell (i := 0) (by simp)
      have x1 := hR.out.cell (i := 1) (by simp)
      simp at x0 x1
      have q2 := (r2.k KW).k (w' := wr.drew) (Ext.refl (fun _ => False) wr).drew
      have qp := (hp1.k hK).k (w' := wr.drew) (Ext.refl (fun _ => False) wr).drew
      have qv := (hv1.k hK).k (w' := wr.drew) (Ext.refl (fun _ => False) wr).drew
      have hb : vars.length + 4 * nE (eAt es j) ≤ 1049576 := by have := nE_le es HJ.out; have := HLen.out; omega
      have pc : Keep wr.drew wr.drew := Ext.refl _ _
      have HZ := Lib.hid (tyEs_at ds (fs.map sigF) vars HJ.out)
      generalize hz : tyE ds (fs.map sigF) vars (eAt es j) = z at HZ
      have HZ2 := Lib.hid hz
      clear d0 d1 d2 r2 hz
      by_cases hzu : z = 0
      · have hzu' : (z != 0) = false := by simpa using hzu
        have HZU := Lib.hid hzu
        clear hzu
        go_wp2_with fail
        go_region_held3 (fun w' => w'.cell? ⟨w.heap.size, 0, none⟩ = some (.slice a0 n0 c0) ∧ w'.cell? ⟨w.heap.size, 1, none⟩ = some (.slice a1 n1 c1) ∧ w'.cell? ⟨b, o + j * 3, none⟩ = some (.int .i64 (eAt es j).op) ∧ w'.cell? ⟨b, o + j * 3 + 1, none⟩ = some (.int .i64 (eAt es j).num) ∧ w'.cell? ⟨b, o + j * 3 + 2, none⟩ = some (.slice a2 n2 c2))
          (first | exact ⟨Keep.at pc x0, Keep.at pc x1, Keep.at pc g0, Keep.at pc g1, Keep.at pc g2⟩ | go_keep)
          ((go_at_call 77; refine (IH.out j HJ.out _ _ _ _ _ _ _ _ _ _ _ _ _ _ (qp.k pc) (qv.k pc) (q2.k pc) hb HAll.out).mono ?_; rw [HZ2.out]; rintro e w1 ⟨rfl, p1⟩; replace pc := pc.trans p1))
        have hI2 : Hid (∀ l, l < j + 1 → iAt (tyEs ds (fs.map sigF) vars es) l = iAt (List.replicate n 0) l) := by
          intro l hl
          rcases Nat.lt_succ_iff_lt_or_eq.1 hl with h | rfl
          · exact hI.out l h
          · rw [HZ.out, HZU.out]; exact (iAt_rep (by omega)).symm
        have hR2 := Lib.hid (row_ext hR.out ((Ext.refl _ wr).drew.trans pc) (fun h => h))
        have hK2 := hK.trans ((Ext.refl _ wr).drew.trans pc)
        clear pc qp qv q2 hI hR
        go_wp2_with fail
        go_roundw
        case rel => exact ⟨j + 1, by omega, by go_num, hI2, hR2, hK2⟩
        case measure => simp [intOf]; omega
      · have hzu' : (z != 0) = true := by simpa using hzu
        have HZU := Lib.hid hzu
        clear hzu
        go_wp2_with fail
        go_region_held3 (fun w' => w'.cell? ⟨w.heap.size, 0, none⟩ = some (.slice a0 n0 c0) ∧ w'.cell? ⟨w.heap.size, 1, none⟩ = some (.slice a1 n1 c1) ∧ w'.cell? ⟨b, o + j * 3, none⟩ = some (.int .i64 (eAt es j).op) ∧ w'.cell? ⟨b, o + j * 3 + 1, none⟩ = some (.int .i64 (eAt es j).num) ∧ w'.cell? ⟨b, o + j * 3 + 2, none⟩ = some (.slice a2 n2 c2))
          (first | exact ⟨Keep.at pc x0, Keep.at pc x1, Keep.at pc g0, Keep.at pc g1, Keep.at pc g2⟩ | go_keep)
          ((go_at_call 77; refine (IH.out j HJ.out _ _ _ _ _ _ _ _ _ _ _ _ _ _ (qp.k pc) (qv.k pc) (q2.k pc) hb HAll.out).mono ?_; rw [HZ2.out]; rintro e w1 ⟨rfl, p1⟩; replace pc := pc.trans p1))
        have V : Hid (decide (tyEs ds (fs.map sigF) vars es = (List.replicate n 0)) = false) := decide_eq_false (ints_ne j (by rw [HZ.out, iAt_rep hlt]; exact HZU.out))
        have hK2 := KW.trans ((Ext.refl _ wr).drew.trans pc)
        go_wp2_with fail
        exact fin_ hQ ⟨ret_b V.out.symm, hK2⟩
    · have V : Hid (decide (tyEs ds (fs.map sigF) vars es = (List.replicate n 0)) = true) := decide_eq_true (ints_ext (by rw [TL.out]; have := HL.out; rw [List.length_replicate]; omega) (fun l hl => hI.out l (by rw [TL.out] at hl; have := HL.out; omega)))
      go_wp2_with fail
      exact fin_ hQ ⟨ret_b V.out.symm, K0.trans hK⟩
end
end Go.Proofs.Ytaeddcnakilnlaa
