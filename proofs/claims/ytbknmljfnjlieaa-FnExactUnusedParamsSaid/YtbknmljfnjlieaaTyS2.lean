/- The reference's types of expressions: calls and closures. -/
import Derived.Test.YtbknmljfnjlieaaTyS1
import Derived.Test.YtbknmljfnjlieaaGB
import Derived.IntWalk
namespace Go.Proofs.Ytbknmljfnjlieaa
open Go.RowKit

theorem IntsL.take {w : World} {D : Nat → Prop} {a : Option Addr} {n : Nat} {xs : List Int} (h : IntsL w D a n xs) {m : Nat} (hm : m ≤ n) : IntsL w D a m (xs.take m) := by
  obtain ⟨h1, h2⟩ := h
  refine ⟨by simp; omega, fun h0 => ?_⟩
  obtain ⟨b, o, rfl, hd, hc⟩ := h2 (by omega)
  refine ⟨b, o, rfl, hd, fun i hi => ?_⟩
  rw [hc i (by omega)]
  simp [iAt, hi]
theorem simpleL_range {ds : List DeclL} {sg : List SigL} {op num : Int} {tys : List Int} (h : op = 9 ∨ op = 10) (hn : ¬ (0 ≤ num ∧ num < (sg.length : Int))) : simpleL ds sg op num tys = -1 := by
  rcases h with rfl | rfl <;> simp [simpleL] <;> intros <;> omega
theorem simpleL_call {ds : List DeclL} {sg : List SigL} {k : Nat} {tys : List Int} (hk : k < sg.length) : simpleL ds sg 9 (k : Int) tys = if tys = (sgAt sg k).params then (sgAt sg k).result else -1 := by
  rw [simpleL, if_neg (by omega), if_neg (by omega), if_neg (by omega), if_neg (by omega), if_neg (by omega), if_pos rfl]
  by_cases h : tys = (sgAt sg k).params
  · rw [if_pos ⟨by omega, by omega, by simpa using h⟩, if_pos h]; rfl
  · rw [if_neg (fun h' => h (by simpa using h'.2.2)), if_neg h]
theorem simpleL_close {ds : List DeclL} {sg : List SigL} {k : Nat} {tys : List Int} (hk : k < sg.length) : simpleL ds sg 10 (k : Int) tys = if 0 < (sgAt sg k).params.length ∧ tys = (sgAt sg k).params.take ((sgAt sg k).params.length - 1) then
    arrowL ds (iAt (sgAt sg k).params ((sgAt sg k).params.length - 1)) (sgAt sg k).result else -1 := by
  rw [simpleL, if_neg (by omega), if_neg (by omega), if_neg (by omega), if_neg (by omega), if_neg (by omega), if_neg (by omega), if_pos rfl]
  by_cases h : 0 < (sgAt sg k).params.length ∧ tys = (sgAt sg k).params.take ((sgAt sg k).params.length - 1)
  · rw [if_pos ⟨by omega, by omega, by simpa using h.1, by simpa using h.2⟩, if_pos h]; rfl
  · rw [if_neg (fun h' => h ⟨by simpa using h'.2.2.1, by simpa using h'.2.2.2⟩), if_neg h]

section
variable (ds : List DeclL) (fs : List FuncL)

set_option maxRecDepth 100000 in
set_option maxHeartbeats 4000000 in
theorem specCallType (op num : Int) (es : List ExprL) (hop : op = 9 ∨ op = 10) (IH0 : ∀ j, j < es.length → TyS ds fs (eAt es j)) (a0 : Option Addr) (n0 c0 : Nat) (a1 : Option Addr) (n1 c1 : Nat) (av : Option Addr) (nv cv : Nat) (vars : List Int) (a : Option Addr) (n c : Nat) (w : World)
    (hp : PR w ds fs a0 n0 c0 a1 n1 c1) (hv : Rd w (fun _ => True) (encInts vars) (.slice av nv cv)) (h : Rd w (fun _ => True) (encExprs es) (.slice a n c)) (hlen : vars.length + 4 * nEs es ≤ 1049576) (hall : allT ds.length vars = true) (hds : ds.length ≤ 4) (hfs : fs.length ≤ 4) :
    Calls Try.prog 93 #[.agg #[.slice a0 n0 c0, .slice a1 n1 c1], .slice av nv cv, .agg #[.int .i64 op, .int .i64 num, .slice a n c]] w fun r w' => r = .returned (.int .i64 (simpleL ds (fs.map sigF) op num (tyEs ds (fs.map sigF) vars es))) ∧ Keep w w' := by
  refine calls_k fun Q hQ => ?_
  have K0 := (Keep.al w (.cells #[.slice a0 n0 c0, .slice a1 n1 c1] 36)).trans (Keep.al _ (.cells #[.int .i64 op, .int .i64 num, .slice a n c] 41))
  have R0 := (rowOf w #[.slice a0 n0 c0, .slice a1 n1 c1] 36).alloc (.cells #[.int .i64 op, .int .i64 num, .slice a n c] 41)
  have R1 := rowOf (w.alloc (.cells #[.slice a0 n0 c0, .slice a1 n1 c1] 36)) #[.int .i64 op, .int .i64 num, .slice a n c] 41
  simp only [World.size_alloc] at R1
  obtain ⟨e1, hf1, hf2, hat⟩ := funcs_at hp.2
  have HL := Lib.hid e1
  have HA := Lib.hid hat
  have hn1 : n1 ≤ 4 := by omega
  have SL : Hid ((fs.map sigF).length = n1) := by show _ = _; rw [List.length_map]; exact e1
  clear e1 hat
  by_cases hr : 0 ≤ num ∧ num < (n1 : Int)
  case neg =>
    have V := Lib.hid (simpleL_range (ds := ds) (tys := tyEs ds (fs.map sigF) vars es) hop (by rw [SL.out]; exact hr))
    have hd : decide (0 ≤ num ∧ num ≤ (n1 : Int) - 1) = false := decide_eq_false (fun h => hr (by omega))
    clear hr
    go_enter Try.func93, Try.ntmps93
    go_wp2_with fail
    refine (specInRange _ _ _ _).mono ?_
    rw [hd]
    rintro e w1 ⟨rfl, rfl⟩
    go_wp2_with fail
    exact fin_ hQ ⟨ret_i V.out.symm, K0⟩
  obtain ⟨k, rfl⟩ : ∃ k : Nat, num = (k : Int) := ⟨num.toNat, by omega⟩
  have hk : k < n1 := by omega
  have hd : decide (0 ≤ (k : Int) ∧ (k : Int) ≤ (n1 : Int) - 1) = true := decide_eq_true (by omega)
  have HD := Lib.hid hd
  have HS : Hid (sgAt (fs.map sigF) k = sigF (fAt fs k)) := sgAt_sigF fs (by have := HL.out; omega)
  clear hr hd
  obtain ⟨b, o, rfl, _, ap, np, cp, ab, nb, cb, d0, d1, d2, d3, d4, r0, r4⟩ := HA.out k hk
  generalize hF : fAt fs k = f at d1 d2 d3 r0 r4 HS
  have HF := Lib.hid hF
  have g0 := (K0.cell (World.block_lt_of_cell? w _ d0) (fun h => h)).trans d0
  have g1 := (K0.cell (World.block_lt_of_cell? w _ d1) (fun h => h)).trans d1
  have g2 := (K0.cell (World.block_lt_of_cell? w _ d2) (fun h => h)).trans d2
  have g3 := (K0.cell (World.block_lt_of_cell? w _ d3) (fun h => h)).trans d3
  have g4 := (K0.cell (World.block_lt_of_cell? w _ d4) (fun h => h)).trans d4
  have hpl := (ints_at r0).1
  have HPL := Lib.hid hpl
  have K1 := K0.trans (Keep.al _ (.cells #[.slice ap np cp, .int .i64 f.result, .int .i64 f.body.op, .int .i64 f.body.num, .slice ab nb cb] 92))
  clear d0 d1 d2 d3 d4 hF hpl
  rcases hop with rfl | rfl
  · have V0 := Lib.hid (simpleL_call (ds := ds) (sg := fs.map sigF) (k := k) (tys := tyEs ds (fs.map sigF) vars es) (by rw [SL.out]; exact hk))
    have RF := rowOf ((w.alloc (.cells #[.slice a0 n0 c0, .slice (some ⟨b, o, none⟩) n1 c1] 36)).alloc (.cells #[.int .i64 9, .int .i64 (k : Int), .slice a n c] 41)) #[.slice ap np cp, .int .i64 f.result, .int .i64 f.body.op, .int .i64 f.body.num, .slice ab nb cb] 92
    simp only [World.size_alloc] at RF
    by_cases ht : tyEs ds (fs.map sigF) vars es = f.params
    · have V : Hid (simpleL ds (fs.map sigF) 9 (k : Int) (tyEs ds (fs.map sigF) vars es) = f.result) := by show _ = _; rw [V0.out, if_pos (by rw [HS.out]; exact ht), HS.out]; rfl
      have HT := Lib.hid (decide_eq_true ht)
      clear ht
      go_enter Try.func93, Try.ntmps93
      go_wp2_with fail
      refine (specInRange _ _ _ _).mono ?_
      rw [HD.out]
      rintro e w1 ⟨rfl, rfl⟩
      go_wp2_with fail
      refine (specAllOf ds fs es IH0 _ _ _ _ _ _ _ _ _ vars _ _ _ _ _ _ _ _ (hp.k K1) (hv.k K1) (h.k K1) (r0.k K1) hlen hall).mono ?_
      rw [HT.out]
      rintro e w2 ⟨rfl, p2⟩
      have y1 := (row_ext RF p2 (fun h => h)).cell (i := 1) (by simp)
      simp at y1
      go_wp2_with fail
      exact fin_ hQ ⟨ret_i V.out.symm, K1.trans p2⟩
    · have V : Hid (simpleL ds (fs.map sigF) 9 (k : Int) (tyEs ds (fs.map sigF) vars es) = -1) := by show _ = _; rw [V0.out, if_neg (by rw [HS.out]; exact ht)]
      have HT := Lib.hid (decide_eq_false ht)
      clear ht
      go_enter Try.func93, Try.ntmps93
      go_wp2_with fail
      refine (specInRange _ _ _ _).mono ?_
      rw [HD.out]
      rintro e w1 ⟨rfl, rfl⟩
      go_wp2_with fail
      refine (specAllOf ds fs es IH0 _ _ _ _ _ _ _ _ _ vars _ _ _ _ _ _ _ _ (hp.k K1) (hv.k K1) (h.k K1) (r0.k K1) hlen hall).mono ?_
      rw [HT.out]
      rintro e w2 ⟨rfl, p2⟩
      have y1 := (row_ext RF p2 (fun h => h)).cell (i := 1) (by simp)
      simp at y1
      go_wp2_with fail
      exact fin_ hQ ⟨ret_i V.out.symm, K1.trans p2⟩
  · have V0 := Lib.hid (simpleL_close (ds := ds) (sg := fs.map sigF) (k := k) (tys := tyEs ds (fs.map sigF) vars es) (by rw [SL.out]; exact hk))
    have RF := rowOf ((w.alloc (.cells #[.slice a0 n0 c0, .slice (some ⟨b, o, none⟩) n1 c1] 36)).alloc (.cells #[.int .i64 10, .int .i64 (k : Int), .slice a n c] 41)) #[.slice ap np cp, .int .i64 f.result, .int .i64 f.body.op, .int .i64 f.body.num, .slice ab nb cb] 92
    simp only [World.size_alloc] at RF
    rcases Nat.eq_zero_or_pos np with h0 | h0
    · subst h0
      have V : Hid (simpleL ds (fs.map sigF) 10 (k : Int) (tyEs ds (fs.map sigF) vars es) = -1) := by show _ = _; rw [V0.out, if_neg (by rw [HS.out]; intro h; have := HPL.out; have h1 : 0 < f.params.length := h.1; omega)]
      go_enter Try.func93, Try.ntmps93
      go_wp2_with fail
      refine (specInRange _ _ _ _).mono ?_
      rw [HD.out]
      rintro e w1 ⟨rfl, rfl⟩
      go_wp2_with fail
      go_quiet (fail)
      go_wp2_with fail
      exact fin_ hQ ⟨ret_i V.out.symm, by first | exact K1.drew | exact K1.drewN _⟩
    · obtain ⟨m, rfl⟩ : ∃ m, np = m + 1 := ⟨np - 1, by omega⟩
      have hb : (((m + 1 : Nat) : Int) == 0) = false := by simp; omega
      have MP : Hid (f.params.length = m + 1) := HPL.out
      obtain ⟨b2, o2, rfl, _, _⟩ := (ints_at r0).2.2.2 0 (by omega)
      have hcp : m + 1 ≤ cp := (ints_at r0).2.1
      have hnp : m + 1 ≤ 9223372036854775807 := (ints_at r0).2.2.1
      have x0 := (R0.alloc (.cells #[.slice (some ⟨b2, o2, none⟩) (m + 1) cp, .int .i64 f.result, .int .i64 f.body.op, .int .i64 f.body.num, .slice ab nb cb] 92)).cell (i := 0) (by simp)
      have x1 := (R0.alloc (.cells #[.slice (some ⟨b2, o2, none⟩) (m + 1) cp, .int .i64 f.result, .int .i64 f.body.op, .int .i64 f.body.num, .slice ab nb cb] 92)).cell (i := 1) (by simp)
      have y2 := (R1.alloc (.cells #[.slice (some ⟨b2, o2, none⟩) (m + 1) cp, .int .i64 f.result, .int .i64 f.body.op, .int .i64 f.body.num, .slice ab nb cb] 92)).cell (i := 2) (by simp)
      have z0 := RF.cell (i := 0) (by simp)
      have z1 := RF.cell (i := 1) (by simp)
      simp at x0 x1 y2 z0 z1
      have qp := hp.k K1
      have qv := hv.k K1
      have qe := h.k K1
      have qt := (((Rd.toInts r0).take (m := m) (by omega)).toRd (c := cp) (by have := (ints_at r0).2.1; omega) (by have := (ints_at r0).2.2.1; omega)).k K1
      by_cases ht : tyEs ds (fs.map sigF) vars es = f.params.take m
      · have V : Hid (simpleL ds (fs.map sigF) 10 (k : Int) (tyEs ds (fs.map sigF) vars es) = arrowL ds (iAt f.params m) f.result) := by
          show _ = _
          rw [V0.out, HS.out, if_pos ⟨by show 0 < f.params.length; rw [MP.out]; omega, by show _ = f.params.take (f.params.length - 1); rw [MP.out]; exact ht⟩]
          show arrowL ds (iAt f.params (f.params.length - 1)) f.result = _
          rw [MP.out]; rfl
        have HT := Lib.hid (decide_eq_true ht)
        clear ht
        go_enter Try.func93, Try.ntmps93
        go_wp2_with fail
        refine (specInRange _ _ _ _).mono ?_
        rw [HD.out]
        rintro e w1 ⟨rfl, rfl⟩
        go_wp2_with fail
        generalize hW : ((w.alloc (.cells #[.slice a0 n0 c0, .slice (some ⟨b, o, none⟩) n1 c1] 36)).alloc (.cells #[.int .i64 10, .int .i64 (k : Int), .slice a n c] 41)).alloc (.cells #[.slice (some ⟨b2, o2, none⟩) (m + 1) cp, .int .i64 f.result, .int .i64 f.body.op, .int .i64 f.body.num, .slice ab nb cb] 92) = W3 at *
        have qpd := qp.k (w' := W3.drew) (Ext.refl (fun _ => False) W3).drew
        have qvd := qv.k (w' := W3.drew) (Ext.refl (fun _ => False) W3).drew
        have qed := qe.k (w' := W3.drew) (Ext.refl (fun _ => False) W3).drew
        have qtd := qt.k (w' := W3.drew) (Ext.refl (fun _ => False) W3).drew
        have pc : Keep W3.drew W3.drew := Ext.refl _ _
        clear hW
        have hw8 : IntKind.i64.wrap (m : Int) = (m : Int) := by rw [IntWalk.i64_in _ (by omega)]
        have hw3 : (m : Int) ≤ (cp : Int) := by omega
        have hw4 : (0 : Int) ≤ (m : Int) := by omega
        go_region_held3 (fun w' => w'.cell? ⟨w.heap.size, 0, none⟩ = some (.slice a0 n0 c0) ∧ w'.cell? ⟨w.heap.size, 1, none⟩ = some (.slice (some ⟨b, o, none⟩) n1 c1) ∧ w'.cell? ⟨w.heap.size + 1, 2, none⟩ = some (.slice a n c) ∧ w'.cell? ⟨w.heap.size + 2, 0, none⟩ = some (.slice (some ⟨b2, o2, none⟩) (m + 1) cp))
          (first | exact ⟨Keep.at pc x0, Keep.at pc x1, Keep.at pc y2, Keep.at pc z0⟩ | go_keep)
          ((go_at_call 89; refine (specAllOf ds fs es IH0 _ _ _ _ _ _ _ _ _ vars _ _ _ _ _ _ _ _ (qpd.k pc) (qvd.k pc) (qed.k pc) (qtd.k pc) hlen hall).mono ?_; rw [HT.out]; rintro e w2 ⟨rfl, p2⟩; replace pc := pc.trans p2))
        have K2 := Lib.hid ((Ext.refl (fun _ => False) W3).drew.trans pc)
        have KE := Lib.hid (K1.trans K2.out)
        obtain ⟨b3, o3, e3, _, d3⟩ := (ints_at r0).2.2.2 m (by omega)
        injection e3 with e3
        injection e3 with e3 e4
        subst e3 e4
        have u0 := Keep.at pc x0
        have v0 := Keep.at pc z0
        have v1 := Keep.at pc z1
        have v2 := (KE.out.cell (World.block_lt_of_cell? _ _ d3) (fun h => h)).trans d3
        have qd := (((Rd.toDecls hp.1).ext KE.out (fun _ _ h => h)).ext (S := fun _ => False) (w' := w2.drew) (Ext.refl (fun _ => False) w2).drew (fun _ _ h => h))
        have hn0 : n0 ≤ 4 := by have := (decls_at hp.1).1; omega
        have hw9 : (m : Int) < (m : Int) + 1 := by omega
        clear qpd qvd qed qtd pc x0 x1 y2 z0 z1 d3 g0 g1 g2 g3 g4 hw3
        go_wp2_with fail
        go_region_held3 (fun w' => w'.cell? ⟨w.heap.size, 0, none⟩ = some (.slice a0 n0 c0) ∧ w'.cell? ⟨w.heap.size + 2, 0, none⟩ = some (.slice (some ⟨b2, o2, none⟩) (m + 1) cp) ∧ w'.cell? ⟨w.heap.size + 2, 1, none⟩ = some (.int .i64 f.result) ∧ w'.cell? ⟨b2, o2 + m, none⟩ = some (.int .i64 (iAt f.params m)))
          (first | exact ⟨u0, v0, v1, v2⟩ | go_keep)
          ((go_at_call 133; refine (specArrowOf0 _ _ _ ds _ _ _ _ qd (by omega)).mono ?_; rintro e w3 ⟨rfl, rfl⟩))
        go_wp2_with fail
        exact fin_ hQ ⟨ret_i V.out.symm, KE.out.drew⟩
      · have V : Hid (simpleL ds (fs.map sigF) 10 (k : Int) (tyEs ds (fs.map sigF) vars es) = -1) := by
          show _ = _
          rw [V0.out, HS.out, if_neg (fun h => ht (by have h1 : _ = f.params.take (f.params.length - 1) := h.2; rw [MP.out] at h1; exact h1))]
        have HT := Lib.hid (decide_eq_false ht)
        clear ht
        go_enter Try.func93, Try.ntmps93
        go_wp2_with fail
        refine (specInRange _ _ _ _).mono ?_
        rw [HD.out]
        rintro e w1 ⟨rfl, rfl⟩
        go_wp2_with fail
        generalize hW : ((w.alloc (.cells #[.slice a0 n0 c0, .slice (some ⟨b, o, none⟩) n1 c1] 36)).alloc (.cells #[.int .i64 10, .int .i64 (k : Int), .slice a n c] 41)).alloc (.cells #[.slice (some ⟨b2, o2, none⟩) (m + 1) cp, .int .i64 f.result, .int .i64 f.body.op, .int .i64 f.body.num, .slice ab nb cb] 92) = W3 at *
        have qpd := qp.k (w' := W3.drew) (Ext.refl (fun _ => False) W3).drew
        have qvd := qv.k (w' := W3.drew) (Ext.refl (fun _ => False) W3).drew
        have qed := qe.k (w' := W3.drew) (Ext.refl (fun _ => False) W3).drew
        have qtd := qt.k (w' := W3.drew) (Ext.refl (fun _ => False) W3).drew
        have pc : Keep W3.drew W3.drew := Ext.refl _ _
        clear hW
        have hw8 : IntKind.i64.wrap (m : Int) = (m : Int) := by rw [IntWalk.i64_in _ (by omega)]
        have hw3 : (m : Int) ≤ (cp : Int) := by omega
        have hw4 : (0 : Int) ≤ (m : Int) := by omega
        go_region_held3 (fun w' => w'.cell? ⟨w.heap.size, 0, none⟩ = some (.slice a0 n0 c0) ∧ w'.cell? ⟨w.heap.size, 1, none⟩ = some (.slice (some ⟨b, o, none⟩) n1 c1) ∧ w'.cell? ⟨w.heap.size + 1, 2, none⟩ = some (.slice a n c) ∧ w'.cell? ⟨w.heap.size + 2, 0, none⟩ = some (.slice (some ⟨b2, o2, none⟩) (m + 1) cp))
          (first | exact ⟨Keep.at pc x0, Keep.at pc x1, Keep.at pc y2, Keep.at pc z0⟩ | go_keep)
          ((go_at_call 89; refine (specAllOf ds fs es IH0 _ _ _ _ _ _ _ _ _ vars _ _ _ _ _ _ _ _ (qpd.k pc) (qvd.k pc) (qed.k pc) (qtd.k pc) hlen hall).mono ?_; rw [HT.out]; rintro e w2 ⟨rfl, p2⟩; replace pc := pc.trans p2))
        have KE := Lib.hid (K1.trans ((Ext.refl (fun _ => False) W3).drew.trans pc))
        go_wp2_with fail
        exact fin_ hQ ⟨ret_i V.out.symm, KE.out⟩
end
end Go.Proofs.Ytbknmljfnjlieaa
