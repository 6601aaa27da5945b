/- The generator of programs: downFrom. -/
import Derived.Test.YtkapldpmjkdmcaaGreatRAM
namespace Go.Proofs.YtkapldpmjkdmcaaGreat
open Go.RowKit

theorem lit_expr3 (w : World) (D : Nat → Prop) (T : TypeId) (x y z : ExprL) (a : Option Addr) (n c : Nat) (a' : Option Addr) (n' c' : Nat) (a'' : Option Addr) (n'' c'' : Nat) (hB : D w.heap.size) (h : Rd w D (encExprs x.kids) (.slice a n c)) (h' : Rd w D (encExprs y.kids) (.slice a' n' c')) (h'' : Rd w D (encExprs z.kids) (.slice a'' n'' c'')) :
    Rd (w.alloc (.cells #[.int .i64 x.op, .int .i64 x.num, .slice a n c, .int .i64 y.op, .int .i64 y.num, .slice a' n' c', .int .i64 z.op, .int .i64 z.num, .slice a'' n'' c''] T)) D (encExprs [x, y, z]) (.slice (some ⟨w.heap.size, 0, none⟩) 3 3) := by
  have e : encExprs [x, y, z] = .arr 3 ([x, y, z].map rowE) := by unfold encExprs; rw [rowsE_map]
  rw [e]
  refine Rd.litD w D T 3 _ ([x, y, z].map rowE) 3 hB (by simp) (by omega) (by omega) (by simp) (fun i hi => by
    have e : i = 0 ∨ i = 1 ∨ i = 2 := by simp at hi; omega
    rcases e with rfl | rfl | rfl <;> simp [rGet, rowE_eq]) (fun i j hi hj => ?_)
  have e : i = 0 ∨ i = 1 ∨ i = 2 := by simp at hi; omega
  have ej : j = 0 ∨ j = 1 ∨ j = 2 := by omega
  rcases e with rfl | rfl | rfl <;> rcases ej with rfl | rfl | rfl
  · exact ⟨_, rfl, by simp [rAt, rGet, rowE_eq, dGet]; exact .num _⟩
  · exact ⟨_, rfl, by simp [rAt, rGet, rowE_eq, dGet]; exact .num _⟩
  · exact ⟨_, rfl, by simp [rAt, rGet, rowE_eq, dGet]; exact h⟩
  · exact ⟨_, rfl, by simp [rAt, rGet, rowE_eq, dGet]; exact .num _⟩
  · exact ⟨_, rfl, by simp [rAt, rGet, rowE_eq, dGet]; exact .num _⟩
  · exact ⟨_, rfl, by simp [rAt, rGet, rowE_eq, dGet]; exact h'⟩
  · exact ⟨_, rfl, by simp [rAt, rGet, rowE_eq, dGet]; exact .num _⟩
  · exact ⟨_, rfl, by simp [rAt, rGet, rowE_eq, dGet]; exact .num _⟩
  · exact ⟨_, rfl, by simp [rAt, rGet, rowE_eq, dGet]; exact h''⟩
theorem at_set3 {w : World} {s : Nat} {v0 v1 v2 v : Value} {p : Addr} (h : w.cell? p = some v) (hp : p.block ≠ s) : (((w.setCell ⟨s, 0, none⟩ v0).setCell ⟨s, 1, none⟩ v1).setCell ⟨s, 2, none⟩ v2).cell? p = some v := by
  rw [(ext3 w s v0 v1 v2).cell (World.block_lt_of_cell? _ _ h) hp]; exact h
theorem pkG_0 : pkG 3 = 800 := rfl
theorem pkG_4 : pkG 4 = 1600 := rfl

set_option maxRecDepth 100000 in
set_option maxHeartbeats 8000000 in
theorem specDownFrom (ds : List DeclL) (fs : List FuncL) (B g k : Nat) (hG : GoodG ds fs) (hk : k < fs.length) (p : Int) (a0 : Option Addr) (n0 c0 : Nat) (a1 : Option Addr) (n1 c1 : Nat) (w : World) (hpg : PG w g ds fs a0 n0 c0 a1 n1 c1) (hr : Rdx w B g p) (hBw : B ≤ w.heap.size) (hp : p + 5000 ≤ 900000000000) :
    Calls Tryz.prog 220 #[.pointer (some ⟨g, 0, none⟩), .agg #[.slice a0 n0 c0, .slice a1 n1 c1], .int .i64 (k : Int)] w (GenP B g p 5000 1000 w) := by
  refine calls_k fun Q hQ => ?_
  have HG := Lib.hid hG
  have HP := Lib.hid hpg
  have BW := Lib.hid hBw
  have hgB := hr.gB
  have hgw : g < w.heap.size := by omega
  have K1 := (Keep.al w (.cells #[.slice a0 n0 c0, .slice a1 n1 c1] 44)).trans (Keep.al _ (.cells #[.int .i64 0, .int .i64 0, .slice none 0 0] 58))
  have B0 := Lib.hid (Bx.born w (.slice a0 n0 c0) (.slice a1 n1 c1))
  have hds := hG.len4
  have hfs := hG.len
  have hn0 : n0 ≤ 4 := by have := (decls_at hpg.d).1; omega
  have hn1 : n1 ≤ 4 := by have := (funcs_at hpg.f).1; omega
  have qr := Lib.hid (hr.keep K1)
  have X1 := Lib.hid (Keep.to (S := (· = g)) K1)
  have HPP := Lib.hid hp
  obtain ⟨b, o, rfl, ⟨hbg, hbw⟩, ap, np, cp, ab, nb, cb, g0, g1, _, _, _, rp, _⟩ := (funcs_at hpg.f.lt).2.2.2 k (by have := (funcs_at hpg.f).1; omega)
  have hk1 : k < n1 := by have := (funcs_at hpg.f).1; omega
  have G0 := Lib.hid g0
  have G1 := Lib.hid g1
  have RP := Lib.hid rp
  have SG := Lib.hid (hG.sig hk)
  have HPL := Lib.hid (ints_at rp).1
  have hnp3 : np ≤ 3 := by have := (hG.sig hk).1; have := (ints_at rp).1; omega
  have kk0 : (0 : Int) ≤ (k : Int) := by omega
  have kk1 : (k : Int) < (n1 : Int) := by omega
  have gg0 := at_al (o := .cells #[.int .i64 0, .int .i64 0, .slice none 0 0] 58) (at_al (o := .cells #[.slice a0 n0 c0, .slice (some ⟨b, o, none⟩) n1 c1] 44) g0)
  have hbne : ¬ b = w.heap.size := by omega
  have hbne1 : ¬ b = w.heap.size + 1 := by omega
  clear hG hpg hr hBw K1 g0 g1 rp hp
  go_enter Tryz.func220, Tryz.ntmps220
  go_wp2_with fail
  refine (specVariableG 0 _).mono ?_
  rintro e w1 ⟨a1v, c1v, rfl, k1⟩
  clear gg0
  go_wp2_with fail
  refine (specIntegerG 1 _).mono ?_
  rintro e w2 ⟨a2v, c2v, rfl, k2⟩
  go_wp2_with fail
  refine (specNodeG _ _ _ _ _ _).mono ?_
  rintro e w3 ⟨rfl, k3⟩
  have KK := Lib.hid (((k1.trans k2).trans (Keep.al _ (.cells #[.int .i64 12, .int .i64 0, .slice a1v 0 c1v, .int .i64 0, .int .i64 1, .slice a2v 0 c2v] 58))).trans k3)
  have b3 := Lib.hid (B0.out.k KK.out)
  have X3 := Lib.hid (X1.out.trans (Keep.to KK.out))
  have R3 := Lib.hid (qr.out.keep KK.out)
  have hw3 := b3.out.lt
  have hw2 : w.heap.size + 2 ≤ w2.heap.size := by have := (k1.trans k2).size; simp at this; omega
  have RS := Lib.hid ((lit_expr2 w2 (fun k => w.heap.size + 2 ≤ k) 58 (.mk 12 0 []) (.mk 0 1 []) a1v 0 c1v a2v 0 c2v hw2 (.nil 3 _ _) (.nil 3 _ _)).k k3)
  have A0 := Lib.hid (lit_exprA w3 (fun k => w.heap.size + 2 ≤ k) 58 2 0 [.mk 12 0 [], .mk 0 1 []] _ 2 2 RS.out)
  clear k1 k2 k3 KK B0 X1 qr RS
  go_wp2_with fail
  go_loopw [8, 9] (fun ov iv wr => ∃ (j : Nat) (es : List ExprL) (q : Int), 1 ≤ j ∧ (j ≤ np ∨ j = 1) ∧ iv = .int .i64 j ∧ Hid (AccR wr w3.heap.size (fun k => w.heap.size + 2 ≤ k) 58 3 ov (es.map rowE)) ∧ Hid (es.length = j) ∧ Hid (allEs (gfit 1000) es) ∧ Hid (Rdx wr B g q) ∧ Hid (q ≤ p + (j : Int) * 18) ∧ Hid (Ext (· = g) w3 wr)) (fun _ i _ => np - (intOf i).toNat)
  case atStart => exact ⟨1, [.mk 2 0 [.mk 12 0 [], .mk 0 1 []]], p, Nat.le_refl _, .inr rfl, rfl, A0, rfl, ⟨⟨⟨by omega, by omega⟩, ⟨⟨by omega, by omega⟩, trivial⟩, ⟨⟨by omega, by omega⟩, trivial⟩, trivial⟩, trivial⟩, R3.out.keep (Keep.al _ _), by show _ ≤ _; omega, Keep.to (Keep.al _ _)⟩
  case round =>
    clear A0 R3
    obtain ⟨j, es, q, hj1, hj, rfl, hA, hl, hes, hR, hq, hX⟩ := hrel
    have bw := Lib.hid (b3.out.ext hX.out hgw)
    have XW := Lib.hid (X3.out.trans hX.out)
    by_cases hlt : j < np
    · have y0 := bw.out.x0
      have y1 := bw.out.x1
      have hlt3 : (j : Int) < (np : Int) := by omega
      have hlt4 : (0 : Int) ≤ (j : Int) := by omega
      obtain ⟨b2', o2', rfl, ⟨hbp, hb2⟩, hcp⟩ := (ints_at RP.out).2.2.2 j hlt
      have d2 := XW.out.at hcp hbp
      have HT5 := Lib.hid (SG.out.2.2 (iAt (fAt fs k).params j) (by rw [iAt_get (by have := HPL.out; omega)]; exact List.getElem_mem _))
      have PD := Lib.hid (HP.out.ext XW.out.drew)
      have VD := Lib.hid ((RP.out.mono (D' := fun k => k ≠ g) (fun k h => h.1)).g XW.out.drew)
      have RD := Lib.hid (hR.out.keep (Ext.refl (fun _ => False) wr).drew)
      have hjq : Hid (q + 18 ≤ 900000000000) := by show _ ≤ _; have := hq.out; have := HPP.out; omega
      have BD : Hid (B ≤ wr.drew.heap.size) := by show B ≤ wr.heap.size; have := XW.out.size; have := BW.out; omega
      have HLR : Hid ((es.map rowE).length ≤ 3) := by show _ ≤ _; rw [List.length_map]; have := hl.out; omega
      have bnd := Lib.hid hA.out.bound
      have hs3 := hX.out.size
      clear hcp
      go_wp2_with fail
      go_region_held3 (fun w' => w'.cell? ⟨w.heap.size, 0, none⟩ = some (.slice a0 n0 c0) ∧ w'.cell? ⟨w.heap.size, 1, none⟩ = some (.slice (some ⟨b, o, none⟩) n1 c1) ∧ w'.cell? ⟨b2', o2' + j, none⟩ = some (.int .i64 (iAt (fAt fs k).params j)))
        (first | exact ⟨y0, y1, d2⟩ | exact ⟨kk10, kk11, kk12⟩ | exact ⟨z0, z1, z2⟩ | go_keep)
        (first
          | (go_at_call 230; refine (specLeaf ds fs B g HG.out (iAt (fAt fs k).params j) (fAt fs k).params _ _ _ q _ _ _ _ _ _ wr.drew HT5.out PD.out VD.out (by omega) RD.out BD.out hjq.out).mono ?_; rintro e v1 ⟨x, ax, nx, cx, q5, rfl, rx, fx, r5, hq5, xx1⟩; have XX1 := Lib.hid (((Ext.refl (· = g) wr).drew).trans xx1); have kk10 := XX1.out.at y0 (by show w.heap.size ≠ g; omega); have kk11 := XX1.out.at y1 (by show w.heap.size ≠ g; omega); have kk12 := XX1.out.at d2 hbp; have FX := Lib.hid fx; have R5 := Lib.hid r5; have HQ5 := Lib.hid hq5; have X5' := Lib.hid xx1; have hs5 : wr.heap.size ≤ v1.heap.size := (xx1).size; have A5 := Lib.hid ((hA.out.keep (Ext.refl (fun _ => False) wr).drew).ext xx1 (fun k hk h e => (by have h1 := h.elim id (fun h => (Nat.le_trans hw3 h)); omega))); have hXl := Lib.hid (lit_expr v1 (fun k => w.heap.size + 2 ≤ k ∧ u8.ownBlock ≠ some k) 58 x.op x.num x.kids ax nx cx ⟨(by omega), (fun e => by have := bnd.out _ e; omega)⟩ (rx.mono (fun k hk => ⟨(by change wr.heap.size ≤ k at hk; omega), (fun e => by have := bnd.out k e; change wr.heap.size ≤ k at hk; omega)⟩))); have A6 := Lib.hid (A5.out.keep (Keep.al v1 (.cells #[.int .i64 x.op, .int .i64 x.num, .slice ax nx cx] 58))); clear xx1 rx fx r5 hq5)
          | (refine step_appR rfl (.tmp 29) (.tmp 38) 56 rfl w3.heap.size 58 (.agg #[.int .i64 0, .int .i64 0, .slice none 0 0]) 3 40 Tryz.underlying56 (by kernel_rfl) rfl (by omega) (fun k => w.heap.size + 2 ≤ k) _ _ rfl A6.out _ 1 1 _ _ rfl hXl.out (fun k _ hk => hk) (by have := HLR.out; omega) (by have := HLR.out; omega) (by simp; omega) ?_; intro v7 w7 A7 xA sA; have z0 := at_app (at_al kk10) xA (by show w.heap.size < w3.heap.size; omega); have z1 := at_app (at_al kk11) xA (by show w.heap.size < w3.heap.size; omega); have z2 := at_app (at_al kk12) xA (by show b2' < w3.heap.size; omega))
          | fail)
      have XF := Lib.hid (((hX.out.drew.trans X5'.out).alloc (.cells #[.int .i64 x.op, .int .i64 x.num, .slice ax nx cx] 58)).then_ xA (fun i hi h => absurd h (by omega)))
      have A8 : Hid (AccR w7 w3.heap.size (fun k => w.heap.size + 2 ≤ k) 58 3 v7 ((es ++ [x]).map rowE)) := by have h := A7; rw [rows_snoc] at h; exact h
      have R8 := Lib.hid ((R5.out.keep (Keep.al v1 (.cells #[.int .i64 x.op, .int .i64 x.num, .slice ax nx cx] 58))).ext xA (fun k hk h => by have := BW.out; omega))
      clear z0 z1 z2 kk10 kk11 kk12 A7 y0 y1 d2
      go_wp2_with fail
      go_roundw
      case rel => exact ⟨j + 1, es ++ [x], q5, by omega, by omega, by go_num, A8, by show _ = _; rw [List.length_append, hl.out]; rfl, allEs_snoc hes.out FX.out, R8, by show _ ≤ _; have := hq.out; have := HQ5.out; rw [Int.natCast_add, Int.add_mul]; omega, XF⟩
      case measure => simp [intOf]; omega
    · obtain ⟨ak, ck, e, _, _, rd⟩ := hA.out.read (by omega)
      rw [List.length_map] at e
      subst e
      have RD1 : Hid (Rd wr (fun k => w.heap.size + 2 ≤ k) (encExprs es) (.slice ak es.length ck)) := by
        show Rd _ _ (.arr 3 (rowsE es)) _
        rw [rowsE_map]
        exact rd.mono (fun k hk => hk.elim id (fun h => Nat.le_trans hw3 h))
      have hj3 : j ≤ 3 := by omega
      clear rd hA
      go_wp2_with fail
      refine (specNodeG _ _ _ _ _ _).mono ?_
      rintro e w5 ⟨rfl, k5⟩
      have AL : Hid (Keep wr (w5.alloc (.cells #[.int .i64 9, .int .i64 (k : Int), .slice ak es.length ck] 58))) := k5.trans (Keep.al _ _)
      have hw5 : w.heap.size + 2 ≤ w5.heap.size := by have h1 := bw.out.lt; have h2 := k5.size; omega
      have EA : Hid (Ev (w5.alloc (.cells #[.int .i64 9, .int .i64 (k : Int), .slice ak es.length ck] 58)) w5.heap.size (fun k => w.heap.size + 2 ≤ k ∧ k ≠ w5.heap.size) (.mk 9 (k : Int) es) ak es.length ck) := Ev.born w5 (fun k => w.heap.size + 2 ≤ k ∧ k ≠ w5.heap.size) (.mk 9 (k : Int) es) ak es.length ck ((RD1.out.k k5).lt.mono (fun k hk => ⟨hk.1, by omega⟩))
      have bA := Lib.hid (bw.out.k AL.out)
      have XA := Lib.hid (XW.out.trans (Keep.to AL.out))
      have RA := Lib.hid (hR.out.keep AL.out)
      have FA : Hid (allE (gfit 1000) (.mk 9 (k : Int) es)) := ⟨⟨by omega, by omega⟩, hes.out⟩
      have HQA : Hid (q ≤ p + 60) := by show _ ≤ _; have := hq.out; omega
      have ga0 := XA.out.at G0.out hbg
      have ga1 := XA.out.at G1.out hbg
      clear RD1 k5 AL bw XW hR hes hq hX
      have hlw : w.heap.size + 2 ≤ w5.heap.size ∧ w5.heap.size ≠ g := ⟨hw5, by omega⟩
      go_upto_region 8 with fail
      generalize hW : w5.alloc (.cells #[.int .i64 9, .int .i64 (k : Int), .slice ak es.length ck] 58) = wq at *
      clear hW
      generalize hS : w5.heap.size = sA at *
      clear hS hw5
      have x1 := bA.out.x1
      go_upto_if 49 with fail
      go_cut [] (fun wx => ∃ (y : ExprL) (ay : Option Addr) (ny cy : Nat) (q' : Int), Hid (Ev wx sA (fun k => w.heap.size + 2 ≤ k ∧ k ≠ sA) y ay ny cy) ∧ Hid (allE (gfit 1000) y) ∧ Hid (Rdx wx B g q') ∧ Hid (q' ≤ p + 1000) ∧ Hid (Bx wx w.heap.size (.slice a0 n0 c0) (.slice (some ⟨b, o, none⟩) n1 c1)) ∧ Hid (Ext (· = g) w wx))
      case first =>
        by_cases hres : (fAt fs k).result = 1
        case neg =>
          have hres2 : ((fAt fs k).result == 1) = false := by simpa using hres
          clear hres
          go_wp2_with fail
          go_meet
          case rel => exact ⟨_, _, _, _, q, EA, FA, RA, (by show _ ≤ _; have := HQA.out; omega), bA, XA⟩
        have hres2 : ((fAt fs k).result == 1) = true := by simpa using hres
        have HR1 := Lib.hid hres
        clear hres
        have y0 := bA.out.x0
        have e0 := EA.out.v0
        have e1 := EA.out.v1
        have e2 := EA.out.v2
        have CG : Hid (Calls Tryz.prog 228 #[.pointer (some ⟨g, 0, none⟩), .agg #[.slice a0 n0 c0, .slice (some ⟨b, o, none⟩) n1 c1], .slice ap np cp, .int .i64 0, .int .i64 3] wq.drew (GenP B g q (pkG 3) 1000 wq.drew)) := (specGen ds fs B g HG.out 3 0 (fAt fs k).params ap np cp q _ _ _ _ _ _ wq.drew ⟨by omega, by omega⟩ (HP.out.ext XA.out.drew) ((RP.out.mono (D' := fun k => k ≠ g) (fun k h => h.1)).g XA.out.drew) (by omega) (RA.out.keep (Ext.refl (fun _ => False) wq).drew) (Nat.le_trans BW.out XA.out.drew.size) (by have h1 := HPP.out; have h2 := HQA.out; have h3 := pkG_0; omega))
        go_wp2_with fail
        go_region_with (first
          | (go_at_call 228; (with_reducible refine CG.out.mono ?_); rintro e w6 ⟨x, ax, nx, cx, q6, rfl, rx, fx, r6, hq6, x6⟩; have E6 := Lib.hid ((EA.out.keep (Ext.refl (fun _ => False) wq).drew).ext x6 (by omega) (fun k hk => by omega)); have e0 := E6.out.v0; have e1 := E6.out.v1; have e2 := E6.out.v2; have FX := Lib.hid fx; have R6 := Lib.hid r6; have HQ6 := Lib.hid hq6; have XX6 := Lib.hid (XA.out.drew.trans x6); have B6 := Lib.hid ((bA.out.k (Ext.refl (fun _ => False) wq).drew).ext x6 hgw); have hs6 : wq.heap.size ≤ w6.heap.size := x6.size; have hsA := EA.out.lt; have RX := Lib.hid (rx.mono (D' := fun k => w.heap.size + 2 ≤ k ∧ k ≠ sA) (fun k hk => (by change wq.heap.size ≤ k at hk; omega))); have RL := Lib.hid (lit_expr2 w6 (fun k => w.heap.size + 2 ≤ k ∧ k ≠ sA) 58 x (.mk 9 (k : Int) es) ax nx cx ak es.length ck (by omega) RX.out E6.out.k); clear rx fx r6 hq6 x6)
          | (go_at_call 212; refine (specNodeG _ _ _ _ _ _).mono ?_; rintro e w7 ⟨rfl, k7⟩; have K7 := Lib.hid ((Keep.al w6 (.cells #[.int .i64 x.op, .int .i64 x.num, .slice ax nx cx, .int .i64 9, .int .i64 (k : Int), .slice ak es.length ck] 58)).trans k7); have RL7 := Lib.hid (RL.out.k k7); have E7 := Lib.hid (E6.out.keep K7.out); have u0 := E7.out.v0; have u1 := E7.out.v1; have u2 := E7.out.v2; have f0 := E7.out.g0; have f1 := E7.out.g1; have f2 := E7.out.g2; clear k7)
          | fail)
        all_goals
          have Y := Lib.hid (ext3 w7 sA (.int .i64 6) (.int .i64 1) (.slice (some ⟨w6.heap.size, 0, none⟩) 2 2))
          have E8 := Lib.hid (E7.out.store (y := .mk 6 1 [x, .mk 9 (k : Int) es]) (D' := fun k => w.heap.size + 2 ≤ k ∧ k ≠ sA) RL7.out (fun k hk => hk.2))
          have B8 := Lib.hid ((B6.out.k K7.out).extS Y.out (by omega) (by omega))
          have X8 := Lib.hid ((XX6.out.trans (Keep.to K7.out)).then_ Y.out (fun i hi h => by omega))
          have R8 := Lib.hid ((R6.out.keep K7.out).ext Y.out (fun k hk h => by have := BW.out; omega))
          have F8 : Hid (allE (gfit 1000) (.mk 6 1 [x, .mk 9 (k : Int) es])) := ⟨⟨by omega, by omega⟩, FX.out, FA.out, trivial⟩
          clear e0 e1 e2 y0 x1 u0 u1 u2 f0 f1 f2
          go_wp2_with fail
          go_meet
          case rel => exact ⟨_, _, _, _, q6, E8, F8, R8, (by show _ ≤ _; have h1 := HQ6.out; have h2 := HQA.out; have h3 := pkG_0; omega), B8, X8⟩
      case rest =>
      clear EA FA RA bA XA HQA x1 ga0 ga1
      obtain ⟨y, ay, ny, cy, q', EA, FA, RA, HQA, bA, XA⟩ := hcut
      go_wp2_with fail
      refine (specIntegerG 0 _).mono ?_
      rintro e w6 ⟨a6, c6, rfl, k6⟩
      go_wp2_with fail
      refine (specVariableG 0 _).mono ?_
      rintro e w7 ⟨a7, c7, rfl, k7⟩
      go_wp2_with fail
      refine (specNodeG _ _ _ _ _ _).mono ?_
      rintro e w8 ⟨rfl, k8⟩
      have KT := Lib.hid ((k6.trans k7).trans ((Keep.al _ (.cells #[.int .i64 0, .int .i64 0, .slice a6 0 c6, .int .i64 12, .int .i64 0, .slice a7 0 c7] 58)).trans k8))
      have hsAl := EA.out.lt
      have hs67 : wc.heap.size ≤ w7.heap.size := (k6.trans k7).size
      have hs78 : w7.heap.size + 1 ≤ w8.heap.size := by have := k8.size; simp at this; omega
      have hb2 := bA.out.lt
      have RT := Lib.hid ((lit_expr2 w7 (fun k => w.heap.size + 2 ≤ k ∧ k ≠ sA) 58 (.mk 0 0 []) (.mk 12 0 []) a6 0 c6 a7 0 c7 (by omega) (.nil 3 _ _) (.nil 3 _ _)).k k8)
      have ET : Hid (Ev (w8.alloc (.cells #[.int .i64 4, .int .i64 0, .slice (some ⟨w7.heap.size, 0, none⟩) 2 2] 58)) w8.heap.size (fun k => w.heap.size + 2 ≤ k ∧ k ≠ sA) (.mk 4 0 [.mk 0 0 [], .mk 12 0 []]) (some ⟨w7.heap.size, 0, none⟩) 2 2) := Ev.born w8 _ (.mk 4 0 [.mk 0 0 [], .mk 12 0 []]) _ 2 2 RT.out
      have KU : Hid (Keep wc (w8.alloc (.cells #[.int .i64 4, .int .i64 0, .slice (some ⟨w7.heap.size, 0, none⟩) 2 2] 58))) := KT.out.trans (Keep.al _ _)
      have EB := Lib.hid (EA.out.keep KU.out)
      have bB := Lib.hid (bA.out.k KU.out)
      have XB := Lib.hid (XA.out.trans (Keep.to KU.out))
      have RB := Lib.hid (RA.out.keep KU.out)
      have hsT : w8.heap.size ≠ g ∧ w.heap.size + 2 ≤ w8.heap.size := ⟨by omega, by omega⟩
      clear k6 k7 k8 RT KT KU hs67 hs78 hsAl
      go_upto_region 11 with fail
      generalize hW : w8.alloc (.cells #[.int .i64 4, .int .i64 0, .slice (some ⟨w7.heap.size, 0, none⟩) 2 2] 58) = wq at *
      clear hW
      generalize hS : w8.heap.size = sT at *
      clear hS
      have y0 := bB.out.x0
      have y1 := bB.out.x1
      have t0 := ET.out.v0
      have t1 := ET.out.v1
      have t2 := ET.out.v2
      have e0 := EB.out.v0
      have e1 := EB.out.v1
      have e2 := EB.out.v2
      have gg1 := XB.out.at G1.out hbg
      have hsTne : ¬ sT = w.heap.size + 1 := by omega
      have hsTne2 : ¬ w.heap.size + 1 = sT := by omega
      have hsAne : ¬ sA = w.heap.size + 1 := by omega
      have hsAne2 : ¬ w.heap.size + 1 = sA := by omega
      have hbn1 : ¬ w.heap.size + 1 = b := by omega
      have CG : Hid (Calls Tryz.prog 228 #[.pointer (some ⟨g, 0, none⟩), .agg #[.slice a0 n0 c0, .slice (some ⟨b, o, none⟩) n1 c1], .slice ap np cp, .int .i64 (fAt fs k).result, .int .i64 4] wq.drew (GenP B g q' (pkG 4) 1000 wq.drew)) := (specGen ds fs B g HG.out 4 (fAt fs k).result (fAt fs k).params ap np cp q' _ _ _ _ _ _ wq.drew SG.out.2.1 (HP.out.ext XB.out.drew) ((RP.out.mono (D' := fun k => k ≠ g) (fun k h => h.1)).g XB.out.drew) (by omega) (RB.out.keep (Ext.refl (fun _ => False) wq).drew) (Nat.le_trans BW.out XB.out.drew.size) (by have h1 := HPP.out; have h2 := HQA.out; have h3 := pkG_4; omega))
      clear EA bA XA RA
      go_region_held3 (fun w' => w'.cell? ⟨w.heap.size, 0, none⟩ = some (.slice a0 n0 c0) ∧ w'.cell? ⟨w.heap.size, 1, none⟩ = some (.slice (some ⟨b, o, none⟩) n1 c1) ∧ w'.cell? ⟨sT, 0, none⟩ = some (.int .i64 4) ∧ w'.cell? ⟨sT, 1, none⟩ = some (.int .i64 0) ∧ w'.cell? ⟨sT, 2, none⟩ = some (.slice (some ⟨w7.heap.size, 0, none⟩) 2 2) ∧ w'.cell? ⟨sA, 0, none⟩ = some (.int .i64 y.op) ∧ w'.cell? ⟨sA, 1, none⟩ = some (.int .i64 y.num) ∧ w'.cell? ⟨sA, 2, none⟩ = some (.slice ay ny cy) ∧ w'.cell? ⟨b, o + k * 5 + 1, none⟩ = some (.int .i64 (fAt fs k).result))
        (first | exact ⟨y0, y1, t0, t1, t2, e0, e1, e2, gg1⟩ | exact ⟨kk10, kk11, kk12, kk13, kk14, kk15, kk16, kk17, kk18⟩ | exact ⟨at_al kk10, at_al kk11, at_al kk12, at_al kk13, at_al kk14, at_al kk15, at_al kk16, at_al kk17, at_al kk18⟩ | exact ⟨kk20, kk21, kk22, kk23, kk24, kk25, kk26, kk27, kk28⟩ | exact ⟨at_set3 kk20 (by show w.heap.size ≠ w.heap.size + 1; omega), at_set3 kk21 (by show w.heap.size ≠ w.heap.size + 1; omega), at_set3 kk22 hsTne, at_set3 kk23 hsTne, at_set3 kk24 hsTne, at_set3 kk25 hsAne, at_set3 kk26 hsAne, at_set3 kk27 hsAne, at_set3 kk28 hbne1⟩ | go_keep)
        (first
          | (go_at_call 228; (with_reducible refine CG.out.mono ?_); rintro e v1 ⟨x, ax, nx, cx, q9, rfl, rx, fx, r6, hq6, xx1⟩; have XX1 := Lib.hid (((Ext.refl (· = g) wq).drew).trans xx1); have kk10 := XX1.out.at y0 (by show w.heap.size ≠ g; omega); have kk11 := XX1.out.at y1 (by show w.heap.size ≠ g; omega); have kk12 := XX1.out.at t0 hsT.1; have kk13 := XX1.out.at t1 hsT.1; have kk14 := XX1.out.at t2 hsT.1; have kk15 := XX1.out.at e0 hlw.2; have kk16 := XX1.out.at e1 hlw.2; have kk17 := XX1.out.at e2 hlw.2; have kk18 := XX1.out.at gg1 hbg; have FX := Lib.hid fx; have R6 := Lib.hid r6; have HQ6 := Lib.hid hq6; have hs6 : wq.heap.size ≤ v1.heap.size := (xx1).size; have hb3 := bB.out.lt; have RL := Lib.hid (lit_expr3 v1 (fun k => w.heap.size + 2 ≤ k) 58 (.mk 4 0 [.mk 0 0 [], .mk 12 0 []]) y x (some ⟨w7.heap.size, 0, none⟩) 2 2 ay ny cy ax nx cx (by omega) ((ET.out.k.k (Ext.refl (fun _ => False) wq).drew).ext xx1 (fun k hk => (by omega)) |>.mono (fun k hk => hk.1)) ((EB.out.k.k (Ext.refl (fun _ => False) wq).drew).ext xx1 (fun k hk => (by omega)) |>.mono (fun k hk => hk.1)) (rx.mono (fun k hk => (by change wq.heap.size ≤ k at hk; omega)))); have B6 := Lib.hid (bB.out.ext XX1.out hgw); clear xx1 rx fx r6 hq6)
          | (go_at_call 212; refine (specNodeG _ _ _ _ _ _).mono ?_; rintro e v2 ⟨rfl, xx2⟩; have XX2 := Lib.hid (((XX1.out).alloc (.cells #[.int .i64 4, .int .i64 0, .slice (some ⟨w7.heap.size, 0, none⟩) 2 2, .int .i64 y.op, .int .i64 y.num, .slice ay ny cy, .int .i64 x.op, .int .i64 x.num, .slice ax nx cx] 58)).trans (Keep.to xx2)); have kk20 := XX2.out.at y0 (by show w.heap.size ≠ g; omega); have kk21 := XX2.out.at y1 (by show w.heap.size ≠ g; omega); have kk22 := XX2.out.at t0 hsT.1; have kk23 := XX2.out.at t1 hsT.1; have kk24 := XX2.out.at t2 hsT.1; have kk25 := XX2.out.at e0 hlw.2; have kk26 := XX2.out.at e1 hlw.2; have kk27 := XX2.out.at e2 hlw.2; have kk28 := XX2.out.at gg1 hbg; have K9 := Lib.hid ((Keep.al v1 (.cells #[.int .i64 4, .int .i64 0, .slice (some ⟨w7.heap.size, 0, none⟩) 2 2, .int .i64 y.op, .int .i64 y.num, .slice ay ny cy, .int .i64 x.op, .int .i64 x.num, .slice ax nx cx] 58)).trans xx2); have RD9 := Lib.hid (RL.out.k xx2); have R9 := Lib.hid (R6.out.keep K9.out); have u0 := (B6.out.k K9.out).u0; have u1 := (B6.out.k K9.out).u1; have u2 := (B6.out.k K9.out).u2; have f0 := (B6.out.k K9.out).f0; have f1 := (B6.out.k K9.out).f1; have f2 := (B6.out.k K9.out).f2; clear xx2)
          | fail)
      have X9 := Lib.hid (XB.out.trans XX2.out)
      have HFI : Hid (gfit 1000 7 0) := ⟨by omega, by omega⟩
      have HFS : Hid (allEs (gfit 1000) [.mk 4 0 [.mk 0 0 [], .mk 12 0 []], y, x]) := ⟨⟨⟨by omega, by omega⟩, ⟨⟨by omega, by omega⟩, trivial⟩, ⟨⟨by omega, by omega⟩, trivial⟩, trivial⟩, FA.out, FX.out, trivial⟩
      have HQ9 : Hid (q9 ≤ p + 5000) := by show _ ≤ _; have h1 := HQ6.out; have h2 := HQA.out; have h3 := pkG_4; omega
      clear y0 y1 t0 t1 t2 e0 e1 e2 gg1
      go_wp2_with fail
      refine bodyPost_ret (v := .agg #[.int .i64 7, .int .i64 0, .slice (some ⟨v1.heap.size, 0, none⟩) 3 3]) (by simp [results, Tryz.results220, go_sem, u0, u1, u2]) rfl (fin_ hQ ?_)
      exact gen_fin (ks := [.mk 4 0 [.mk 0 0 [], .mk 12 0 []], y, x]) X9.out R9.out BW.out RD9.out HFI.out HFS.out HQ9.out
end Go.Proofs.YtkapldpmjkdmcaaGreat
/- The generator of programs: literal. -/
namespace Go.Proofs.YtkapldpmjkdmcaaGreat
open Go.RowKit

/-- What is behind the last store, into the box s. -/
theorem gen_finS {B g s : Nat} {p q N K op num : Int} {w wz : World} {ks : List ExprL} {a : Option Addr} {n c : Nat} (X : Ext (· = g) w wz) (hr : Rdx wz B g q) (hB : B ≤ w.heap.size) (hs : w.heap.size ≤ s) (rd : Rd wz (fun k => w.heap.size ≤ k ∧ k ≠ s) (encExprs ks) (.slice a n c))
    (hf : gfit K op num) (hfs : allEs (gfit K) ks) (hq : q ≤ p + N) :
    GenP B g p N K w (.returned (.agg #[.int .i64 op, .int .i64 num, .slice a n c])) (((wz.setCell ⟨s, 0, none⟩ (.int .i64 op)).setCell ⟨s, 1, none⟩ (.int .i64 num)).setCell ⟨s, 2, none⟩ (.slice a n c)) := by
  have hg := hr.gB
  have Y := ext3 wz s (.int .i64 op) (.int .i64 num) (.slice a n c)
  refine ⟨.mk op num ks, a, n, c, q, rfl, ?_, ⟨hf, hfs⟩, hr.ext Y (fun k hk h => by omega), hq, X.then_ Y (fun k hk h => by omega)⟩
  exact (rd.ext Y (fun k hk h => hk.2 h)).mono (fun k hk => hk.1)
theorem Rdx.al {w : World} {B g : Nat} {p : Int} {o : Obj} (h : Rdx w B g p) : Rdx (w.alloc o) B g p := h.keep (Keep.al w o)
theorem Rdx.dr {w : World} {B g : Nat} {p : Int} (h : Rdx w B g p) : Rdx w.drew B g p := h.keep (Ext.refl (fun _ => False) w).drew

/-- What is behind the first node of a literal tree. -/
def LitB (B g : Nat) (p : Int) (w : World) (sO bO : Nat) (s7 : Value) (wx : World) : Prop := ∃ (sB : Nat) (v : Int) (ab : Option Addr) (nb cb : Nat), s7 = .pointer (some ⟨sB, 0, none⟩) ∧ Hid (0 ≤ v ∧ v < 9) ∧ Hid (w.heap.size < sB ∧ sB ≠ sO) ∧ Hid (Ev wx sB (fun k => w.heap.size ≤ k ∧ k ≠ w.heap.size) (.mk 6 3 [.mk 6 2 [], .mk 0 v [], .mk 6 2 []]) ab nb cb) ∧ Hid (Ev wx sO (fun _ => False) (.mk 6 2 []) (some ⟨bO, 0, none⟩) 0 0) ∧ Hid (Ev wx w.heap.size (fun _ => False) (.mk 0 0 []) none 0 0) ∧ Hid (Rdx wx B g (p + 1)) ∧ Hid (Ext (· = g) w wx)
theorem LitB.store {B g : Nat} {p v : Int} {w w3 : World} {sO bO sB u : Nat} {x : ExprL} {a0 : Option Addr} {n0 c0 : Nat} (hv : 0 ≤ v ∧ v < 9) (X : Ext (· = g) w w3) (R : Rdx w3 B g (p + 1)) (EO : Ev w3 sO (fun _ => False) (.mk 6 2 []) (some ⟨bO, 0, none⟩) 0 0) (EZ : Ev w3 w.heap.size (fun _ => False) (.mk 0 0 []) none 0 0) (EB : Ev w3 sB (fun _ => False) x a0 n0 c0)
    (RL : Rd w3 (fun k => k = u) (encExprs [.mk 6 2 [], .mk 0 v [], .mk 6 2 []]) (.slice (some ⟨u, 0, none⟩) 3 3)) (h1 : u ≠ sB) (h2 : w.heap.size < u) (h3 : w.heap.size < sB) (h4 : sB ≠ sO) (h5 : sO ≠ sB) (h6 : w.heap.size ≠ sB) (h7 : B ≤ w.heap.size) :
    LitB B g p w sO bO (.pointer (some ⟨sB, 0, none⟩)) (((w3.setCell ⟨sB, 0, none⟩ (.int .i64 6)).setCell ⟨sB, 1, none⟩ (.int .i64 3)).setCell ⟨sB, 2, none⟩ (.slice (some ⟨u, 0, none⟩) 3 3)) := by
  have hg := R.gB
  have Y := ext3 w3 sB (.int .i64 6) (.int .i64 3) (.slice (some ⟨u, 0, none⟩) 3 3)
  exact ⟨sB, v, some ⟨u, 0, none⟩, 3, 3, rfl, hv, ⟨h3, h4⟩, (EB.store (y := .mk 6 3 [.mk 6 2 [], .mk 0 v [], .mk 6 2 []]) RL (fun k hk => by omega)).mono (fun k hk => ⟨by omega, by omega⟩), EO.ext Y h5 (fun k hk => hk.elim), EZ.ext Y h6 (fun k hk => hk.elim), R.ext Y (fun k hk h => by omega), X.then_ Y (fun i hi h => by omega)⟩
theorem LitB.born {B g : Nat} {p v : Int} {w w3 : World} {sO bO u : Nat} (hv : 0 ≤ v ∧ v < 9) (X : Ext (· = g) w w3) (R : Rdx w3 B g (p + 1)) (EO : Ev w3 sO (fun _ => False) (.mk 6 2 []) (some ⟨bO, 0, none⟩) 0 0) (EZ : Ev w3 w.heap.size (fun _ => False) (.mk 0 0 []) none 0 0)
    (RL : Rd w3 (fun k => k = u) (encExprs [.mk 6 2 [], .mk 0 v [], .mk 6 2 []]) (.slice (some ⟨u, 0, none⟩) 3 3)) (h2 : w.heap.size < u) (h3 : w.heap.size < w3.heap.size) (h4 : w3.heap.size ≠ sO) :
    LitB B g p w sO bO (.pointer (some ⟨w3.heap.size, 0, none⟩)) (w3.alloc (.cells #[.int .i64 6, .int .i64 3, .slice (some ⟨u, 0, none⟩) 3 3] 58)) :=
  ⟨w3.heap.size, v, some ⟨u, 0, none⟩, 3, 3, rfl, hv, ⟨h3, h4⟩, (Ev.born w3 _ (.mk 6 3 [.mk 6 2 [], .mk 0 v [], .mk 6 2 []]) _ 3 3 RL).mono (fun k hk => ⟨by omega, by omega⟩), EO.keep (Keep.al _ _), EZ.keep (Keep.al _ _), R.al, X.trans (Keep.to (Keep.al _ _))⟩

set_option maxRecDepth 100000 in
set_option maxHeartbeats 4000000 in
theorem specLiteral (B g : Nat) (t p : Int) (w : World) (hr : Rdx w B g p) (hBw : B ≤ w.heap.size) (hp : p + 100 ≤ 900000000000) :
    Calls Tryz.prog 229 #[.pointer (some ⟨g, 0, none⟩), .int .i64 t] w (GenP B g p 100 1000 w) := by
  refine calls_k fun Q hQ => ?_
  have BW := Lib.hid hBw
  have hgB := hr.gB
  have hgw : g < w.heap.size := by omega
  have K1 := Keep.al w (.cells #[.int .i64 0, .int .i64 0, .slice none 0 0] 58)
  have EZ := Lib.hid (Ev.born w (fun _ => False) (.mk 0 0 []) none 0 0 (.nil 3 _ _))
  have qr := Lib.hid (hr.keep K1)
  have X1 := Lib.hid (Keep.to (S := (· = g)) K1)
  clear hr hBw K1
  go_enter Tryz.func229, Tryz.ntmps229
  go_wp2_with fail
  refine (specNodeG _ _ _ _ _ _).mono ?_
  rintro e w1 ⟨rfl, k1⟩
  have K1 := Lib.hid (((Keep.al (w.alloc (.cells #[.int .i64 0, .int .i64 0, .slice none 0 0] 58)) (.cells #[] 58)).trans k1).trans (Keep.al w1 (.cells #[.int .i64 6, .int .i64 0, .slice (some ⟨w.heap.size + 1, 0, none⟩) 0 0] 58)))
  have EN : Hid (Ev (w1.alloc (.cells #[.int .i64 6, .int .i64 0, .slice (some ⟨w.heap.size + 1, 0, none⟩) 0 0] 58)) w1.heap.size (fun _ => False) (.mk 6 0 []) (some ⟨w.heap.size + 1, 0, none⟩) 0 0) := Ev.born w1 _ (.mk 6 0 []) _ 0 0 (.nil 3 _ _)
  have E1 := Lib.hid (EZ.out.keep K1.out)
  have X2 := Lib.hid (X1.out.trans (Keep.to K1.out))
  have R2 := Lib.hid (qr.out.keep K1.out)
  have hs1 : w.heap.size + 1 ≤ w1.heap.size := by have := k1.size; simp at this; omega
  clear k1 EZ qr X1 K1
  go_upto_if 13 with fail
  generalize hW : w1.alloc (.cells #[.int .i64 6, .int .i64 0, .slice (some ⟨w.heap.size + 1, 0, none⟩) 0 0] 58) = wq at *
  clear hW
  generalize hS : w1.heap.size = sN at *
  clear hS
  by_cases ht : t = 3
  · subst ht
    go_wp2_with fail
    refine (specNodeG _ _ _ _ _ _).mono ?_
    rintro e w2 ⟨rfl, k2⟩
    have KN := Lib.hid (((Keep.al wq (.cells #[] 58)).trans k2).trans (Keep.al w2 (.cells #[.int .i64 6, .int .i64 2, .slice (some ⟨wq.heap.size, 0, none⟩) 0 0] 58)))
    have EO : Hid (Ev (w2.alloc (.cells #[.int .i64 6, .int .i64 2, .slice (some ⟨wq.heap.size, 0, none⟩) 0 0] 58)) w2.heap.size (fun _ => False) (.mk 6 2 []) (some ⟨wq.heap.size, 0, none⟩) 0 0) := Ev.born w2 _ (.mk 6 2 []) _ 0 0 (.nil 3 _ _)
    have E2 := Lib.hid (E1.out.keep KN.out)
    have X3 := Lib.hid (X2.out.trans (Keep.to KN.out))
    have R3 := Lib.hid (R2.out.keep KN.out)
    have hs2 : w.heap.size + 1 ≤ w2.heap.size := by have h1 := k2.size; have h2 := E1.out.lt; simp at h1; omega
    clear k2 KN E1 X2 R2 EN
    go_upto_region 4 with fail
    generalize hW : w2.alloc (.cells #[.int .i64 6, .int .i64 2, .slice (some ⟨wq.heap.size, 0, none⟩) 0 0] 58) = wp at *
    clear hW
    generalize hS : w2.heap.size = sO at *
    clear hS
    generalize hS : wq.heap.size = bO at *
    clear hS
    have e0 : wp.cell? ⟨sO, 0, none⟩ = some (.int .i64 6) := EO.out.v0
    have e1 : wp.cell? ⟨sO, 1, none⟩ = some (.int .i64 2) := EO.out.v1
    have e2 := EO.out.v2
    have hsg : sO ≠ g := by omega
    have hsol := EO.out.lt
    have CP := Lib.hid (pickX B g p 9 wp.drew R3.out.dr (by omega) (by omega))
    have CP0 := Lib.hid (pickX B g p 9 (wp.alloc (.cells #[.int .i64 0, .int .i64 0, .slice none 0 0] 58)).drew R3.out.al.dr (by omega) (by omega))
    go_cut [7] (fun s7 wx => LitB B g p w sO bO s7 wx)
    case first =>
      go_region_held3 (fun w' => w'.cell? ⟨sO, 0, none⟩ = some (.int .i64 6) ∧ w'.cell? ⟨sO, 1, none⟩ = some (.int .i64 2) ∧ w'.cell? ⟨sO, 2, none⟩ = some (.slice (some ⟨bO, 0, none⟩) 0 0))
        (first | with_reducible exact ⟨e0, e1, e2⟩ | with_reducible exact ⟨at_al e0, at_al e1, at_al e2⟩ | with_reducible exact ⟨kk10, kk11, kk12⟩ | with_reducible exact ⟨kk20, kk21, kk22⟩ | with_reducible exact ⟨kk30, kk31, kk32⟩ | with_reducible exact ⟨at_al kk10, at_al kk11, at_al kk12⟩ | with_reducible exact ⟨at_al kk20, at_al kk21, at_al kk22⟩ | with_reducible exact ⟨at_al kk30, at_al kk31, at_al kk32⟩ | with_reducible exact ⟨at_al (at_al kk20), at_al (at_al kk21), at_al (at_al kk22)⟩ | with_reducible exact ⟨at_set3 kk30 (by show sO ≠ _; omega), at_set3 kk31 (by show sO ≠ _; omega), at_set3 kk32 (by show sO ≠ _; omega)⟩ | go_keep)
        (first
          | (go_at_call 158; (with_reducible refine CP.out.mono ?_); rintro e v1 ⟨v, rfl, hv, _, r5, x5⟩; have XX1 := Lib.hid ((Ext.refl (· = g) wp).drew.trans x5); have kk10 := XX1.out.at e0 hsg; have kk11 := XX1.out.at e1 hsg; have kk12 := XX1.out.at e2 hsg; have HV := Lib.hid (hv (by omega)); have R5 := Lib.hid r5; have hz1 := XX1.out.size; clear hv r5 x5)
          | (go_at_call 158; (with_reducible refine CP0.out.mono ?_); rintro e v1 ⟨v, rfl, hv, _, r5, x5⟩; have XX1 := Lib.hid (((Ext.refl (· = g) wp).alloc (.cells #[.int .i64 0, .int .i64 0, .slice none 0 0] 58)).drew.trans x5); have kk10 := XX1.out.at e0 hsg; have kk11 := XX1.out.at e1 hsg; have kk12 := XX1.out.at e2 hsg; have HV := Lib.hid (hv (by omega)); have R5 := Lib.hid r5; have EZb := Lib.hid (((Ev.born wp (fun _ => False) (.mk 0 0 []) none 0 0 (.nil 3 _ _)).keep (Ext.refl (fun _ => False) _).drew).ext x5 (by omega) (fun k hk => hk.elim)); have hz1 : wp.heap.size + 1 ≤ v1.heap.size := (by have h := x5.size; simp at h; omega); clear hv r5 x5)
          | (go_at_call 213; refine (specIntegerG _ _).mono ?_; rintro e v2 ⟨ai, ci, rfl, x6⟩; have h6 : Keep v1 v2 := (by with_reducible exact x6); (first | (have EZb := Lib.hid (EZb.out.keep h6)) | skip); have XX2 := Lib.hid (XX1.out.trans (Keep.to h6)); have kk20 := XX2.out.at e0 hsg; have kk21 := XX2.out.at e1 hsg; have kk22 := XX2.out.at e2 hsg; have R6 := Lib.hid (R5.out.keep h6); have hz2 : v1.heap.size ≤ v2.heap.size := h6.size; clear x6 h6)
          | (go_at_call 213; refine (specIntegerG _ _).mono ?_; rintro e v2 ⟨ai, ci, rfl, x6⟩; have h6 : Keep (v1.alloc (.cells #[.int .i64 0, .int .i64 0, .slice none 0 0] 58)) v2 := (by with_reducible exact x6); have EZb := Lib.hid ((Ev.born v1 (fun _ => False) (.mk 0 0 []) none 0 0 (.nil 3 _ _)).keep h6); have XX2 := Lib.hid ((XX1.out.alloc (.cells #[.int .i64 0, .int .i64 0, .slice none 0 0] 58)).trans (Keep.to h6)); have kk20 := XX2.out.at e0 hsg; have kk21 := XX2.out.at e1 hsg; have kk22 := XX2.out.at e2 hsg; have R6 := Lib.hid (R5.out.al.keep h6); have hz2 : v1.heap.size + 1 ≤ v2.heap.size := (by have h := h6.size; simp at h; omega); clear x6 h6)
          | (go_at_call 212; refine (specNodeG _ _ _ _ _ _).mono ?_; rintro e v3 ⟨rfl, x7⟩; have h7 : Keep (v2.alloc (.cells #[.int .i64 6, .int .i64 2, .slice (some ⟨bO, 0, none⟩) 0 0, .int .i64 0, .int .i64 v, .slice ai 0 ci, .int .i64 6, .int .i64 2, .slice (some ⟨bO, 0, none⟩) 0 0] 58)) v3 := (by with_reducible exact x7); (first | (have EZb := Lib.hid ((EZb.out.keep (Keep.al v2 (.cells #[.int .i64 6, .int .i64 2, .slice (some ⟨bO, 0, none⟩) 0 0, .int .i64 0, .int .i64 v, .slice ai 0 ci, .int .i64 6, .int .i64 2, .slice (some ⟨bO, 0, none⟩) 0 0] 58))).keep h7)) | skip); have XX3 := Lib.hid ((XX2.out.alloc (.cells #[.int .i64 6, .int .i64 2, .slice (some ⟨bO, 0, none⟩) 0 0, .int .i64 0, .int .i64 v, .slice ai 0 ci, .int .i64 6, .int .i64 2, .slice (some ⟨bO, 0, none⟩) 0 0] 58)).trans (Keep.to h7)); have kk30 := XX3.out.at e0 hsg; have kk31 := XX3.out.at e1 hsg; have kk32 := XX3.out.at e2 hsg; have R7 := Lib.hid (R6.out.al.keep h7); have RL := Lib.hid ((lit_expr3 v2 (fun k => k = v2.heap.size) 58 (.mk 6 2 []) (.mk 0 v []) (.mk 6 2 []) (some ⟨bO, 0, none⟩) 0 0 ai 0 ci (some ⟨bO, 0, none⟩) 0 0 (by first | rfl | simp) (.nil 3 _ _) (.nil 3 _ _) (.nil 3 _ _)).k h7); have hz3 : v2.heap.size + 1 ≤ v3.heap.size := (by have h := h7.size; simp at h; omega); (first | (have c0 := EZb.out.v0; have c1 := EZb.out.v1; have c2 := EZb.out.v2; have d0 := EZb.out.g0; have d1 := EZb.out.g1; have d2 := EZb.out.g2) | skip); clear x7 h7)
          | (go_at_call 212; refine (specNodeG _ _ _ _ _ _).mono ?_; rintro e v3 ⟨rfl, x7⟩; have h7 : Keep ((v2.alloc (.cells #[.int .i64 0, .int .i64 0, .slice none 0 0] 58)).alloc (.cells #[.int .i64 6, .int .i64 2, .slice (some ⟨bO, 0, none⟩) 0 0, .int .i64 0, .int .i64 v, .slice ai 0 ci, .int .i64 6, .int .i64 2, .slice (some ⟨bO, 0, none⟩) 0 0] 58)) v3 := (by with_reducible exact x7); have EZb := Lib.hid (((Ev.born v2 (fun _ => False) (.mk 0 0 []) none 0 0 (.nil 3 _ _)).keep (Keep.al _ (.cells #[.int .i64 6, .int .i64 2, .slice (some ⟨bO, 0, none⟩) 0 0, .int .i64 0, .int .i64 v, .slice ai 0 ci, .int .i64 6, .int .i64 2, .slice (some ⟨bO, 0, none⟩) 0 0] 58))).keep h7); have XX3 := Lib.hid (((XX2.out.alloc (.cells #[.int .i64 0, .int .i64 0, .slice none 0 0] 58)).alloc (.cells #[.int .i64 6, .int .i64 2, .slice (some ⟨bO, 0, none⟩) 0 0, .int .i64 0, .int .i64 v, .slice ai 0 ci, .int .i64 6, .int .i64 2, .slice (some ⟨bO, 0, none⟩) 0 0] 58)).trans (Keep.to h7)); have kk30 := XX3.out.at e0 hsg; have kk31 := XX3.out.at e1 hsg; have kk32 := XX3.out.at e2 hsg; have R7 := Lib.hid (R6.out.al.al.keep h7); have RL0 := lit_expr3 (v2.alloc (.cells #[.int .i64 0, .int .i64 0, .slice none 0 0] 58)) (fun k => k = v2.heap.size + 1) 58 (.mk 6 2 []) (.mk 0 v []) (.mk 6 2 []) (some ⟨bO, 0, none⟩) 0 0 ai 0 ci (some ⟨bO, 0, none⟩) 0 0 (by first | rfl | simp) (.nil 3 _ _) (.nil 3 _ _) (.nil 3 _ _); simp only [World.size_alloc] at RL0; have RL := Lib.hid (RL0.k h7); have hz3 : v2.heap.size + 2 ≤ v3.heap.size := (by have h := h7.size; simp at h; omega); have c0 := EZb.out.v0; have c1 := EZb.out.v1; have c2 := EZb.out.v2; have d0 := EZb.out.g0; have d1 := EZb.out.g1; have d2 := EZb.out.g2; clear x7 h7 RL0)
          | (go_at_call 212; refine (specNodeG _ _ _ _ _ _).mono ?_; rintro e v3 ⟨rfl, x7⟩; have h7 : Keep ((v2.alloc (.cells #[.int .i64 6, .int .i64 2, .slice (some ⟨bO, 0, none⟩) 0 0, .int .i64 0, .int .i64 v, .slice ai 0 ci, .int .i64 6, .int .i64 2, .slice (some ⟨bO, 0, none⟩) 0 0] 58)).alloc (.cells #[.int .i64 0, .int .i64 0, .slice none 0 0] 58)) v3 := (by with_reducible exact x7); have EZ0 := Ev.born (v2.alloc (.cells #[.int .i64 6, .int .i64 2, .slice (some ⟨bO, 0, none⟩) 0 0, .int .i64 0, .int .i64 v, .slice ai 0 ci, .int .i64 6, .int .i64 2, .slice (some ⟨bO, 0, none⟩) 0 0] 58)) (fun _ => False) (.mk 0 0 []) none 0 0 (.nil 3 _ _); simp only [World.size_alloc] at EZ0; have EZb := Lib.hid (EZ0.keep h7); have XX3 := Lib.hid (((XX2.out.alloc (.cells #[.int .i64 6, .int .i64 2, .slice (some ⟨bO, 0, none⟩) 0 0, .int .i64 0, .int .i64 v, .slice ai 0 ci, .int .i64 6, .int .i64 2, .slice (some ⟨bO, 0, none⟩) 0 0] 58)).alloc (.cells #[.int .i64 0, .int .i64 0, .slice none 0 0] 58)).trans (Keep.to h7)); have kk30 := XX3.out.at e0 hsg; have kk31 := XX3.out.at e1 hsg; have kk32 := XX3.out.at e2 hsg; have R7 := Lib.hid (R6.out.al.al.keep h7); have RL := Lib.hid (((lit_expr3 v2 (fun k => k = v2.heap.size) 58 (.mk 6 2 []) (.mk 0 v []) (.mk 6 2 []) (some ⟨bO, 0, none⟩) 0 0 ai 0 ci (some ⟨bO, 0, none⟩) 0 0 (by first | rfl | simp) (.nil 3 _ _) (.nil 3 _ _) (.nil 3 _ _)).k (Keep.al _ (.cells #[.int .i64 0, .int .i64 0, .slice none 0 0] 58))).k h7); have hz3 : v2.heap.size + 2 ≤ v3.heap.size := (by have h := h7.size; simp at h; omega); have c0 := EZb.out.v0; have c1 := EZb.out.v1; have c2 := EZb.out.v2; have d0 := EZb.out.g0; have d1 := EZb.out.g1; have d2 := EZb.out.g2; clear x7 h7 EZ0)
          | fail)
      all_goals
        have EO8 := Lib.hid (EO.out.ext XX3.out hsg (fun k hk => hk.elim))
        have EZ8 := Lib.hid (E2.out.ext XX3.out (by omega) (fun k hk => hk.elim))
        have X8 := Lib.hid (X3.out.trans XX3.out)
        have hez := E2.out.lt
        clear e0 e1 e2 kk10 kk11 kk12 kk20 kk21 kk22 kk30 kk31 kk32
        go_wp2_with fail
        go_meet
        case rel =>
          first
            | exact LitB.store HV.out X8.out R7.out EO8.out EZ8.out EZb.out RL.out (by omega) (by omega) (by omega) (by omega) (by omega) (by omega) (by have := BW.out; omega)
            | exact LitB.born HV.out X8.out R7.out EO8.out EZ8.out RL.out (by omega) (by omega) (by omega)
    case rest =>
    clear EO E2 R3 X3 CP CP0 e0 e1 e2 hsol
    obtain ⟨sB, vv, ab, nb, cb, rfl, HV1, HSB, EB, EO, EZ, RR, XX⟩ := hcut
    have e0 : wc.cell? ⟨sO, 0, none⟩ = some (.int .i64 6) := EO.out.v0
    have e1 : wc.cell? ⟨sO, 1, none⟩ = some (.int .i64 2) := EO.out.v1
    have e2 := EO.out.v2
    have d0 : wc.cell? ⟨sB, 0, none⟩ = some (.int .i64 6) := EB.out.v0
    have d1 : wc.cell? ⟨sB, 1, none⟩ = some (.int .i64 3) := EB.out.v1
    have d2 := EB.out.v2
    have hbgn : sB ≠ g := by have := HSB.out.1; omega
    have hbw1 : sB ≠ w.heap.size := by have := HSB.out.1; omega
    have how1 : sO ≠ w.heap.size := by omega
    have CP := Lib.hid (pickX B g (p + 1) 9 wc.drew RR.out.dr (by omega) (by omega))
    go_wp2_with fail
    go_region_held3 (fun w' => w'.cell? ⟨sO, 0, none⟩ = some (.int .i64 6) ∧ w'.cell? ⟨sO, 1, none⟩ = some (.int .i64 2) ∧ w'.cell? ⟨sO, 2, none⟩ = some (.slice (some ⟨bO, 0, none⟩) 0 0) ∧ w'.cell? ⟨sB, 0, none⟩ = some (.int .i64 6) ∧ w'.cell? ⟨sB, 1, none⟩ = some (.int .i64 3) ∧ w'.cell? ⟨sB, 2, none⟩ = some (.slice ab nb cb))
      (first | with_reducible exact ⟨e0, e1, e2, d0, d1, d2⟩ | with_reducible exact ⟨kk10, kk11, kk12, kk13, kk14, kk15⟩ | with_reducible exact ⟨kk20, kk21, kk22, kk23, kk24, kk25⟩ | with_reducible exact ⟨at_al kk20, at_al kk21, at_al kk22, at_al kk23, at_al kk24, at_al kk25⟩ | with_reducible exact ⟨kk30, kk31, kk32, kk33, kk34, kk35⟩ | with_reducible exact ⟨at_set3 kk30 how1, at_set3 kk31 how1, at_set3 kk32 how1, at_set3 kk33 hbw1, at_set3 kk34 hbw1, at_set3 kk35 hbw1⟩ | go_keep)
      (first
        | (go_at_call 158; (with_reducible refine CP.out.mono ?_); rintro e v1 ⟨v, rfl, hv, _, r5, xx1⟩; have XX1 := Lib.hid (((Ext.refl (· = g) wc).drew).trans xx1); have kk10 := XX1.out.at e0 hsg; have kk11 := XX1.out.at e1 hsg; have kk12 := XX1.out.at e2 hsg; have kk13 := XX1.out.at d0 hbgn; have kk14 := XX1.out.at d1 hbgn; have kk15 := XX1.out.at d2 hbgn; have HV := Lib.hid (hv (by omega)); have R5 := Lib.hid r5; have EB1 := Lib.hid (EB.out.ext XX1.out hbgn (fun k hk => (by omega))); have EZ1 := Lib.hid (EZ.out.ext XX1.out (by omega) (fun k hk => hk.elim)); clear xx1 hv r5)
        | (go_at_call 213; refine (specIntegerG _ _).mono ?_; rintro e v2 ⟨ai, ci, rfl, xx2⟩; have XX2 := Lib.hid ((XX1.out).trans (Keep.to xx2)); have kk20 := XX2.out.at e0 hsg; have kk21 := XX2.out.at e1 hsg; have kk22 := XX2.out.at e2 hsg; have kk23 := XX2.out.at d0 hbgn; have kk24 := XX2.out.at d1 hbgn; have kk25 := XX2.out.at d2 hbgn; have R5b := Lib.hid (R5.out.keep xx2); have EB2 := Lib.hid (EB1.out.keep xx2); have EZ2 := Lib.hid (EZ1.out.keep xx2); have hz2 := EZ2.out.lt; have RL0 := Lib.hid (lit_expr3 v2 (fun k => w.heap.size ≤ k ∧ k ≠ w.heap.size) 58 (.mk 6 3 [.mk 6 2 [], .mk 0 vv [], .mk 6 2 []]) (.mk 0 v []) (.mk 6 2 []) ab nb cb ai 0 ci (some ⟨bO, 0, none⟩) 0 0 (by omega) EB2.out.k (.nil 3 _ _) (.nil 3 _ _)); clear xx2)
        | (go_at_call 212; refine (specNodeG _ _ _ _ _ _).mono ?_; rintro e v3 ⟨rfl, xx3⟩; have XX3 := Lib.hid (((XX2.out).alloc (.cells #[.int .i64 6, .int .i64 3, .slice ab nb cb, .int .i64 0, .int .i64 v, .slice ai 0 ci, .int .i64 6, .int .i64 2, .slice (some ⟨bO, 0, none⟩) 0 0] 58)).trans (Keep.to xx3)); have kk30 := XX3.out.at e0 hsg; have kk31 := XX3.out.at e1 hsg; have kk32 := XX3.out.at e2 hsg; have kk33 := XX3.out.at d0 hbgn; have kk34 := XX3.out.at d1 hbgn; have kk35 := XX3.out.at d2 hbgn; have K6 := Lib.hid ((Keep.al v2 (.cells #[.int .i64 6, .int .i64 3, .slice ab nb cb, .int .i64 0, .int .i64 v, .slice ai 0 ci, .int .i64 6, .int .i64 2, .slice (some ⟨bO, 0, none⟩) 0 0] 58)).trans xx3); have RL := Lib.hid (RL0.out.k xx3); have R6 := Lib.hid (R5b.out.keep K6.out); have EZ3 := Lib.hid (EZ2.out.keep K6.out); have u0 := EZ3.out.v0; have u1 := EZ3.out.v1; have u2 := EZ3.out.v2; have f0 := EZ3.out.g0; have f1 := EZ3.out.g1; have f2 := EZ3.out.g2; clear xx3)
        | fail)
    have X9 := Lib.hid (XX.out.trans XX3.out)
    have HFI : Hid (gfit 1000 6 3) := ⟨by omega, by omega⟩
    have HFS : Hid (allEs (gfit 1000) [.mk 6 3 [.mk 6 2 [], .mk 0 vv [], .mk 6 2 []], .mk 0 v [], .mk 6 2 []]) := by
      have h1 := HV1.out
      have h2 := HV.out
      exact ⟨⟨⟨by omega, by omega⟩, ⟨⟨by omega, by omega⟩, trivial⟩, ⟨⟨by omega, by omega⟩, trivial⟩, ⟨⟨by omega, by omega⟩, trivial⟩, trivial⟩, ⟨⟨by omega, by omega⟩, trivial⟩, ⟨⟨by omega, by omega⟩, trivial⟩, trivial⟩
    have HQ9 : Hid (p + 1 + 1 ≤ p + 100) := by show _ ≤ _; omega
    clear e0 e1 e2 d0 d1 d2
    go_wp2_with fail
    refine bodyPost_ret (v := .agg #[.int .i64 6, .int .i64 3, .slice (some ⟨v2.heap.size, 0, none⟩) 3 3]) (by simp [results, Tryz.results229, go_sem, u0, u1, u2]) rfl (fin_ hQ ?_)
    exact gen_finS (ks := [.mk 6 3 [.mk 6 2 [], .mk 0 vv [], .mk 6 2 []], .mk 0 v [], .mk 6 2 []]) X9.out R6.out BW.out (Nat.le_refl _) RL.out HFI.out HFS.out HQ9.out
  · have ht2 : (t == 3) = false := by simpa using ht
    clear ht
    have e0 : wq.cell? ⟨sN, 0, none⟩ = some (.int .i64 6) := EN.out.v0
    have e1 : wq.cell? ⟨sN, 1, none⟩ = some (.int .i64 0) := EN.out.v1
    have e2 := EN.out.v2
    have EO : Hid (Ev (wq.alloc (.cells #[.int .i64 6, .int .i64 0, .slice (some ⟨w.heap.size + 1, 0, none⟩) 0 0] 58)) wq.heap.size (fun k => w.heap.size ≤ k ∧ k ≠ w.heap.size ∧ k ≠ wq.heap.size) (.mk 6 0 []) (some ⟨w.heap.size + 1, 0, none⟩) 0 0) := Ev.born wq _ (.mk 6 0 []) _ 0 0 (.nil 3 _ _)
    have KO : Hid (Keep wq (wq.alloc (.cells #[.int .i64 6, .int .i64 0, .slice (some ⟨w.heap.size + 1, 0, none⟩) 0 0] 58))) := Keep.al _ _
    have EO2 := Lib.hid (E1.out.keep KO.out)
    have X3 := Lib.hid (X2.out.trans (Keep.to KO.out))
    have R3 := Lib.hid (R2.out.keep KO.out)
    have hsq : w.heap.size + 1 ≤ wq.heap.size := by have := E1.out.lt; omega
    go_upto_region 7 with fail
    generalize hW : wq.alloc (.cells #[.int .i64 6, .int .i64 0, .slice (some ⟨w.heap.size + 1, 0, none⟩) 0 0] 58) = wp at *
    clear hW KO e0 e1 e2 EN E1 X2 R2
    generalize hS : wq.heap.size = sO at *
    clear hS
    go_wp2_with fail
    refine (pickX B g p _ _ R3.out (by omega) (by omega)).mono ?_
    rintro e w3 ⟨v, rfl, hv, _, r3, x3⟩
    obtain ⟨hv0, hv1⟩ := hv (by omega)
    obtain ⟨m, rfl⟩ := Int.eq_ofNat_of_zero_le hv0
    have E3 := Lib.hid (EO.out.ext x3 (by omega) (fun k hk => by omega))
    have EZ3 := Lib.hid (EO2.out.ext x3 (by omega) (fun k hk => hk.elim))
    have X4 := Lib.hid (X3.out.trans x3)
    have R4 := Lib.hid r3
    have hsum : (1 : Int) + (m : Int) = ((m + 1 : Nat) : Int) := by omega
    clear hv r3 x3 EO EO2 X3 R3
    go_wp2_with fail
    go_loopw [9] (fun sv wr => ∃ (j : Nat) (y : ExprL) (ay : Option Addr) (ny cy : Nat) (q : Int), sv = .int .i64 j ∧ j ≤ 3 ∧ Hid (Ev wr sO (fun k => w.heap.size ≤ k ∧ k ≠ w.heap.size ∧ k ≠ sO) y ay ny cy) ∧ Hid (Ev wr w.heap.size (fun _ => False) (.mk 0 0 []) none 0 0) ∧ Hid (allE (gfit 1000) y) ∧ Hid (Rdx wr B g q) ∧ Hid (q ≤ p + 20 - 4 * (j : Int)) ∧ Hid (Ext (· = g) w wr)) (fun i _ => (intOf i).toNat)
    case atStart => exact ⟨m + 1, _, _, _, _, _, by go_num, by omega, E3, EZ3, ⟨⟨by omega, by omega⟩, trivial⟩, R4, by show _ ≤ _; omega, X4⟩
    case round =>
      clear E3 EZ3 R4 X4 hsum hv0 hv1
      obtain ⟨j, y, ay, ny, cy, q, rfl, hj, hE, hZ, hF, hR, hq, hX⟩ := hrel
      by_cases hj0 : j = 0
      · subst hj0
        have e0 := hE.out.v0
        have e1 := hE.out.v1
        have e2 := hE.out.v2
        have u0 := hZ.out.v0
        have u1 := hZ.out.v1
        have u2 := hZ.out.v2
        have f0 := hZ.out.g0
        have f1 := hZ.out.g1
        have f2 := hZ.out.g2
        have HQ : Hid (q ≤ p + 100) := by show _ ≤ _; have := hq.out; omega
        have HFF := Lib.hid ((allE_eq _ _).1 hF.out)
        go_wp2_with fail
        refine bodyPost_ret (v := .agg #[.int .i64 y.op, .int .i64 y.num, .slice ay ny cy]) (by simp [results, Tryz.results229, go_sem, u0, u1, u2]) rfl (fin_ hQ ?_)
        exact gen_finS (ks := y.kids) hX.out hR.out BW.out (Nat.le_refl _) (hE.out.k.mono (fun k hk => ⟨hk.1, hk.2.1⟩)) HFF.out.1 HFF.out.2 HQ.out
      · have hjp : (0 : Int) < (j : Int) := by omega
        have e0 := hE.out.v0
        have e1 := hE.out.v1
        have e2 := hE.out.v2
        have CS := Lib.hid (specSomeInt B g q wr.drew hR.out.dr (by have := hq.out; omega))
        have hsl := hE.out.lt
        go_wp2_with fail
        go_region_with (first
          | (go_at_call 239; (with_reducible refine CS.out.mono ?_); rintro e w5 ⟨v, rfl, hv1, hv2, r5, x5⟩; have E5 := Lib.hid ((hE.out.keep (Ext.refl (fun _ => False) wr).drew).ext x5 (by omega) (fun k hk => by omega)); have Z5 := Lib.hid ((hZ.out.keep (Ext.refl (fun _ => False) wr).drew).ext x5 (by omega) (fun k hk => hk.elim)); have X5 := Lib.hid (hX.out.drew.trans x5); have R5 := Lib.hid r5; have HV := Lib.hid (And.intro hv1 hv2); have e0 := E5.out.v0; have e1 := E5.out.v1; have e2 := E5.out.v2; have hs5 : wr.heap.size ≤ w5.heap.size := x5.size; clear hv1 hv2 r5 x5)
          | (go_at_call 213; refine (specIntegerG _ _).mono ?_; rintro e w6 ⟨ai, ci, rfl, k6⟩; have E6 := Lib.hid (E5.out.keep k6); have Z6 := Lib.hid (Z5.out.keep k6); have X6 := Lib.hid (X5.out.trans (Keep.to k6)); have R6 := Lib.hid (R5.out.keep k6); have e0 := E6.out.v0; have e1 := E6.out.v1; have e2 := E6.out.v2; have hs6 := k6.size; have RL := Lib.hid (lit_expr2 w6 (fun k => w.heap.size ≤ k ∧ k ≠ w.heap.size ∧ k ≠ sO) 58 (.mk 0 v []) y ai 0 ci ay ny cy (by omega) (.nil 3 _ _) E6.out.k); clear k6)
          | (go_at_call 212; refine (specNodeG _ _ _ _ _ _).mono ?_; rintro e w7 ⟨rfl, k7⟩; have K7 := Lib.hid ((Keep.al w6 (.cells #[.int .i64 0, .int .i64 v, .slice ai 0 ci, .int .i64 y.op, .int .i64 y.num, .slice ay ny cy] 58)).trans k7); have RL7 := Lib.hid (RL.out.k k7); have E7 := Lib.hid (E6.out.keep K7.out); have Z7 := Lib.hid (Z6.out.keep K7.out); have u0 := E7.out.v0; have u1 := E7.out.v1; have u2 := E7.out.v2; have f0 := E7.out.g0; have f1 := E7.out.g1; have f2 := E7.out.g2; clear k7)
          | fail)
        all_goals
          have Y := Lib.hid (ext3 w7 sO (.int .i64 6) (.int .i64 1) (.slice (some ⟨w6.heap.size, 0, none⟩) 2 2))
          have E8 := Lib.hid (E7.out.store (y := .mk 6 1 [.mk 0 v [], y]) (D' := fun k => w.heap.size ≤ k ∧ k ≠ w.heap.size ∧ k ≠ sO) RL7.out (fun k hk => hk.2.2))
          have Z8 := Lib.hid (Z7.out.ext Y.out (by omega) (fun k hk => hk.elim))
          have X8 := Lib.hid ((X6.out.trans (Keep.to K7.out)).then_ Y.out (fun i hi h => by omega))
          have R8 := Lib.hid ((R6.out.keep K7.out).ext Y.out (fun k hk h => by have := BW.out; omega))
          have F8 : Hid (allE (gfit 1000) (.mk 6 1 [.mk 0 v [], y])) := ⟨⟨by omega, by omega⟩, ⟨HV.out, trivial⟩, hF.out, trivial⟩
          clear e0 e1 e2 u0 u1 u2 f0 f1 f2
          go_wp2_with fail
          go_roundw
          case rel => exact ⟨j - 1, _, _, _, _, _, by go_num, by omega, E8, Z8, F8, R8, by show _ ≤ _; have := hq.out; omega, X8⟩
          case measure => simp [intOf]; omega
end Go.Proofs.YtkapldpmjkdmcaaGreat
