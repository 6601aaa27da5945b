/- The generator of programs: someBody, someExpr. -/
import Derived.Test.YtomgellcpjimjaaZGen22
namespace Go.Proofs.Ytomgellcpjimjaa
open Go.RowKit

theorem OwnP.k {lo : Nat} {w w2 : World} {ds : List DeclL} {fs : List FuncL} {a0 : Option Addr} {n0 c0 sF n cc : Nat} (h : OwnP lo w ds fs a0 n0 c0 sF n cc) (K : Keep w w2) : OwnP lo w2 ds fs a0 n0 c0 sF n cc := ⟨h.f.keep K, h.d.k K, h.s⟩
theorem OwnP.g {lo g : Nat} {w w2 : World} {ds : List DeclL} {fs : List FuncL} {a0 : Option Addr} {n0 c0 sF n cc : Nat} (h : OwnP lo w ds fs a0 n0 c0 sF n cc) (X : Ext (· = g) w w2) (hg : g < lo) : OwnP lo w2 ds fs a0 n0 c0 sF n cc :=
  ⟨h.f.ext X (fun k _ hk e => by have h1 := h.s; have h2 : k = g := e; rcases hk with h | h <;> omega), h.d.ext X (fun k hk e => by have h2 : k = g := e; omega), h.s⟩
theorem at_set2 {w : World} {s : Nat} {v0 v1 v : Value} {p : Addr} (h : w.cell? p = some v) (hp : p.block ≠ s) : ((w.setCell ⟨s, 0, none⟩ v0).setCell ⟨s, 1, none⟩ v1).cell? p = some v :=
  Ext.cl ((ext1 w s 0 v0).trans (ext1 _ s 1 v1)) h hp
set_option maxRecDepth 100000 in
set_option maxHeartbeats 2000000 in
theorem specSomeBody (B g : Nat) (p : Int) (w : World) (hr : Rdx w B g p) (hBw : B ≤ w.heap.size) (hp : p ≤ 400000000000) :
    Calls Try.prog 75 #[.pointer (some ⟨g, 0, none⟩)] w fun e w' => ∃ (ds : List DeclL) (fs : List FuncL) (a0 : Option Addr) (n0 c0 sF m k : Nat) (q : Int), e = .returned (.tuple #[.agg #[.slice a0 n0 c0, (.slice (some ⟨sF, 0, none⟩) m 4)], .int .i64 (k : Int)]) ∧ GoodP ds fs ∧ OwnP w.heap.size w' ds fs a0 n0 c0 sF m 4 ∧ k < m ∧ Rdx w' B g q ∧ q ≤ p + 300000001 ∧ Ext (· = g) w w' := by
  refine calls_k fun Q hQ => ?_
  have HPP := Lib.hid hp
  have hgB := hr.gB
  have K1 := Keep.al w (.cells #[.slice none 0 0, .slice none 0 0] 41)
  have R0 := Lib.hid (hr.keep K1)
  have X0 := Lib.hid (Keep.to (S := (· = g)) K1)
  have B0 := Lib.hid (Px.born w (.slice none 0 0) (.slice none 0 0))
  have hz0 : (w.alloc (.cells #[.slice none 0 0, .slice none 0 0] 41)).heap.size = w.heap.size + 1 := World.size_alloc _ _
  clear hr K1 hp
  go_enter Try.func75, Try.ntmps75
  go_upto_region 1 with fail
  generalize hW : w.alloc (.cells #[.slice none 0 0, .slice none 0 0] 41) = W1 at *
  clear hW
  go_wp2_with fail
  refine (specGoodProgram B g p W1 R0.out (by omega) (by have := HPP.out; omega)).mono ?_
  rintro e w1 ⟨ds, fs, a0, n0, c0, sF, m, q, rfl, hGP, hO, r1, hq, x1⟩
  have hs1 := x1.size
  have HGP := Lib.hid hGP
  have HQ := Lib.hid hq
  have hm2 : 2 ≤ m ∧ m ≤ 4 := by
    obtain ⟨_, _, _, _, _, _, _, _, _, _, _, _, _, _, e, _⟩ := tabO_at hO.f (k := 0) (by have := hGP.two; omega)
    have h1 := hGP.two
    have h2 := hGP.g.len
    omega
  have hsF := (hO.f.bound sF rfl).2
  have K2 := Keep.al w1 (.cells #[.slice a0 n0 c0, .slice (some ⟨sF, 0, none⟩) m 4] 41)
  have hz2 : (w1.alloc (.cells #[.slice a0 n0 c0, .slice (some ⟨sF, 0, none⟩) m 4] 41)).heap.size = w1.heap.size + 1 := World.size_alloc _ _
  have HO := Lib.hid (hO.k K2)
  have RR := Lib.hid (r1.keep K2)
  have X := Lib.hid ((X0.out.trans x1).trans (Keep.to K2))
  have BR := Lib.hid ((B0.out.ext x1 (by omega)).k K2)
  have B4 := Lib.hid (Px.born w1 (.slice a0 n0 c0) (.slice (some ⟨sF, 0, none⟩) m 4))
  clear hGP hO r1 x1 hq R0 X0 B0 K2
  go_upto_region 2 with fail
  generalize hW : w1.alloc (.cells #[.slice a0 n0 c0, .slice (some ⟨sF, 0, none⟩) m 4] 41) = wq at *
  clear hW
  generalize hS : w1.heap.size = s4 at *
  clear hS
  have h4g : s4 ≠ g := by omega
  have h4w : s4 ≠ w.heap.size := by omega
  have KD : Keep wq wq.drew := (Ext.refl (fun _ => False) wq).drew
  replace HO := Lib.hid (HO.out.k KD)
  replace RR := Lib.hid (RR.out.keep KD)
  replace X := Lib.hid (X.out.trans (Keep.to KD))
  replace BR := Lib.hid (BR.out.k KD)
  have x0 : wq.drew.cell? ⟨s4, 0, none⟩ = some (.slice a0 n0 c0) := B4.out.x0
  have x1 : wq.drew.cell? ⟨s4, 1, none⟩ = some (.slice (some ⟨sF, 0, none⟩) m 4) := B4.out.x1
  have hdz : wq.heap.size ≤ wq.drew.heap.size := Nat.le_refl _
  have hz1 : w.heap.size + 1 ≤ W1.heap.size := by omega
  clear B4 KD hz0
  refine wp_region_held_drew (S := fun w' => w'.cell? ⟨s4, 0, none⟩ = some (.slice a0 n0 c0) ∧ w'.cell? ⟨s4, 1, none⟩ = some (.slice (some ⟨sF, 0, none⟩) m 4)) (by kernel_rfl) ⟨x0, x1⟩ (fun hHeld => ?_)
  have pc : Hid (Ext (· = g) wq.drew wq.drew) := Ext.refl _ _
  generalize wq.drew = W0 at *
  refine wpAnyH_takeL (i := 0) (v := ?_) rfl (by kernel_rfl) (by kernel_rfl) (by kernel_rfl) (fun _ _ _ h => h) (by rfl) hHeld ?_ ?_
  rotate_left
  · (intro w hSw; (try dsimp only at hSw); go_simp; (try with_reducible rfl))
  try simp only [Act.put, List.setIfInBounds_toArray, List.set_cons_zero, List.set_cons_succ]
  refine wpAnyH_takeL (i := 1) (v := ?_) rfl (by kernel_rfl) (by kernel_rfl) (by kernel_rfl) (fun _ _ _ h => h) (by rfl) hHeld ?_ ?_
  rotate_left
  · (intro w hSw; (try dsimp only at hSw); go_simp; (try with_reducible rfl))
  try simp only [Act.put, List.setIfInBounds_toArray, List.set_cons_zero, List.set_cons_succ]
  refine wpAnyH_takeL (i := 2) (v := ?_) rfl (by kernel_rfl) (by kernel_rfl) (by kernel_rfl) (fun _ _ _ h => h) (by rfl) hHeld ?_ ?_
  rotate_left
  · (intro w hSw; (try dsimp only at hSw); go_simp; (try with_reducible rfl))
  try simp only [Act.put, List.setIfInBounds_toArray, List.set_cons_zero, List.set_cons_succ]
  refine wpAnyH_takeL (i := 3) (v := ?_) rfl (by kernel_rfl) (by kernel_rfl) (by kernel_rfl) (fun _ _ _ h => h) (by rfl) hHeld ?_ ?_
  rotate_left
  · (intro w hSw; (try dsimp only at hSw); go_simp; (try with_reducible rfl))
  try simp only [Act.put, List.setIfInBounds_toArray, List.set_cons_zero, List.set_cons_succ]
  refine wpAnyH_takeL (i := 4) (v := ?_) rfl (by kernel_rfl) (by kernel_rfl) (by kernel_rfl) (fun _ _ _ h => h) (by rfl) hHeld ?_ ?_
  rotate_left
  · (intro w hSw; (try dsimp only at hSw); go_simp; (try with_reducible rfl))
  try simp only [Act.put, List.setIfInBounds_toArray, List.set_cons_zero, List.set_cons_succ]
  refine wpAnyH_oneL (i := 5) rfl (by kernel_rfl) (by rfl) (fun K hK => ?_)
  go_simp
  go_at_call 77
  refine (pickX B g q m W0 RR.out (by have := HPP.out; have := HQ.out; omega) (by omega)).mono ?_
  rintro e y1 ⟨v, rfl, hv, _, r6, xi⟩
  replace pc := Lib.hid (pc.out.trans xi)
  replace HO := Lib.hid (HO.out.g xi (by omega))
  replace BR := Lib.hid (BR.out.e xi (by omega))
  replace RR := Lib.hid r6
  obtain ⟨hv0, hv1⟩ := hv (by omega)
  obtain ⟨k, rfl⟩ := Int.eq_ofNat_of_zero_le hv0
  clear hv r6 xi
  refine hK.out _ _ ⟨pc.out.at x0 h4g, pc.out.at x1 h4g⟩ (fun hHeld => ?_)
  clear hK K
  try simp only [Act.put, List.setIfInBounds_toArray, List.set_cons_zero, List.set_cons_succ]
  refine wpAnyH_oneL (i := 6) rfl (by kernel_rfl) (by rfl) (fun K hK => ?_)
  have d0 := BR.out.x0
  have d1 := BR.out.x1
  have g0 := BR.out.f0
  have g1 := BR.out.f1
  go_simp
  refine hK.out _ _ ⟨at_set2 (pc.out.at x0 h4g) h4w, at_set2 (pc.out.at x1 h4g) h4w⟩ (fun hHeld => ?_)
  clear hK K
  try simp only [Act.put, List.setIfInBounds_toArray, List.set_cons_zero, List.set_cons_succ]
  refine wpAnyH_takeL (i := 7) (v := ?_) rfl (by kernel_rfl) (by kernel_rfl) (by kernel_rfl) (fun _ _ _ h => h) (by rfl) hHeld ?_ ?_
  rotate_left
  · (intro w hSw; (try dsimp only at hSw); go_simp; (try with_reducible rfl))
  try simp only [Act.put, List.setIfInBounds_toArray, List.set_cons_zero, List.set_cons_succ]
  refine wpAnyH_done (by kernel_rfl) ?_ _
  have u0 := BR.out.x0
  have u1 := BR.out.x1
  have Y := (ext1 y1 w.heap.size 0 (.slice a0 n0 c0)).trans (ext1 _ w.heap.size 1 (.slice (some ⟨sF, 0, none⟩) m 4))
  have hsl := HO.out.s
  have O9 : Hid (OwnP w.heap.size ((y1.setCell ⟨w.heap.size, 0, none⟩ (.slice a0 n0 c0)).setCell ⟨w.heap.size, 1, none⟩ (.slice (some ⟨sF, 0, none⟩) m 4)) ds fs a0 n0 c0 sF m 4) :=
    ⟨(HO.out.f.extO Y (fun k hk h => by omega) (fun k hk h => by have := Option.some.inj hk; change sF = k at this; omega)).mono (fun k hk => by omega), (HO.out.d.ext Y (fun k hk h => by omega)).mono (fun k hk => by omega), by omega⟩
  have R9 := Lib.hid (RR.out.ext Y (fun k hk h => by omega))
  have X9 := Lib.hid ((X.out.trans pc.out).then_ Y (fun k hk h => by omega))
  go_wp2_with fail
  refine bodyPost_ret (v := .tuple #[.agg #[.slice a0 n0 c0, (.slice (some ⟨sF, 0, none⟩) m 4)], .int .i64 (k : Int)]) (by simp [results, Try.results75, go_sem, u0, u1]) rfl (fin_ hQ ?_)
  exact ⟨ds, fs, a0, n0, c0, sF, m, k, q + 1, rfl, HGP.out, O9.out, by omega, R9.out, by have := HQ.out; omega, X9.out⟩

set_option maxRecDepth 100000 in
set_option maxHeartbeats 2000000 in
theorem specSomeExpr (B g : Nat) (p : Int) (w : World) (hr : Rdx w B g p) (hBw : B ≤ w.heap.size) (hp : p ≤ 300000000000) :
    Calls Try.prog 55 #[.pointer (some ⟨g, 0, none⟩)] w (GenP B g p 300010000 2000 w) := by
  refine calls_k fun Q hQ => ?_
  have HPP := Lib.hid hp
  have hgB := hr.gB
  have K1 := Keep.al w (.cells #[.int .i64 0, .int .i64 0, .slice none 0 0] 25)
  have R0 := Lib.hid (hr.keep K1)
  have X0 := Lib.hid (Keep.to (S := (· = g)) K1)
  have E0 := Lib.hid (Ev.born w (fun _ => False) (.mk 0 0 []) none 0 0 (.nil 3 _ _))
  have hz0 : (w.alloc (.cells #[.int .i64 0, .int .i64 0, .slice none 0 0] 25)).heap.size = w.heap.size + 1 := World.size_alloc _ _
  clear hr K1 hp
  go_enter Try.func55, Try.ntmps55
  go_upto_region 1 with fail
  replace E0 : Hid (Ev (w.alloc (.cells #[.int .i64 0, .int .i64 0, .slice none 0 0] 25)) w.heap.size (fun _ => False) (.mk 0 0 []) none 0 0) := E0
  generalize hW : w.alloc (.cells #[.int .i64 0, .int .i64 0, .slice none 0 0] 25) = W1 at *
  clear hW
  go_wp2_with fail
  refine (specSomeBody B g p W1 R0.out (by omega) (by have := HPP.out; omega)).mono ?_
  rintro e w1 ⟨ds, fs, a0, n0, c0, sF, m, k, q, rfl, hGP, hO, hkm, r1, hq, x1⟩
  have hs1 := x1.size
  obtain ⟨_, _, _, _, _, _, _, _, _, _, _, _, _, _, em, _⟩ := tabO_at hO.f (k := 0) (by have := hGP.two; omega)
  have hkf : k < fs.length := by omega
  obtain ⟨ap, np, cp, ab, nb, cb, z0, z1, z2, z3, z4, rp, rk, -, -, -⟩ := tabO_at hO.f hkf
  have HB := Lib.hid (hGP.body k hkf)
  have RK := Lib.hid rk
  have kk0 : (0 : Int) ≤ (k : Int) := by omega
  have kk1 : (k : Int) < (m : Int) := by omega
  have hsF := (hO.f.bound sF rfl).2
  have K2 := Keep.al w1 (.cells #[.slice a0 n0 c0, .slice (some ⟨sF, 0, none⟩) m 4] 41)
  have y0 := K2.cl z0 (fun h => h)
  have y1 := K2.cl z1 (fun h => h)
  have y2 := K2.cl z2 (fun h => h)
  have y3 := K2.cl z3 (fun h => h)
  have y4 := K2.cl z4 (fun h => h)
  have x0 : (w1.alloc (.cells #[.slice a0 n0 c0, .slice (some ⟨sF, 0, none⟩) m 4] 41)).cell? ⟨w1.heap.size, 0, none⟩ = some (.slice a0 n0 c0) := boxk (Ext.refl _ _) 0
  have xx1 : (w1.alloc (.cells #[.slice a0 n0 c0, .slice (some ⟨sF, 0, none⟩) m 4] 41)).cell? ⟨w1.heap.size, 1, none⟩ = some (.slice (some ⟨sF, 0, none⟩) m 4) := boxk (Ext.refl _ _) 1
  have HQ := Lib.hid hq
  have RR := Lib.hid (r1.keep K2)
  have X := Lib.hid ((X0.out.trans x1).trans (Keep.to K2))
  have E2 := Lib.hid ((E0.out.ext x1 (by omega) (fun k hk => hk.elim)).keep K2)
  replace RK := Lib.hid (RK.out.k K2)
  have hz2 : w1.heap.size + 1 ≤ (w1.alloc (.cells #[.slice a0 n0 c0, .slice (some ⟨sF, 0, none⟩) m 4] 41)).heap.size := Nat.le_of_eq (World.size_alloc _ _).symm
  clear hGP hO r1 x1 hq R0 X0 E0 em rp rk z0 z1 z2 z3 z4 K2 hkf
  go_upto_region 2 with fail
  generalize hW : w1.alloc (.cells #[.slice a0 n0 c0, .slice (some ⟨sF, 0, none⟩) m 4] 41) = w2 at *
  clear hW
  generalize hS : w1.heap.size = s4 at *
  clear hS
  go_upto_region 3 with fail
  have K3 := Keep.al w2 (.cells #[.int .i64 (fAt fs k).body.op, .int .i64 (fAt fs k).body.num, .slice ab nb cb] 25)
  have E5 := Lib.hid (Ev.born w2 (fun m => W1.heap.size ≤ m) (fAt fs k).body ab nb cb (RK.out.mono (fun m hm => hm.1)))
  replace RR := Lib.hid (RR.out.keep K3)
  replace X := Lib.hid (X.out.trans (Keep.to K3))
  replace E2 := Lib.hid (E2.out.keep K3)
  generalize hW : w2.alloc (.cells #[.int .i64 (fAt fs k).body.op, .int .i64 (fAt fs k).body.num, .slice ab nb cb] 25) = w3 at *
  clear hW x0 xx1 y0 y1 y2 y3 y4 K3 RK
  generalize hS : w2.heap.size = s5 at *
  clear hS
  generalize (fAt fs k).body = y at *
  generalize ab = ay at *
  generalize nb = ny at *
  generalize cb = cy at *
  have h5g : s5 ≠ g := by omega
  have h5w : s5 ≠ w.heap.size := by omega
  go_wp2_with fail
  refine (pickX B g q 8 w3 RR.out (by have := HPP.out; have := HQ.out; omega) (by omega)).mono ?_
  rintro e wq ⟨v, rfl, hv, _, r4, x4⟩
  obtain ⟨hv0, hv1⟩ := hv (by omega)
  replace RR := Lib.hid r4
  replace X := Lib.hid (X.out.trans x4)
  replace E2 := Lib.hid (E2.out.ext x4 (by omega) (fun k hk => hk.elim))
  replace E5 := Lib.hid (E5.out.ext x4 h5g (fun k hk => by omega))
  have hq : Hid (q + 1 ≤ p + 300000002) := by show _ ≤ _; have := HQ.out; omega
  have FY : Hid (allE (gfit 2000) y) := gfit_up (by omega) y HB.out.1
  clear hv r4 x4
  by_cases hv0c : v = 0
  · subst hv0c
    have e0 := E5.out.v0
    have e1 := E5.out.v1
    have e2 := E5.out.v2
    go_wp2_with fail
    refine (specBend B g 1000 (by omega) y (by have := HB.out.2; omega) ay ny cy _ (q + 1) wq (fun m hm => by omega) HB.out.1 E5.out.k RR.out (Nat.le_trans hBw X.out.size) (by have h1 := HPP.out; have h2 := HB.out.2; have h3 := hq.out; omega)).mono ?_
    rintro e w7 ⟨x, ax, nx, cx, q7, rfl, rx, fx, _, r7, hq7, x7⟩
    have hws := X.out.size
    have hl5 := E5.out.lt
    replace RR := Lib.hid r7
    replace X := Lib.hid (X.out.trans x7)
    replace E2 := Lib.hid (E2.out.ext x7 (by omega) (fun k hk => hk.elim))
    have RX := Lib.hid (rx.mono (D' := (fun k => w.heap.size ≤ k ∧ k ≠ w.heap.size)) (fun m hm => by rcases hm with h | h <;> omega))
    have FX := Lib.hid ((allE_eq _ _).1 fx)
    have HQ7 : Hid (q7 ≤ p + 300010000) := by show _ ≤ _; have h2 := HB.out.2; have h3 := hq.out; omega
    clear rx fx r7 hq7 x7 e0 e1 e2
    have c0 := E2.out.v0
    have c1 := E2.out.v1
    have c2 := E2.out.v2
    have g0 := E2.out.g0
    have g1 := E2.out.g1
    have g2 := E2.out.g2
    have u0 := E2.out.v0
    have u1 := E2.out.v1
    have u2 := E2.out.v2
    go_wp2_with fail
    refine bodyPost_ret (v := .agg #[.int .i64 x.op, .int .i64 x.num, .slice ax nx cx]) (by simp [results, Try.results55, go_sem, u0, u1, u2]) rfl (fin_ hQ ?_)
    exact gen_finS (ks := x.kids) X.out RR.out hBw (Nat.le_refl _) RX.out FX.out.1 FX.out.2 HQ7.out
  have t0 : (v == 0) = false := by rw [beq_eq_false_iff_ne]; exact hv0c
  by_cases hv1c : v = 1
  · subst hv1c
    have e0 := E5.out.v0
    have e1 := E5.out.v1
    have e2 := E5.out.v2
    have hl5 := E5.out.lt
    have hws := X.out.size
    have RL := Lib.hid (lit_expr2 wq (fun k => w.heap.size ≤ k ∧ k ≠ w.heap.size) 25 y y ay ny cy ay ny cy (by omega) (E5.out.k.mono (fun k hk => by omega)) (E5.out.k.mono (fun k hk => by omega)))
    have KL := Keep.al wq (.cells #[.int .i64 y.op, .int .i64 y.num, .slice ay ny cy, .int .i64 y.op, .int .i64 y.num, .slice ay ny cy] 25)
    go_wp2_with fail
    refine (specNodeG _ _ _ _ _ _).mono ?_
    rintro e w7 ⟨rfl, k7⟩
    have K7 := KL.trans k7
    replace RR := Lib.hid (RR.out.keep K7)
    replace X := Lib.hid (X.out.trans (Keep.to K7))
    replace E2 := Lib.hid (E2.out.keep K7)
    replace RL := Lib.hid (RL.out.k k7)
    clear k7 KL K7 e0 e1 e2
    have c0 := E2.out.v0
    have c1 := E2.out.v1
    have c2 := E2.out.v2
    have g0 := E2.out.g0
    have g1 := E2.out.g1
    have g2 := E2.out.g2
    have u0 := E2.out.v0
    have u1 := E2.out.v1
    have u2 := E2.out.v2
    go_wp2_with fail
    refine bodyPost_ret (v := .agg #[.int .i64 1, .int .i64 0, .slice (some ⟨wq.heap.size, 0, none⟩) 2 2]) (by simp [results, Try.results55, go_sem, u0, u1, u2]) rfl (fin_ hQ ?_)
    exact gen_finS (ks := [y, y]) X.out RR.out hBw (Nat.le_refl _) RL.out ⟨by omega, by omega⟩ ⟨FY.out, FY.out, trivial⟩ (by have := hq.out; omega)
  have t1 : (v == 1) = false := by rw [beq_eq_false_iff_ne]; exact hv1c
  by_cases hv2c : v = 2
  · subst hv2c
    go_upto_region 9 with fail
    have KD : Keep wq wq.drew := (Ext.refl (fun _ => False) wq).drew
    replace E5 := Lib.hid (E5.out.keep KD)
    replace E2 := Lib.hid (E2.out.keep KD)
    replace RR := Lib.hid (RR.out.keep KD)
    replace X := Lib.hid (X.out.trans (Keep.to KD))
    have e0 : wq.drew.cell? ⟨s5, 0, none⟩ = some (.int .i64 y.op) := E5.out.v0
    have e1 : wq.drew.cell? ⟨s5, 1, none⟩ = some (.int .i64 y.num) := E5.out.v1
    have e2 : wq.drew.cell? ⟨s5, 2, none⟩ = some (.slice ay ny cy) := E5.out.v2
    have hws := X.out.size
    clear KD
    refine wp_region_held_drew (S := fun w' => w'.cell? ⟨s5, 0, none⟩ = some (.int .i64 y.op) ∧ w'.cell? ⟨s5, 1, none⟩ = some (.int .i64 y.num) ∧ w'.cell? ⟨s5, 2, none⟩ = some (.slice ay ny cy)) (by kernel_rfl) ⟨e0, e1, e2⟩ (fun hHeld => ?_)
    have pc : Hid (Ext (· = g) wq.drew wq.drew) := Ext.refl _ _
    generalize wq.drew = W0 at *
    refine wpAnyH_takeL (i := 0) (v := ?_) rfl (by kernel_rfl) (by kernel_rfl) (by kernel_rfl) (fun _ _ _ h => h) (by rfl) hHeld ?_ ?_
    rotate_left
    · (intro w hSw; (try dsimp only at hSw); go_simp; (try with_reducible rfl))
    try simp only [Act.put, List.setIfInBounds_toArray, List.set_cons_zero, List.set_cons_succ]
    refine wpAnyH_takeL (i := 1) (v := ?_) rfl (by kernel_rfl) (by kernel_rfl) (by kernel_rfl) (fun _ _ _ h => h) (by rfl) hHeld ?_ ?_
    rotate_left
    · (intro w hSw; (try dsimp only at hSw); go_simp; (try with_reducible rfl))
    try simp only [Act.put, List.setIfInBounds_toArray, List.set_cons_zero, List.set_cons_succ]
    refine wpAnyH_takeL (i := 2) (v := ?_) rfl (by kernel_rfl) (by kernel_rfl) (by kernel_rfl) (fun _ _ _ h => h) (by rfl) hHeld ?_ ?_
    rotate_left
    · (intro w hSw; (try dsimp only at hSw); go_simp; (try with_reducible rfl))
    try simp only [Act.put, List.setIfInBounds_toArray, List.set_cons_zero, List.set_cons_succ]
    refine wpAnyH_oneL (i := 3) rfl (by kernel_rfl) (by rfl) (fun K hK => ?_)
    go_simp
    obtain ⟨sy1, hsy1⟩ : ∃ s, s = W0.heap.size := ⟨_, rfl⟩
    obtain ⟨y1, hW⟩ : ∃ N, N = W0.alloc (.cells #[.int .i64 y.op, .int .i64 y.num, .slice ay ny cy, .int .i64 y.op, .int .i64 y.num, .slice ay ny cy] 25) := ⟨_, rfl⟩
    rw [← hsy1, ← hW]
    have kk : Keep W0 y1 := by rw [hW]; exact Keep.al _ _
    have hzy1 : W0.heap.size + 1 ≤ y1.heap.size := by rw [hW]; exact Nat.le_of_eq (World.size_alloc _ _).symm
    have hisy1 : W0.heap.size ≤ sy1 := by omega
    have hlt := E5.out.lt
    have hpz := pc.out.size
    have RL : Hid (Rd y1 (fun k => w.heap.size ≤ k ∧ k ≠ w.heap.size) (encExprs [y, y]) (.slice (some ⟨sy1, 0, none⟩) 2 2)) := by
      rw [hW, hsy1]
      exact lit_expr2 W0 (fun k => w.heap.size ≤ k ∧ k ≠ w.heap.size) 25 y y ay ny cy ay ny cy (by omega) (E5.out.k.mono (fun k hk => by omega)) (E5.out.k.mono (fun k hk => by omega))
    replace pc := Lib.hid (pc.out.trans (Keep.to kk))
    replace E5 := Lib.hid (E5.out.keep kk)
    replace E2 := Lib.hid (E2.out.keep kk)
    replace RR := Lib.hid (RR.out.keep kk)
    clear kk hW hsy1
    clear hlt hpz
    refine hK.out _ _ ⟨pc.out.at e0 h5g, pc.out.at e1 h5g, pc.out.at e2 h5g⟩ (fun hHeld => ?_)
    clear hK K
    try simp only [Act.put, List.setIfInBounds_toArray, List.set_cons_zero, List.set_cons_succ]
    refine wpAnyH_oneL (i := 4) rfl (by kernel_rfl) (by rfl) (fun K hK => ?_)
    go_simp
    go_at_call 92
    refine (specNodeG 1 0 _ _ _ _).mono ?_
    rintro e y2 ⟨rfl, xi⟩
    replace pc := Lib.hid (pc.out.trans (Keep.to xi))
    replace E5 := Lib.hid (E5.out.keep xi)
    replace E2 := Lib.hid (E2.out.keep xi)
    replace RR := Lib.hid (RR.out.keep xi)
    replace RL := Lib.hid (RL.out.k xi)
    clear xi
    refine hK.out _ _ ⟨pc.out.at e0 h5g, pc.out.at e1 h5g, pc.out.at e2 h5g⟩ (fun hHeld => ?_)
    clear hK K
    try simp only [Act.put, List.setIfInBounds_toArray, List.set_cons_zero, List.set_cons_succ]
    refine wpAnyH_oneL (i := 5) rfl (by kernel_rfl) (by rfl) (fun K hK => ?_)
    go_simp
    obtain ⟨sy3, hsy3⟩ : ∃ s, s = y2.heap.size := ⟨_, rfl⟩
    obtain ⟨y3, hW⟩ : ∃ N, N = y2.alloc (.cells #[.int .i64 y.op, .int .i64 y.num, .slice ay ny cy, .int .i64 1, .int .i64 0, .slice (some ⟨sy1, 0, none⟩) 2 2] 25) := ⟨_, rfl⟩
    rw [← hsy3, ← hW]
    have kk : Keep y2 y3 := by rw [hW]; exact Keep.al _ _
    have hzy3 : y2.heap.size + 1 ≤ y3.heap.size := by rw [hW]; exact Nat.le_of_eq (World.size_alloc _ _).symm
    have hisy3 : y2.heap.size ≤ sy3 := by omega
    have hlt := E5.out.lt
    have hpz := pc.out.size
    have RM : Hid (Rd y3 (fun k => w.heap.size ≤ k ∧ k ≠ w.heap.size) (encExprs [y, (.mk 1 0 [y, y])]) (.slice (some ⟨sy3, 0, none⟩) 2 2)) := by
      rw [hW, hsy3]
      exact lit_expr2 y2 (fun k => w.heap.size ≤ k ∧ k ≠ w.heap.size) 25 y (.mk 1 0 [y, y]) ay ny cy (some ⟨sy1, 0, none⟩) 2 2 (by omega) (E5.out.k.mono (fun k hk => by omega)) RL.out
    replace pc := Lib.hid (pc.out.trans (Keep.to kk))
    replace E5 := Lib.hid (E5.out.keep kk)
    replace E2 := Lib.hid (E2.out.keep kk)
    replace RR := Lib.hid (RR.out.keep kk)
    replace RL := Lib.hid (RL.out.k kk)
    clear kk hW hsy3
    clear hlt hpz
    refine hK.out _ _ ⟨pc.out.at e0 h5g, pc.out.at e1 h5g, pc.out.at e2 h5g⟩ (fun hHeld => ?_)
    clear hK K
    try simp only [Act.put, List.setIfInBounds_toArray, List.set_cons_zero, List.set_cons_succ]
    refine wpAnyH_oneL (i := 6) rfl (by kernel_rfl) (by rfl) (fun K hK => ?_)
    go_simp
    go_at_call 92
    refine (specNodeG 13 0 _ _ _ _).mono ?_
    rintro e y4 ⟨rfl, xi⟩
    replace pc := Lib.hid (pc.out.trans (Keep.to xi))
    replace E5 := Lib.hid (E5.out.keep xi)
    replace E2 := Lib.hid (E2.out.keep xi)
    replace RR := Lib.hid (RR.out.keep xi)
    replace RL := Lib.hid (RL.out.k xi)
    replace RM := Lib.hid (RM.out.k xi)
    clear xi
    refine hK.out _ _ ⟨pc.out.at e0 h5g, pc.out.at e1 h5g, pc.out.at e2 h5g⟩ (fun hHeld => ?_)
    clear hK K
    try simp only [Act.put, List.setIfInBounds_toArray, List.set_cons_zero, List.set_cons_succ]
    refine wpAnyH_oneL (i := 7) rfl (by kernel_rfl) (by rfl) (fun K hK => ?_)
    have c0 := E2.out.v0
    have c1 := E2.out.v1
    have c2 := E2.out.v2
    have g0 := E2.out.g0
    have g1 := E2.out.g1
    have g2 := E2.out.g2
    go_simp
    refine hK.out _ _ ⟨at_set3 (pc.out.at e0 h5g) h5w, at_set3 (pc.out.at e1 h5g) h5w, at_set3 (pc.out.at e2 h5g) h5w⟩ (fun hHeld => ?_)
    clear hK K
    try simp only [Act.put, List.setIfInBounds_toArray, List.set_cons_zero, List.set_cons_succ]
    refine wpAnyH_done (by kernel_rfl) ?_ _
    have u0 := E2.out.v0
    have u1 := E2.out.v1
    have u2 := E2.out.v2
    go_wp2_with fail
    refine bodyPost_ret (v := .agg #[.int .i64 13, .int .i64 0, .slice (some ⟨sy3, 0, none⟩) 2 2]) (by simp [results, Try.results55, go_sem, u0, u1, u2]) rfl (fin_ hQ ?_)
    exact gen_finS (ks := [y, .mk 1 0 [y, y]]) (X.out.trans pc.out) RR.out hBw (Nat.le_refl _) RM.out ⟨by omega, by omega⟩ ⟨FY.out, ⟨⟨by omega, by omega⟩, FY.out, FY.out, trivial⟩, trivial⟩ (by have := hq.out; omega)
  have t2 : (v == 2) = false := by rw [beq_eq_false_iff_ne]; exact hv2c
  have e0 := E5.out.v0
  have e1 := E5.out.v1
  have e2 := E5.out.v2
  have RX := Lib.hid (E5.out.k.mono (D' := (fun k => w.heap.size ≤ k ∧ k ≠ w.heap.size)) (fun m hm => by omega))
  have FX := Lib.hid ((allE_eq _ _).1 FY.out)
  have c0 := E2.out.v0
  have c1 := E2.out.v1
  have c2 := E2.out.v2
  have g0 := E2.out.g0
  have g1 := E2.out.g1
  have g2 := E2.out.g2
  have u0 := E2.out.v0
  have u1 := E2.out.v1
  have u2 := E2.out.v2
  go_wp2_with fail
  refine bodyPost_ret (v := .agg #[.int .i64 y.op, .int .i64 y.num, .slice ay ny cy]) (by simp [results, Try.results55, go_sem, u0, u1, u2]) rfl (fin_ hQ ?_)
  exact gen_finS (ks := y.kids) X.out RR.out hBw (Nat.le_refl _) RX.out FX.out.1 FX.out.2 (by have := hq.out; omega)
end Go.Proofs.Ytomgellcpjimjaa
/- What the laws draw: expressions, with numbers; programs, with a number. -/
namespace Go.Proofs.Ytomgellcpjimjaa
open Go.RowKit

set_option maxRecDepth 100000 in
set_option maxHeartbeats 2000000 in
theorem DrawNodesOf_any (a : Option Addr) (len cap : Nat) (z : Nat → Int) (w : World) (h : Byt w a len z) (hlc : len ≤ cap) (hl : len ≤ 1048576) :
    Calls Try.prog 20 #[.slice a len cap] w fun e w' => ∃ (x : ExprL) (ax : Option Addr) (nx cx : Nat), e = .returned (.agg #[.int .i64 x.op, .int .i64 x.num, .slice ax nx cx]) ∧ Rd w' (fun k => w.heap.size ≤ k) (encExprs x.kids) (.slice ax nx cx) ∧ Keep w w' := by
  refine calls_k fun Q hQ => ?_
  have K1 := Keep.al w (.cells #[.int .i64 0, .int .i64 0, .slice none 0 0] 25)
  have h1 := Lib.hid (h.ext K1 (fun _ _ _ h => h))
  have hz0 : (w.alloc (.cells #[.int .i64 0, .int .i64 0, .slice none 0 0] 25)).heap.size = w.heap.size + 1 := World.size_alloc _ _
  have BR0 := Lib.hid (Ev.born w (fun _ => False) (.mk 0 0 []) none 0 0 (.nil 3 _ _))
  have KK := Lib.hid K1
  clear h K1
  go_enter Try.func20, Try.ntmps20
  go_upto_region 1 with fail
  replace BR0 : Hid (Ev (w.alloc (.cells #[.int .i64 0, .int .i64 0, .slice none 0 0] 25)) w.heap.size (fun _ => False) (.mk 0 0 []) none 0 0) := BR0
  generalize hW : w.alloc (.cells #[.int .i64 0, .int .i64 0, .slice none 0 0] 25) = W1 at *
  clear hW
  go_wp2_with fail
  refine (newReaderX a len cap z W1 h1.out hlc hl).mono ?_
  rintro e w1 ⟨g, hg, rfl, r1, k1⟩
  have hs1 := k1.size
  have hgB := r1.gB
  have BR1 := Lib.hid (BR0.out.keep k1)
  clear BR0
  have KK1 := Lib.hid (KK.out.trans k1)
  clear KK h1 k1
  go_wp2_with fail
  refine (specSomeExpr w1.heap.size g 0 w1 r1 (Nat.le_refl _) (by omega)).mono ?_
  rintro e w2 ⟨x, ax, nx, cx, q, rfl, rx, fx, r2, hq, x2⟩
  have hs2 := x2.size
  have BR := Lib.hid (BR1.out.ext x2 (by omega) (fun k hk => hk.elim))
  have u0 := BR.out.v0
  have u1 := BR.out.v1
  have u2 := BR.out.v2
  have g0 := BR.out.g0
  have g1 := BR.out.g1
  have g2 := BR.out.g2
  have Y := ext3 w2 w.heap.size (.int .i64 x.op) (.int .i64 x.num) (.slice ax nx cx)
  have RE := Lib.hid (rx.ext Y (fun k hk h => by omega))
  have KE := Lib.hid ((KK1.out.then_ x2 (fun k hk h => by omega)).then_ Y (fun k hk h => by omega))
  clear rx fx r2 hq x2 r1
  go_wp2_with fail
  refine bodyPost_ret (v := .agg #[.int .i64 x.op, .int .i64 x.num, .slice ax nx cx]) (by simp [results, Try.results20, go_sem, u0, u1, u2]) rfl (fin_ hQ ?_)
  exact ⟨x, ax, nx, cx, rfl, RE.out.mono (fun k hk => by omega), KE.out⟩

set_option maxRecDepth 100000 in
set_option maxHeartbeats 2000000 in
theorem DrawMentionsOf_any (a : Option Addr) (len cap : Nat) (z : Nat → Int) (w : World) (h : Byt w a len z) (hlc : len ≤ cap) (hl : len ≤ 1048576) :
    Calls Try.prog 24 #[.slice a len cap] w fun e w' => ∃ (x : ExprL) (ax : Option Addr) (nx cx : Nat) (v1 : Int), e = .returned (.tuple #[.agg #[.int .i64 x.op, .int .i64 x.num, .slice ax nx cx], .int .i64 v1]) ∧ v1 ∈ ([0, 1, 2, 3, 0, -1] : List Int) ∧ Rd w' (fun k => w.heap.size ≤ k) (encExprs x.kids) (.slice ax nx cx) ∧ Keep w w' := by
  refine calls_k fun Q hQ => ?_
  have K1 := Keep.al w (.cells #[.int .i64 0, .int .i64 0, .slice none 0 0] 25)
  have h1 := Lib.hid (h.ext K1 (fun _ _ _ h => h))
  have hz0 : (w.alloc (.cells #[.int .i64 0, .int .i64 0, .slice none 0 0] 25)).heap.size = w.heap.size + 1 := World.size_alloc _ _
  have BR0 := Lib.hid (Ev.born w (fun _ => False) (.mk 0 0 []) none 0 0 (.nil 3 _ _))
  have KK := Lib.hid K1
  clear h K1
  go_enter Try.func24, Try.ntmps24
  go_upto_region 1 with fail
  replace BR0 : Hid (Ev (w.alloc (.cells #[.int .i64 0, .int .i64 0, .slice none 0 0] 25)) w.heap.size (fun _ => False) (.mk 0 0 []) none 0 0) := BR0
  generalize hW : w.alloc (.cells #[.int .i64 0, .int .i64 0, .slice none 0 0] 25) = W1 at *
  clear hW
  go_wp2_with fail
  refine (newReaderX a len cap z W1 h1.out hlc hl).mono ?_
  rintro e w1 ⟨g, hg, rfl, r1, k1⟩
  have hs1 := k1.size
  have hgB := r1.gB
  have BR1 := Lib.hid (BR0.out.keep k1)
  clear BR0
  have KK1 := Lib.hid (KK.out.trans k1)
  clear KK h1 k1
  go_wp2_with fail
  refine (specSomeExpr w1.heap.size g 0 w1 r1 (Nat.le_refl _) (by omega)).mono ?_
  rintro e w2 ⟨x, ax, nx, cx, q, rfl, rx, fx, r2, hq, x2⟩
  have hs2 := x2.size
  have K2 := Keep.al w2 (.cells #[.int .i64 x.op, .int .i64 x.num, .slice ax nx cx] 25)
  have RR := Lib.hid (r2.keep K2)
  have HQ : Hid (q ≤ 300010000) := by show _ ≤ _; omega
  have X := Lib.hid (x2.trans (Keep.to K2))
  have BR := Lib.hid ((BR1.out.ext x2 (by omega) (fun k hk => hk.elim)).keep K2)
  have E5 := Lib.hid (Ev.born w2 (fun m => w1.heap.size ≤ m) x ax nx cx rx)
  have FX := Lib.hid fx
  clear rx fx r2 hq x2 K2 BR1 r1
  go_upto_region 3 with fail
  generalize hW : w2.alloc (.cells #[.int .i64 x.op, .int .i64 x.num, .slice ax nx cx] 25) = wq at *
  clear hW
  generalize hS : w2.heap.size = s5 at *
  clear hS
  have h5g : s5 ≠ g := by omega
  have h5w : s5 ≠ w.heap.size := by omega
  have KD : Keep wq wq.drew := (Ext.refl (fun _ => False) wq).drew
  replace RR := Lib.hid (RR.out.keep KD)
  replace X := Lib.hid (X.out.trans (Keep.to KD))
  replace BR := Lib.hid (BR.out.keep KD)
  replace E5 := Lib.hid (E5.out.keep KD)
  have e0 : wq.drew.cell? ⟨s5, 0, none⟩ = some (.int .i64 x.op) := E5.out.v0
  have e1 : wq.drew.cell? ⟨s5, 1, none⟩ = some (.int .i64 x.num) := E5.out.v1
  have e2 : wq.drew.cell? ⟨s5, 2, none⟩ = some (.slice ax nx cx) := E5.out.v2
  have hws := X.out.size
  clear KD
  refine wp_region_held_drew (S := fun w' => w'.cell? ⟨s5, 0, none⟩ = some (.int .i64 x.op) ∧ w'.cell? ⟨s5, 1, none⟩ = some (.int .i64 x.num) ∧ w'.cell? ⟨s5, 2, none⟩ = some (.slice ax nx cx)) (by kernel_rfl) ⟨e0, e1, e2⟩ (fun hHeld => ?_)
  have pc : Hid (Ext (· = g) wq.drew wq.drew) := Ext.refl _ _
  generalize wq.drew = W0 at *
  refine wpAnyH_takeL (i := 0) (v := ?_) rfl (by kernel_rfl) (by kernel_rfl) (by kernel_rfl) (fun _ _ _ h => h) (by rfl) hHeld ?_ ?_
  rotate_left
  · (intro w hSw; (try dsimp only at hSw); go_simp; (try with_reducible rfl))
  try simp only [Act.put, List.setIfInBounds_toArray, List.set_cons_zero, List.set_cons_succ]
  refine wpAnyH_takeL (i := 1) (v := ?_) rfl (by kernel_rfl) (by kernel_rfl) (by kernel_rfl) (fun _ _ _ h => h) (by rfl) hHeld ?_ ?_
  rotate_left
  · (intro w hSw; (try dsimp only at hSw); go_simp; (try with_reducible rfl))
  try simp only [Act.put, List.setIfInBounds_toArray, List.set_cons_zero, List.set_cons_succ]
  refine wpAnyH_oneL (i := 2) rfl (by kernel_rfl) (by rfl) (fun K hK => ?_)
  go_simp
  obtain ⟨sy1, hsy1⟩ : ∃ s, s = W0.heap.size := ⟨_, rfl⟩
  obtain ⟨y1, hW⟩ : ∃ N, N = W0.alloc (.cells #[.int .i64 0, .int .i64 1, .int .i64 2, .int .i64 3, .int .i64 0, .int .i64 (-1)] 3) := ⟨_, rfl⟩
  rw [← hsy1, ← hW]
  have kk : Keep W0 y1 := by rw [hW]; exact Keep.al _ _
  have hzy1 : W0.heap.size + 1 ≤ y1.heap.size := by rw [hW]; exact Nat.le_of_eq (World.size_alloc _ _).symm
  have hisy1 : W0.heap.size ≤ sy1 := by omega
  have hpz := pc.out.size
  have TY : Hid (Rd y1 (fun k => k ≠ g) (encInts [0, 1, 2, 3, 0, -1]) (.slice (some ⟨sy1, 0, none⟩) 6 6)) := by
    rw [hW, hsy1]
    exact lit_intsD W0 (fun k => k ≠ g) 3 [0, 1, 2, 3, 0, -1] #[.int .i64 0, .int .i64 1, .int .i64 2, .int .i64 3, .int .i64 0, .int .i64 (-1)] 6 (by omega) rfl rfl (by omega)
  replace pc := Lib.hid (pc.out.trans (Keep.to kk))
  replace BR := Lib.hid (BR.out.keep kk)
  replace E5 := Lib.hid (E5.out.keep kk)
  replace RR := Lib.hid (RR.out.keep kk)
  clear kk hW hsy1
  clear hpz
  refine hK.out _ _ ⟨pc.out.at e0 h5g, pc.out.at e1 h5g, pc.out.at e2 h5g⟩ (fun hHeld => ?_)
  clear hK K
  try simp only [Act.put, List.setIfInBounds_toArray, List.set_cons_zero, List.set_cons_succ]
  refine wpAnyH_oneL (i := 3) rfl (by kernel_rfl) (by rfl) (fun K hK => ?_)
  go_simp
  go_at_call 59
  refine (oneX w1.heap.size g _ _ 6 6 [0, 1, 2, 3, 0, -1] (fun k => k ≠ g) y1 RR.out (by have := HQ.out; omega) TY.out.toInts (by omega) (by omega) (fun h => h rfl)).mono ?_
  rintro e y2 ⟨v1, hv, rfl, r6, xi⟩
  replace pc := Lib.hid (pc.out.trans xi)
  replace BR := Lib.hid (BR.out.ext xi (by omega) (fun k hk => by first | exact (hk : False).elim | omega))
  replace E5 := Lib.hid (E5.out.ext xi (by omega) (fun k hk => by first | exact (hk : False).elim | omega))
  replace TY := Lib.hid (TY.out.ext xi (fun k hk => by omega))
  replace RR := Lib.hid r6
  have HVv1 := Lib.hid hv
  clear hv r6 xi
  refine hK.out _ _ ⟨pc.out.at e0 h5g, pc.out.at e1 h5g, pc.out.at e2 h5g⟩ (fun hHeld => ?_)
  clear hK K
  try simp only [Act.put, List.setIfInBounds_toArray, List.set_cons_zero, List.set_cons_succ]
  refine wpAnyH_oneL (i := 4) rfl (by kernel_rfl) (by rfl) (fun K hK => ?_)
  have c0 := BR.out.v0
  have c1 := BR.out.v1
  have c2 := BR.out.v2
  have g0 := BR.out.g0
  have g1 := BR.out.g1
  have g2 := BR.out.g2
  go_simp
  refine hK.out _ _ ⟨at_set3 (pc.out.at e0 h5g) h5w, at_set3 (pc.out.at e1 h5g) h5w, at_set3 (pc.out.at e2 h5g) h5w⟩ (fun hHeld => ?_)
  clear hK K
  try simp only [Act.put, List.setIfInBounds_toArray, List.set_cons_zero, List.set_cons_succ]
  refine wpAnyH_takeL (i := 5) (v := ?_) rfl (by kernel_rfl) (by kernel_rfl) (by kernel_rfl) (fun _ _ _ h => h) (by rfl) hHeld ?_ ?_
  rotate_left
  · (intro w hSw; (try dsimp only at hSw); go_simp; (try with_reducible rfl))
  try simp only [Act.put, List.setIfInBounds_toArray, List.set_cons_zero, List.set_cons_succ]
  refine wpAnyH_done (by kernel_rfl) ?_ _
  have u0 := BR.out.v0
  have u1 := BR.out.v1
  have u2 := BR.out.v2
  have Y := ext3 y2 w.heap.size (.int .i64 x.op) (.int .i64 x.num) (.slice ax nx cx)
  have RE := Lib.hid (E5.out.k.ext Y (fun k hk h => by omega))
  have KE := Lib.hid (((KK1.out.then_ X.out (fun k hk h => by omega)).then_ pc.out (fun k hk h => by omega)).then_ Y (fun k hk h => by omega))
  go_wp2_with fail
  refine bodyPost_ret (v := .tuple #[.agg #[.int .i64 x.op, .int .i64 x.num, .slice ax nx cx], .int .i64 v1]) (by simp [results, Try.results24, go_sem, u0, u1, u2]) rfl (fin_ hQ ?_)
  exact ⟨x, ax, nx, cx, v1, rfl, HVv1.out, RE.out.mono (fun k hk => by omega), KE.out⟩

set_option maxRecDepth 100000 in
set_option maxHeartbeats 2000000 in
theorem DrawFreeOf_any (a : Option Addr) (len cap : Nat) (z : Nat → Int) (w : World) (h : Byt w a len z) (hlc : len ≤ cap) (hl : len ≤ 1048576) :
    Calls Try.prog 35 #[.slice a len cap] w fun e w' => ∃ (x : ExprL) (ax : Option Addr) (nx cx : Nat) (v1 : Int), e = .returned (.tuple #[.agg #[.int .i64 x.op, .int .i64 x.num, .slice ax nx cx], .int .i64 v1]) ∧ v1 ∈ ([1, 2, 3, 0, 5, -1, 99] : List Int) ∧ Rd w' (fun k => w.heap.size ≤ k) (encExprs x.kids) (.slice ax nx cx) ∧ Keep w w' := by
  refine calls_k fun Q hQ => ?_
  have K1 := Keep.al w (.cells #[.int .i64 0, .int .i64 0, .slice none 0 0] 25)
  have h1 := Lib.hid (h.ext K1 (fun _ _ _ h => h))
  have hz0 : (w.alloc (.cells #[.int .i64 0, .int .i64 0, .slice none 0 0] 25)).heap.size = w.heap.size + 1 := World.size_alloc _ _
  have BR0 := Lib.hid (Ev.born w (fun _ => False) (.mk 0 0 []) none 0 0 (.nil 3 _ _))
  have KK := Lib.hid K1
  clear h K1
  go_enter Try.func35, Try.ntmps35
  go_upto_region 1 with fail
  replace BR0 : Hid (Ev (w.alloc (.cells #[.int .i64 0, .int .i64 0, .slice none 0 0] 25)) w.heap.size (fun _ => False) (.mk 0 0 []) none 0 0) := BR0
  generalize hW : w.alloc (.cells #[.int .i64 0, .int .i64 0, .slice none 0 0] 25) = W1 at *
  clear hW
  go_wp2_with fail
  refine (newReaderX a len cap z W1 h1.out hlc hl).mono ?_
  rintro e w1 ⟨g, hg, rfl, r1, k1⟩
  have hs1 := k1.size
  have hgB := r1.gB
  have BR1 := Lib.hid (BR0.out.keep k1)
  clear BR0
  have KK1 := Lib.hid (KK.out.trans k1)
  clear KK h1 k1
  go_wp2_with fail
  refine (specSomeExpr w1.heap.size g 0 w1 r1 (Nat.le_refl _) (by omega)).mono ?_
  rintro e w2 ⟨x, ax, nx, cx, q, rfl, rx, fx, r2, hq, x2⟩
  have hs2 := x2.size
  have K2 := Keep.al w2 (.cells #[.int .i64 x.op, .int .i64 x.num, .slice ax nx cx] 25)
  have RR := Lib.hid (r2.keep K2)
  have HQ : Hid (q ≤ 300010000) := by show _ ≤ _; omega
  have X := Lib.hid (x2.trans (Keep.to K2))
  have BR := Lib.hid ((BR1.out.ext x2 (by omega) (fun k hk => hk.elim)).keep K2)
  have E5 := Lib.hid (Ev.born w2 (fun m => w1.heap.size ≤ m) x ax nx cx rx)
  have FX := Lib.hid fx
  clear rx fx r2 hq x2 K2 BR1 r1
  go_upto_region 3 with fail
  generalize hW : w2.alloc (.cells #[.int .i64 x.op, .int .i64 x.num, .slice ax nx cx] 25) = wq at *
  clear hW
  generalize hS : w2.heap.size = s5 at *
  clear hS
  have h5g : s5 ≠ g := by omega
  have h5w : s5 ≠ w.heap.size := by omega
  have KD : Keep wq wq.drew := (Ext.refl (fun _ => False) wq).drew
  replace RR := Lib.hid (RR.out.keep KD)
  replace X := Lib.hid (X.out.trans (Keep.to KD))
  replace BR := Lib.hid (BR.out.keep KD)
  replace E5 := Lib.hid (E5.out.keep KD)
  have e0 : wq.drew.cell? ⟨s5, 0, none⟩ = some (.int .i64 x.op) := E5.out.v0
  have e1 : wq.drew.cell? ⟨s5, 1, none⟩ = some (.int .i64 x.num) := E5.out.v1
  have e2 : wq.drew.cell? ⟨s5, 2, none⟩ = some (.slice ax nx cx) := E5.out.v2
  have hws := X.out.size
  clear KD
  refine wp_region_held_drew (S := fun w' => w'.cell? ⟨s5, 0, none⟩ = some (.int .i64 x.op) ∧ w'.cell? ⟨s5, 1, none⟩ = some (.int .i64 x.num) ∧ w'.cell? ⟨s5, 2, none⟩ = some (.slice ax nx cx)) (by kernel_rfl) ⟨e0, e1, e2⟩ (fun hHeld => ?_)
  have pc : Hid (Ext (· = g) wq.drew wq.drew) := Ext.refl _ _
  generalize wq.drew = W0 at *
  refine wpAnyH_takeL (i := 0) (v := ?_) rfl (by kernel_rfl) (by kernel_rfl) (by kernel_rfl) (fun _ _ _ h => h) (by rfl) hHeld ?_ ?_
  rotate_left
  · (intro w hSw; (try dsimp only at hSw); go_simp; (try with_reducible rfl))
  try simp only [Act.put, List.setIfInBounds_toArray, List.set_cons_zero, List.set_cons_succ]
  refine wpAnyH_takeL (i := 1) (v := ?_) rfl (by kernel_rfl) (by kernel_rfl) (by kernel_rfl) (fun _ _ _ h => h) (by rfl) hHeld ?_ ?_
  rotate_left
  · (intro w hSw; (try dsimp only at hSw); go_simp; (try with_reducible rfl))
  try simp only [Act.put, List.setIfInBounds_toArray, List.set_cons_zero, List.set_cons_succ]
  refine wpAnyH_oneL (i := 2) rfl (by kernel_rfl) (by rfl) (fun K hK => ?_)
  go_simp
  obtain ⟨sy1, hsy1⟩ : ∃ s, s = W0.heap.size := ⟨_, rfl⟩
  obtain ⟨y1, hW⟩ : ∃ N, N = W0.alloc (.cells #[.int .i64 1, .int .i64 2, .int .i64 3, .int .i64 0, .int .i64 5, .int .i64 (-1), .int .i64 99] 3) := ⟨_, rfl⟩
  rw [← hsy1, ← hW]
  have kk : Keep W0 y1 := by rw [hW]; exact Keep.al _ _
  have hzy1 : W0.heap.size + 1 ≤ y1.heap.size := by rw [hW]; exact Nat.le_of_eq (World.size_alloc _ _).symm
  have hisy1 : W0.heap.size ≤ sy1 := by omega
  have hpz := pc.out.size
  have TY : Hid (Rd y1 (fun k => k ≠ g) (encInts [1, 2, 3, 0, 5, -1, 99]) (.slice (some ⟨sy1, 0, none⟩) 7 7)) := by
    rw [hW, hsy1]
    exact lit_intsD W0 (fun k => k ≠ g) 3 [1, 2, 3, 0, 5, -1, 99] #[.int .i64 1, .int .i64 2, .int .i64 3, .int .i64 0, .int .i64 5, .int .i64 (-1), .int .i64 99] 7 (by omega) rfl rfl (by omega)
  replace pc := Lib.hid (pc.out.trans (Keep.to kk))
  replace BR := Lib.hid (BR.out.keep kk)
  replace E5 := Lib.hid (E5.out.keep kk)
  replace RR := Lib.hid (RR.out.keep kk)
  clear kk hW hsy1
  clear hpz
  refine hK.out _ _ ⟨pc.out.at e0 h5g, pc.out.at e1 h5g, pc.out.at e2 h5g⟩ (fun hHeld => ?_)
  clear hK K
  try simp only [Act.put, List.setIfInBounds_toArray, List.set_cons_zero, List.set_cons_succ]
  refine wpAnyH_oneL (i := 3) rfl (by kernel_rfl) (by rfl) (fun K hK => ?_)
  go_simp
  go_at_call 59
  refine (oneX w1.heap.size g _ _ 7 7 [1, 2, 3, 0, 5, -1, 99] (fun k => k ≠ g) y1 RR.out (by have := HQ.out; omega) TY.out.toInts (by omega) (by omega) (fun h => h rfl)).mono ?_
  rintro e y2 ⟨v1, hv, rfl, r6, xi⟩
  replace pc := Lib.hid (pc.out.trans xi)
  replace BR := Lib.hid (BR.out.ext xi (by omega) (fun k hk => by first | exact (hk : False).elim | omega))
  replace E5 := Lib.hid (E5.out.ext xi (by omega) (fun k hk => by first | exact (hk : False).elim | omega))
  replace TY := Lib.hid (TY.out.ext xi (fun k hk => by omega))
  replace RR := Lib.hid r6
  have HVv1 := Lib.hid hv
  clear hv r6 xi
  refine hK.out _ _ ⟨pc.out.at e0 h5g, pc.out.at e1 h5g, pc.out.at e2 h5g⟩ (fun hHeld => ?_)
  clear hK K
  try simp only [Act.put, List.setIfInBounds_toArray, List.set_cons_zero, List.set_cons_succ]
  refine wpAnyH_oneL (i := 4) rfl (by kernel_rfl) (by rfl) (fun K hK => ?_)
  have c0 := BR.out.v0
  have c1 := BR.out.v1
  have c2 := BR.out.v2
  have g0 := BR.out.g0
  have g1 := BR.out.g1
  have g2 := BR.out.g2
  go_simp
  refine hK.out _ _ ⟨at_set3 (pc.out.at e0 h5g) h5w, at_set3 (pc.out.at e1 h5g) h5w, at_set3 (pc.out.at e2 h5g) h5w⟩ (fun hHeld => ?_)
  clear hK K
  try simp only [Act.put, List.setIfInBounds_toArray, List.set_cons_zero, List.set_cons_succ]
  refine wpAnyH_takeL (i := 5) (v := ?_) rfl (by kernel_rfl) (by kernel_rfl) (by kernel_rfl) (fun _ _ _ h => h) (by rfl) hHeld ?_ ?_
  rotate_left
  · (intro w hSw; (try dsimp only at hSw); go_simp; (try with_reducible rfl))
  try simp only [Act.put, List.setIfInBounds_toArray, List.set_cons_zero, List.set_cons_succ]
  refine wpAnyH_done (by kernel_rfl) ?_ _
  have u0 := BR.out.v0
  have u1 := BR.out.v1
  have u2 := BR.out.v2
  have Y := ext3 y2 w.heap.size (.int .i64 x.op) (.int .i64 x.num) (.slice ax nx cx)
  have RE := Lib.hid (E5.out.k.ext Y (fun k hk h => by omega))
  have KE := Lib.hid (((KK1.out.then_ X.out (fun k hk h => by omega)).then_ pc.out (fun k hk h => by omega)).then_ Y (fun k hk h => by omega))
  go_wp2_with fail
  refine bodyPost_ret (v := .tuple #[.agg #[.int .i64 x.op, .int .i64 x.num, .slice ax nx cx], .int .i64 v1]) (by simp [results, Try.results35, go_sem, u0, u1, u2]) rfl (fin_ hQ ?_)
  exact ⟨x, ax, nx, cx, v1, rfl, HVv1.out, RE.out.mono (fun k hk => by omega), KE.out⟩

set_option maxRecDepth 100000 in
set_option maxHeartbeats 2000000 in
theorem DrawShift_any (a : Option Addr) (len cap : Nat) (z : Nat → Int) (w : World) (h : Byt w a len z) (hlc : len ≤ cap) (hl : len ≤ 1048576) :
    Calls Try.prog 27 #[.slice a len cap] w fun e w' => ∃ (x : ExprL) (ax : Option Addr) (nx cx : Nat) (v1 v2 : Int), e = .returned (.tuple #[.agg #[.int .i64 x.op, .int .i64 x.num, .slice ax nx cx], .int .i64 v1, .int .i64 v2]) ∧ v1 ∈ ([0, 1, 2, 3, 0, 99, 100, -1] : List Int) ∧ v2 ∈ ([1, 2, 3, 0, 99, 100, -1] : List Int) ∧ Rd w' (fun k => w.heap.size ≤ k) (encExprs x.kids) (.slice ax nx cx) ∧ Keep w w' := by
  refine calls_k fun Q hQ => ?_
  have K1 := Keep.al w (.cells #[.int .i64 0, .int .i64 0, .slice none 0 0] 25)
  have h1 := Lib.hid (h.ext K1 (fun _ _ _ h => h))
  have hz0 : (w.alloc (.cells #[.int .i64 0, .int .i64 0, .slice none 0 0] 25)).heap.size = w.heap.size + 1 := World.size_alloc _ _
  have BR0 := Lib.hid (Ev.born w (fun _ => False) (.mk 0 0 []) none 0 0 (.nil 3 _ _))
  have KK := Lib.hid K1
  clear h K1
  go_enter Try.func27, Try.ntmps27
  go_upto_region 1 with fail
  replace BR0 : Hid (Ev (w.alloc (.cells #[.int .i64 0, .int .i64 0, .slice none 0 0] 25)) w.heap.size (fun _ => False) (.mk 0 0 []) none 0 0) := BR0
  generalize hW : w.alloc (.cells #[.int .i64 0, .int .i64 0, .slice none 0 0] 25) = W1 at *
  clear hW
  go_wp2_with fail
  refine (newReaderX a len cap z W1 h1.out hlc hl).mono ?_
  rintro e w1 ⟨g, hg, rfl, r1, k1⟩
  have hs1 := k1.size
  have hgB := r1.gB
  have BR1 := Lib.hid (BR0.out.keep k1)
  clear BR0
  have KK1 := Lib.hid (KK.out.trans k1)
  clear KK h1 k1
  go_wp2_with fail
  refine (specSomeExpr w1.heap.size g 0 w1 r1 (Nat.le_refl _) (by omega)).mono ?_
  rintro e w2 ⟨x, ax, nx, cx, q, rfl, rx, fx, r2, hq, x2⟩
  have hs2 := x2.size
  have K2 := Keep.al w2 (.cells #[.int .i64 x.op, .int .i64 x.num, .slice ax nx cx] 25)
  have RR := Lib.hid (r2.keep K2)
  have HQ : Hid (q ≤ 300010000) := by show _ ≤ _; omega
  have X := Lib.hid (x2.trans (Keep.to K2))
  have BR := Lib.hid ((BR1.out.ext x2 (by omega) (fun k hk => hk.elim)).keep K2)
  have E5 := Lib.hid (Ev.born w2 (fun m => w1.heap.size ≤ m) x ax nx cx rx)
  have FX := Lib.hid fx
  clear rx fx r2 hq x2 K2 BR1 r1
  go_upto_region 3 with fail
  generalize hW : w2.alloc (.cells #[.int .i64 x.op, .int .i64 x.num, .slice ax nx cx] 25) = wq at *
  clear hW
  generalize hS : w2.heap.size = s5 at *
  clear hS
  have h5g : s5 ≠ g := by omega
  have h5w : s5 ≠ w.heap.size := by omega
  go_wp2_with fail
  refine (oneL w1.heap.size g _ [0, 1, 2, 3, 0, 99, 100, -1] 8 8 3 _ wq RR.out (by have := HQ.out; omega) rfl rfl (by omega) (by omega)).mono ?_
  rintro e w4 ⟨v1, hv, rfl, r4, x4⟩
  replace RR := Lib.hid r4
  replace X := Lib.hid (X.out.trans x4)
  replace BR := Lib.hid (BR.out.ext x4 (by omega) (fun k hk => hk.elim))
  replace E5 := Lib.hid (E5.out.ext x4 h5g (fun k hk => by omega))
  have HVv1 := Lib.hid hv
  clear hv r4 x4
  go_upto_region 4 with fail
  have KD : Keep w4 w4.drew := (Ext.refl (fun _ => False) w4).drew
  replace RR := Lib.hid (RR.out.keep KD)
  replace X := Lib.hid (X.out.trans (Keep.to KD))
  replace BR := Lib.hid (BR.out.keep KD)
  replace E5 := Lib.hid (E5.out.keep KD)
  have e0 : w4.drew.cell? ⟨s5, 0, none⟩ = some (.int .i64 x.op) := E5.out.v0
  have e1 : w4.drew.cell? ⟨s5, 1, none⟩ = some (.int .i64 x.num) := E5.out.v1
  have e2 : w4.drew.cell? ⟨s5, 2, none⟩ = some (.slice ax nx cx) := E5.out.v2
  have hws := X.out.size
  clear KD
  refine wp_region_held_drew (S := fun w' => w'.cell? ⟨s5, 0, none⟩ = some (.int .i64 x.op) ∧ w'.cell? ⟨s5, 1, none⟩ = some (.int .i64 x.num) ∧ w'.cell? ⟨s5, 2, none⟩ = some (.slice ax nx cx)) (by kernel_rfl) ⟨e0, e1, e2⟩ (fun hHeld => ?_)
  have pc : Hid (Ext (· = g) w4.drew w4.drew) := Ext.refl _ _
  generalize w4.drew = W0 at *
  refine wpAnyH_takeL (i := 0) (v := ?_) rfl (by kernel_rfl) (by kernel_rfl) (by kernel_rfl) (fun _ _ _ h => h) (by rfl) hHeld ?_ ?_
  rotate_left
  · (intro w hSw; (try dsimp only at hSw); go_simp; (try with_reducible rfl))
  try simp only [Act.put, List.setIfInBounds_toArray, List.set_cons_zero, List.set_cons_succ]
  refine wpAnyH_takeL (i := 1) (v := ?_) rfl (by kernel_rfl) (by kernel_rfl) (by kernel_rfl) (fun _ _ _ h => h) (by rfl) hHeld ?_ ?_
  rotate_left
  · (intro w hSw; (try dsimp only at hSw); go_simp; (try with_reducible rfl))
  try simp only [Act.put, List.setIfInBounds_toArray, List.set_cons_zero, List.set_cons_succ]
  refine wpAnyH_takeL (i := 2) (v := ?_) rfl (by kernel_rfl) (by kernel_rfl) (by kernel_rfl) (fun _ _ _ h => h) (by rfl) hHeld ?_ ?_
  rotate_left
  · (intro w hSw; (try dsimp only at hSw); go_simp; (try with_reducible rfl))
  try simp only [Act.put, List.setIfInBounds_toArray, List.set_cons_zero, List.set_cons_succ]
  refine wpAnyH_oneL (i := 3) rfl (by kernel_rfl) (by rfl) (fun K hK => ?_)
  go_simp
  obtain ⟨sy1, hsy1⟩ : ∃ s, s = W0.heap.size := ⟨_, rfl⟩
  obtain ⟨y1, hW⟩ : ∃ N, N = W0.alloc (.cells #[.int .i64 1, .int .i64 2, .int .i64 3, .int .i64 0, .int .i64 99, .int .i64 100, .int .i64 (-1)] 3) := ⟨_, rfl⟩
  rw [← hsy1, ← hW]
  have kk : Keep W0 y1 := by rw [hW]; exact Keep.al _ _
  have hzy1 : W0.heap.size + 1 ≤ y1.heap.size := by rw [hW]; exact Nat.le_of_eq (World.size_alloc _ _).symm
  have hisy1 : W0.heap.size ≤ sy1 := by omega
  have hpz := pc.out.size
  have TY : Hid (Rd y1 (fun k => k ≠ g) (encInts [1, 2, 3, 0, 99, 100, -1]) (.slice (some ⟨sy1, 0, none⟩) 7 7)) := by
    rw [hW, hsy1]
    exact lit_intsD W0 (fun k => k ≠ g) 3 [1, 2, 3, 0, 99, 100, -1] #[.int .i64 1, .int .i64 2, .int .i64 3, .int .i64 0, .int .i64 99, .int .i64 100, .int .i64 (-1)] 7 (by omega) rfl rfl (by omega)
  replace pc := Lib.hid (pc.out.trans (Keep.to kk))
  replace BR := Lib.hid (BR.out.keep kk)
  replace E5 := Lib.hid (E5.out.keep kk)
  replace RR := Lib.hid (RR.out.keep kk)
  clear kk hW hsy1
  clear hpz
  refine hK.out _ _ ⟨pc.out.at e0 h5g, pc.out.at e1 h5g, pc.out.at e2 h5g⟩ (fun hHeld => ?_)
  clear hK K
  try simp only [Act.put, List.setIfInBounds_toArray, List.set_cons_zero, List.set_cons_succ]
  refine wpAnyH_oneL (i := 4) rfl (by kernel_rfl) (by rfl) (fun K hK => ?_)
  go_simp
  go_at_call 59
  refine (oneX w1.heap.size g _ _ 7 7 [1, 2, 3, 0, 99, 100, -1] (fun k => k ≠ g) y1 RR.out (by have := HQ.out; omega) TY.out.toInts (by omega) (by omega) (fun h => h rfl)).mono ?_
  rintro e y2 ⟨v2, hv, rfl, r6, xi⟩
  replace pc := Lib.hid (pc.out.trans xi)
  replace BR := Lib.hid (BR.out.ext xi (by omega) (fun k hk => by first | exact (hk : False).elim | omega))
  replace E5 := Lib.hid (E5.out.ext xi (by omega) (fun k hk => by first | exact (hk : False).elim | omega))
  replace TY := Lib.hid (TY.out.ext xi (fun k hk => by omega))
  replace RR := Lib.hid r6
  have HVv2 := Lib.hid hv
  clear hv r6 xi
  refine hK.out _ _ ⟨pc.out.at e0 h5g, pc.out.at e1 h5g, pc.out.at e2 h5g⟩ (fun hHeld => ?_)
  clear hK K
  try simp only [Act.put, List.setIfInBounds_toArray, List.set_cons_zero, List.set_cons_succ]
  refine wpAnyH_oneL (i := 5) rfl (by kernel_rfl) (by rfl) (fun K hK => ?_)
  have c0 := BR.out.v0
  have c1 := BR.out.v1
  have c2 := BR.out.v2
  have g0 := BR.out.g0
  have g1 := BR.out.g1
  have g2 := BR.out.g2
  go_simp
  refine hK.out _ _ ⟨at_set3 (pc.out.at e0 h5g) h5w, at_set3 (pc.out.at e1 h5g) h5w, at_set3 (pc.out.at e2 h5g) h5w⟩ (fun hHeld => ?_)
  clear hK K
  try simp only [Act.put, List.setIfInBounds_toArray, List.set_cons_zero, List.set_cons_succ]
  refine wpAnyH_takeL (i := 6) (v := ?_) rfl (by kernel_rfl) (by kernel_rfl) (by kernel_rfl) (fun _ _ _ h => h) (by rfl) hHeld ?_ ?_
  rotate_left
  · (intro w hSw; (try dsimp only at hSw); go_simp; (try with_reducible rfl))
  try simp only [Act.put, List.setIfInBounds_toArray, List.set_cons_zero, List.set_cons_succ]
  refine wpAnyH_takeL (i := 7) (v := ?_) rfl (by kernel_rfl) (by kernel_rfl) (by kernel_rfl) (fun _ _ _ h => h) (by rfl) hHeld ?_ ?_
  rotate_left
  · (intro w hSw; (try dsimp only at hSw); go_simp; (try with_reducible rfl))
  try simp only [Act.put, List.setIfInBounds_toArray, List.set_cons_zero, List.set_cons_succ]
  refine wpAnyH_done (by kernel_rfl) ?_ _
  have u0 := BR.out.v0
  have u1 := BR.out.v1
  have u2 := BR.out.v2
  have Y := ext3 y2 w.heap.size (.int .i64 x.op) (.int .i64 x.num) (.slice ax nx cx)
  have RE := Lib.hid (E5.out.k.ext Y (fun k hk h => by omega))
  have KE := Lib.hid (((KK1.out.then_ X.out (fun k hk h => by omega)).then_ pc.out (fun k hk h => by omega)).then_ Y (fun k hk h => by omega))
  go_wp2_with fail
  refine bodyPost_ret (v := .tuple #[.agg #[.int .i64 x.op, .int .i64 x.num, .slice ax nx cx], .int .i64 v1, .int .i64 v2]) (by simp [results, Try.results27, go_sem, u0, u1, u2]) rfl (fin_ hQ ?_)
  exact ⟨x, ax, nx, cx, v1, v2, rfl, HVv1.out, HVv2.out, RE.out.mono (fun k hk => by omega), KE.out⟩

set_option maxRecDepth 100000 in
set_option maxHeartbeats 2000000 in
theorem DrawValidSigs_any (a : Option Addr) (len cap : Nat) (z : Nat → Int) (w : World) (h : Byt w a len z) (hlc : len ≤ cap) (hl : len ≤ 1048576) :
    Calls Try.prog 31 #[.slice a len cap] w fun e w' => ∃ (ds : List DeclL) (fs : List FuncL) (a0 : Option Addr) (n0 c0 : Nat) (a1 : Option Addr) (n1 c1 : Nat), e = .returned (.agg #[.slice a0 n0 c0, .slice a1 n1 c1]) ∧ Rd w' (fun k => w.heap.size ≤ k) (encDecls ds) (.slice a0 n0 c0) ∧ Rd w' (fun k => w.heap.size ≤ k) (encFuncs fs) (.slice a1 n1 c1) ∧ fitQ fs ∧ Keep w w' := by
  refine calls_k fun Q hQ => ?_
  have K1 := Keep.al w (.cells #[.slice none 0 0, .slice none 0 0] 41)
  have h1 := Lib.hid (h.ext K1 (fun _ _ _ h => h))
  have hz0 : (w.alloc (.cells #[.slice none 0 0, .slice none 0 0] 41)).heap.size = w.heap.size + 1 := World.size_alloc _ _
  have BR0 := Lib.hid (Px.born w (.slice none 0 0) (.slice none 0 0))
  have KK := Lib.hid K1
  clear h K1
  go_enter Try.func31, Try.ntmps31
  go_upto_region 1 with fail
  generalize hW : w.alloc (.cells #[.slice none 0 0, .slice none 0 0] 41) = W1 at *
  clear hW
  go_wp2_with fail
  refine (newReaderX a len cap z W1 h1.out hlc hl).mono ?_
  rintro e w1 ⟨g, hg, rfl, r1, k1⟩
  have hs1 := k1.size
  have hgB := r1.gB
  have BR1 := Lib.hid (BR0.out.k k1)
  clear BR0
  have KK1 := Lib.hid (KK.out.trans k1)
  clear KK h1 k1
  go_wp2_with fail
  refine (specAnyProgram w1.heap.size g 0 w1 r1 (Nat.le_refl _) (by omega)).mono ?_
  rintro e w2 ⟨ds, fs, a0, n0, c0, a1, n1, c1, q, rfl, rd, rf, hf, r2, hq, x2⟩
  have hs2 := x2.size
  have BR := Lib.hid (BR1.out.e x2 (fun h => by rcases h with h | h; omega; exact h.elim))
  have u0 := BR.out.x0
  have u1 := BR.out.x1
  have g0 := BR.out.f0
  have g1 := BR.out.f1
  have Y := (ext1 w2 w.heap.size 0 (.slice a0 n0 c0)).trans (ext1 _ w.heap.size 1 (.slice a1 n1 c1))
  have RD1 := Lib.hid (rd.ext Y (fun k hk h => by omega))
  have RF1 := Lib.hid (rf.ext Y (fun k hk h => by omega))
  have KE := Lib.hid ((KK1.out.then_ x2 (fun k hk h => by rcases h with h | h; omega; exact h.elim)).then_ Y (fun k hk h => by omega))
  have HF := Lib.hid hf
  clear rd rf hf r2 hq x2 r1
  go_wp2_with fail
  refine bodyPost_ret (v := .agg #[.slice a0 n0 c0, .slice a1 n1 c1]) (by simp [results, Try.results31, go_sem, u0, u1]) rfl (fin_ hQ ?_)
  exact ⟨ds, fs, a0, n0, c0, a1, n1, c1, rfl, RD1.out.mono (fun k hk => by omega), RF1.out.mono (fun k hk => by omega), HF.out, KE.out⟩

set_option maxRecDepth 100000 in
set_option maxHeartbeats 2000000 in
theorem DrawValidProgram_any (a : Option Addr) (len cap : Nat) (z : Nat → Int) (w : World) (h : Byt w a len z) (hlc : len ≤ cap) (hl : len ≤ 1048576) :
    Calls Try.prog 44 #[.slice a len cap] w fun e w' => ∃ (ds : List DeclL) (fs : List FuncL) (a0 : Option Addr) (n0 c0 : Nat) (a1 : Option Addr) (n1 c1 : Nat), e = .returned (.agg #[.slice a0 n0 c0, .slice a1 n1 c1]) ∧ Rd w' (fun k => w.heap.size ≤ k) (encDecls ds) (.slice a0 n0 c0) ∧ Rd w' (fun k => w.heap.size ≤ k) (encFuncs fs) (.slice a1 n1 c1) ∧ fitQ fs ∧ Keep w w' := by
  refine calls_k fun Q hQ => ?_
  have K1 := Keep.al w (.cells #[.slice none 0 0, .slice none 0 0] 41)
  have h1 := Lib.hid (h.ext K1 (fun _ _ _ h => h))
  have hz0 : (w.alloc (.cells #[.slice none 0 0, .slice none 0 0] 41)).heap.size = w.heap.size + 1 := World.size_alloc _ _
  have BR0 := Lib.hid (Px.born w (.slice none 0 0) (.slice none 0 0))
  have KK := Lib.hid K1
  clear h K1
  go_enter Try.func44, Try.ntmps44
  go_upto_region 1 with fail
  generalize hW : w.alloc (.cells #[.slice none 0 0, .slice none 0 0] 41) = W1 at *
  clear hW
  go_wp2_with fail
  refine (newReaderX a len cap z W1 h1.out hlc hl).mono ?_
  rintro e w1 ⟨g, hg, rfl, r1, k1⟩
  have hs1 := k1.size
  have hgB := r1.gB
  have BR1 := Lib.hid (BR0.out.k k1)
  clear BR0
  have KK1 := Lib.hid (KK.out.trans k1)
  clear KK h1 k1
  go_wp2_with fail
  refine (specAnyProgram w1.heap.size g 0 w1 r1 (Nat.le_refl _) (by omega)).mono ?_
  rintro e w2 ⟨ds, fs, a0, n0, c0, a1, n1, c1, q, rfl, rd, rf, hf, r2, hq, x2⟩
  have hs2 := x2.size
  have BR := Lib.hid (BR1.out.e x2 (fun h => by rcases h with h | h; omega; exact h.elim))
  have u0 := BR.out.x0
  have u1 := BR.out.x1
  have g0 := BR.out.f0
  have g1 := BR.out.f1
  have Y := (ext1 w2 w.heap.size 0 (.slice a0 n0 c0)).trans (ext1 _ w.heap.size 1 (.slice a1 n1 c1))
  have RD1 := Lib.hid (rd.ext Y (fun k hk h => by omega))
  have RF1 := Lib.hid (rf.ext Y (fun k hk h => by omega))
  have KE := Lib.hid ((KK1.out.then_ x2 (fun k hk h => by rcases h with h | h; omega; exact h.elim)).then_ Y (fun k hk h => by omega))
  have HF := Lib.hid hf
  clear rd rf hf r2 hq x2 r1
  go_wp2_with fail
  refine bodyPost_ret (v := .agg #[.slice a0 n0 c0, .slice a1 n1 c1]) (by simp [results, Try.results44, go_sem, u0, u1]) rfl (fin_ hQ ?_)
  exact ⟨ds, fs, a0, n0, c0, a1, n1, c1, rfl, RD1.out.mono (fun k hk => by omega), RF1.out.mono (fun k hk => by omega), HF.out, KE.out⟩

set_option maxRecDepth 100000 in
set_option maxHeartbeats 2000000 in
theorem DrawCalleesOf_any (a : Option Addr) (len cap : Nat) (z : Nat → Int) (w : World) (h : Byt w a len z) (hlc : len ≤ cap) (hl : len ≤ 1048576) :
    Calls Try.prog 48 #[.slice a len cap] w fun e w' => ∃ (ds : List DeclL) (fs : List FuncL) (a0 : Option Addr) (n0 c0 : Nat) (a1 : Option Addr) (n1 c1 : Nat) (v1 : Int), e = .returned (.tuple #[.agg #[.slice a0 n0 c0, .slice a1 n1 c1], .int .i64 v1]) ∧ Rd w' (fun k => w.heap.size ≤ k) (encDecls ds) (.slice a0 n0 c0) ∧ Rd w' (fun k => w.heap.size ≤ k) (encFuncs fs) (.slice a1 n1 c1) ∧ fitQ fs ∧ Keep w w' := by
  refine calls_k fun Q hQ => ?_
  have K1 := Keep.al w (.cells #[.slice none 0 0, .slice none 0 0] 41)
  have h1 := Lib.hid (h.ext K1 (fun _ _ _ h => h))
  have hz0 : (w.alloc (.cells #[.slice none 0 0, .slice none 0 0] 41)).heap.size = w.heap.size + 1 := World.size_alloc _ _
  have BR0 := Lib.hid (Px.born w (.slice none 0 0) (.slice none 0 0))
  have KK := Lib.hid K1
  clear h K1
  go_enter Try.func48, Try.ntmps48
  go_upto_region 1 with fail
  generalize hW : w.alloc (.cells #[.slice none 0 0, .slice none 0 0] 41) = W1 at *
  clear hW
  go_wp2_with fail
  refine (newReaderX a len cap z W1 h1.out hlc hl).mono ?_
  rintro e w1 ⟨g, hg, rfl, r1, k1⟩
  have hs1 := k1.size
  have hgB := r1.gB
  have BR1 := Lib.hid (BR0.out.k k1)
  clear BR0
  have KK1 := Lib.hid (KK.out.trans k1)
  clear KK h1 k1
  go_wp2_with fail
  refine (specAnyProgram w1.heap.size g 0 w1 r1 (Nat.le_refl _) (by omega)).mono ?_
  rintro e w2 ⟨ds, fs, a0, n0, c0, a1, n1, c1, q, rfl, rd, rf, hf, r2, hq, x2⟩
  have hs2 := x2.size
  have K2 := Keep.al w2 (.cells #[.slice a0 n0 c0, .slice a1 n1 c1] 41)
  have RR := Lib.hid (r2.keep K2)
  have HQ : Hid (q ≤ 400000000) := by show _ ≤ _; omega
  have X := Lib.hid (x2.trans (Keep.to K2))
  have BR := Lib.hid ((BR1.out.e x2 (fun h => by rcases h with h | h; omega; exact h.elim)).k K2)
  have B5 := Lib.hid (Px.born w2 (.slice a0 n0 c0) (.slice a1 n1 c1))
  have RDD := Lib.hid (rd.k K2)
  have RFF := Lib.hid (rf.k K2)
  have HF := Lib.hid hf
  clear rd rf hf r2 hq x2 K2 BR1 r1
  go_upto_region 3 with fail
  generalize hW : w2.alloc (.cells #[.slice a0 n0 c0, .slice a1 n1 c1] 41) = wq at *
  clear hW
  generalize hS : w2.heap.size = s5 at *
  clear hS
  have h5g : s5 ≠ g := by omega
  have h5w : s5 ≠ w.heap.size := by omega
  have KD : Keep wq wq.drew := (Ext.refl (fun _ => False) wq).drew
  replace RR := Lib.hid (RR.out.keep KD)
  replace X := Lib.hid (X.out.trans (Keep.to KD))
  replace BR := Lib.hid (BR.out.k KD)
  replace RDD := Lib.hid (RDD.out.k KD)
  replace RFF := Lib.hid (RFF.out.k KD)
  have e0 : wq.drew.cell? ⟨s5, 0, none⟩ = some (.slice a0 n0 c0) := B5.out.x0
  have e1 : wq.drew.cell? ⟨s5, 1, none⟩ = some (.slice a1 n1 c1) := B5.out.x1
  have hws := X.out.size
  clear KD
  refine wp_region_held_drew (S := fun w' => w'.cell? ⟨s5, 0, none⟩ = some (.slice a0 n0 c0) ∧ w'.cell? ⟨s5, 1, none⟩ = some (.slice a1 n1 c1)) (by kernel_rfl) ⟨e0, e1⟩ (fun hHeld => ?_)
  have pc : Hid (Ext (· = g) wq.drew wq.drew) := Ext.refl _ _
  generalize wq.drew = W0 at *
  refine wpAnyH_takeL (i := 0) (v := ?_) rfl (by kernel_rfl) (by kernel_rfl) (by kernel_rfl) (fun _ _ _ h => h) (by rfl) hHeld ?_ ?_
  rotate_left
  · (intro w hSw; (try dsimp only at hSw); go_simp; (try with_reducible rfl))
  try simp only [Act.put, List.setIfInBounds_toArray, List.set_cons_zero, List.set_cons_succ]
  refine wpAnyH_takeL (i := 1) (v := ?_) rfl (by kernel_rfl) (by kernel_rfl) (by kernel_rfl) (fun _ _ _ h => h) (by rfl) hHeld ?_ ?_
  rotate_left
  · (intro w hSw; (try dsimp only at hSw); go_simp; (try with_reducible rfl))
  try simp only [Act.put, List.setIfInBounds_toArray, List.set_cons_zero, List.set_cons_succ]
  refine wpAnyH_oneL (i := 2) rfl (by kernel_rfl) (by rfl) (fun K hK => ?_)
  go_simp
  obtain ⟨sy1, hsy1⟩ : ∃ s, s = W0.heap.size := ⟨_, rfl⟩
  obtain ⟨y1, hW⟩ : ∃ N, N = W0.alloc (.cells #[.int .i64 0, .int .i64 1, .int .i64 2, .int .i64 3, .int .i64 0, .int .i64 (-1), .int .i64 4] 3) := ⟨_, rfl⟩
  rw [← hsy1, ← hW]
  have kk : Keep W0 y1 := by rw [hW]; exact Keep.al _ _
  have hzy1 : W0.heap.size + 1 ≤ y1.heap.size := by rw [hW]; exact Nat.le_of_eq (World.size_alloc _ _).symm
  have hisy1 : W0.heap.size ≤ sy1 := by omega
  have hpz := pc.out.size
  have TY : Hid (Rd y1 (fun k => k ≠ g) (encInts [0, 1, 2, 3, 0, -1, 4]) (.slice (some ⟨sy1, 0, none⟩) 7 7)) := by
    rw [hW, hsy1]
    exact lit_intsD W0 (fun k => k ≠ g) 3 [0, 1, 2, 3, 0, -1, 4] #[.int .i64 0, .int .i64 1, .int .i64 2, .int .i64 3, .int .i64 0, .int .i64 (-1), .int .i64 4] 7 (by omega) rfl rfl (by omega)
  replace pc := Lib.hid (pc.out.trans (Keep.to kk))
  replace BR := Lib.hid (BR.out.k kk)
  replace RDD := Lib.hid (RDD.out.k kk)
  replace RFF := Lib.hid (RFF.out.k kk)
  replace RR := Lib.hid (RR.out.keep kk)
  clear kk hW hsy1
  clear hpz
  refine hK.out _ _ ⟨pc.out.at e0 h5g, pc.out.at e1 h5g⟩ (fun hHeld => ?_)
  clear hK K
  try simp only [Act.put, List.setIfInBounds_toArray, List.set_cons_zero, List.set_cons_succ]
  refine wpAnyH_oneL (i := 3) rfl (by kernel_rfl) (by rfl) (fun K hK => ?_)
  go_simp
  go_at_call 59
  refine (oneX w1.heap.size g _ _ 7 7 [0, 1, 2, 3, 0, -1, 4] (fun k => k ≠ g) y1 RR.out (by have := HQ.out; omega) TY.out.toInts (by omega) (by omega) (fun h => h rfl)).mono ?_
  rintro e y2 ⟨v1, hv, rfl, r6, xi⟩
  replace pc := Lib.hid (pc.out.trans xi)
  replace BR := Lib.hid (BR.out.e xi (by omega))
  replace RDD := Lib.hid (RDD.out.ext xi (fun k hk => by omega))
  replace RFF := Lib.hid (RFF.out.ext xi (fun k hk => by omega))
  replace TY := Lib.hid (TY.out.ext xi (fun k hk => by omega))
  replace RR := Lib.hid r6
  have HVv1 := Lib.hid hv
  clear hv r6 xi
  refine hK.out _ _ ⟨pc.out.at e0 h5g, pc.out.at e1 h5g⟩ (fun hHeld => ?_)
  clear hK K
  try simp only [Act.put, List.setIfInBounds_toArray, List.set_cons_zero, List.set_cons_succ]
  refine wpAnyH_oneL (i := 4) rfl (by kernel_rfl) (by rfl) (fun K hK => ?_)
  have d0 := BR.out.x0
  have d1 := BR.out.x1
  have g0 := BR.out.f0
  have g1 := BR.out.f1
  go_simp
  refine hK.out _ _ ⟨at_set2 (pc.out.at e0 h5g) h5w, at_set2 (pc.out.at e1 h5g) h5w⟩ (fun hHeld => ?_)
  clear hK K
  try simp only [Act.put, List.setIfInBounds_toArray, List.set_cons_zero, List.set_cons_succ]
  refine wpAnyH_takeL (i := 5) (v := ?_) rfl (by kernel_rfl) (by kernel_rfl) (by kernel_rfl) (fun _ _ _ h => h) (by rfl) hHeld ?_ ?_
  rotate_left
  · (intro w hSw; (try dsimp only at hSw); go_simp; (try with_reducible rfl))
  try simp only [Act.put, List.setIfInBounds_toArray, List.set_cons_zero, List.set_cons_succ]
  refine wpAnyH_done (by kernel_rfl) ?_ _
  have u0 := BR.out.x0
  have u1 := BR.out.x1
  have Y := (ext1 y2 w.heap.size 0 (.slice a0 n0 c0)).trans (ext1 _ w.heap.size 1 (.slice a1 n1 c1))
  have RE := Lib.hid (RDD.out.ext Y (fun k hk h => by omega))
  have RG := Lib.hid (RFF.out.ext Y (fun k hk h => by omega))
  have KE := Lib.hid (((KK1.out.then_ X.out (fun k hk h => by rcases h with h | h; omega; exact h.elim)).then_ pc.out (fun k hk h => by omega)).then_ Y (fun k hk h => by omega))
  go_wp2_with fail
  refine bodyPost_ret (v := .tuple #[.agg #[.slice a0 n0 c0, .slice a1 n1 c1], .int .i64 v1]) (by simp [results, Try.results48, go_sem, u0, u1]) rfl (fin_ hQ ?_)
  exact ⟨ds, fs, a0, n0, c0, a1, n1, c1, v1, rfl, RE.out.mono (fun k hk => by omega), RG.out.mono (fun k hk => by omega), HF.out, KE.out⟩

set_option maxRecDepth 100000 in
set_option maxHeartbeats 2000000 in
theorem DrawReachedFrom_any (a : Option Addr) (len cap : Nat) (z : Nat → Int) (w : World) (h : Byt w a len z) (hlc : len ≤ cap) (hl : len ≤ 1048576) :
    Calls Try.prog 53 #[.slice a len cap] w fun e w' => ∃ (ds : List DeclL) (fs : List FuncL) (a0 : Option Addr) (n0 c0 : Nat) (a1 : Option Addr) (n1 c1 : Nat) (v1 : Int), e = .returned (.tuple #[.agg #[.slice a0 n0 c0, .slice a1 n1 c1], .int .i64 v1]) ∧ Rd w' (fun k => w.heap.size ≤ k) (encDecls ds) (.slice a0 n0 c0) ∧ Rd w' (fun k => w.heap.size ≤ k) (encFuncs fs) (.slice a1 n1 c1) ∧ fitQ fs ∧ Keep w w' := by
  refine calls_k fun Q hQ => ?_
  have K1 := Keep.al w (.cells #[.slice none 0 0, .slice none 0 0] 41)
  have h1 := h.ext K1 (fun _ _ _ h => h)
  have BR0 := Lib.hid (Px.born w (.slice none 0 0) (.slice none 0 0))
  clear h
  go_enter Try.func53, Try.ntmps53
  go_wp2_with fail
  refine (DrawCalleesOf_any a len cap z _ h1 hlc hl).mono ?_
  rintro e w2 ⟨ds, fs, a0, n0, c0, a1, n1, c1, v1, rfl, rd, rf, hf, k2⟩
  have BR := Lib.hid (BR0.out.k k2)
  have u0 := BR.out.x0
  have u1 := BR.out.x1
  have g0 := BR.out.f0
  have g1 := BR.out.f1
  have Y := (ext1 w2 w.heap.size 0 (.slice a0 n0 c0)).trans (ext1 _ w.heap.size 1 (.slice a1 n1 c1))
  have hz0 : (w.alloc (.cells #[.slice none 0 0, .slice none 0 0] 41)).heap.size = w.heap.size + 1 := World.size_alloc _ _
  have RD1 := Lib.hid (rd.ext Y (fun k hk h => by omega))
  have RF1 := Lib.hid (rf.ext Y (fun k hk h => by omega))
  have KE := Lib.hid ((K1.trans k2).then_ Y (fun k hk h => by omega))
  have HF := Lib.hid hf
  have HZ : ∀ k, (w.alloc (.cells #[.slice none 0 0, .slice none 0 0] 41)).heap.size ≤ k → w.heap.size ≤ k := fun k hk => by omega
  replace HZ := Lib.hid HZ
  clear rd rf hf k2 h1 K1 BR0 hz0
  go_wp2_with fail
  refine bodyPost_ret (v := .tuple #[.agg #[.slice a0 n0 c0, .slice a1 n1 c1], .int .i64 v1]) (by simp [results, Try.results53, go_sem, u0, u1]) rfl (fin_ hQ ?_)
  exact ⟨ds, fs, a0, n0, c0, a1, n1, c1, v1, rfl, RD1.out.mono (fun k hk => HZ.out k hk), RF1.out.mono (fun k hk => HZ.out k hk), HF.out, KE.out⟩

end Go.Proofs.Ytomgellcpjimjaa
