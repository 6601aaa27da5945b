/- The generator of programs: gen. -/
import Derived.Test.YtkapldpmjkdmcaaGreatRAL
import Derived.Test.YtkapldpmjkdmcaaGreatRAE
import Derived.Test.YtkapldpmjkdmcaaGreatRAC
import Derived.Test.YtkapldpmjkdmcaaGreatRAF
namespace Go.Proofs.YtkapldpmjkdmcaaGreat
open Go.RowKit

theorem pkG_half {b : Nat} (h : 3 ≤ b) : 8 * pkG (b / 2) ≤ 2 * pkG b := by
  obtain ⟨c, rfl⟩ : ∃ c, b = c + 2 := ⟨b - 2, by omega⟩
  have h2 : pkG (c + 2) = 4 * pkG c := by rw [pkG_succ, pkG_succ]; omega
  have := pkG_mono (show (c + 2) / 2 ≤ c by omega)
  omega

set_option maxRecDepth 100000 in
set_option maxHeartbeats 8000000 in
theorem specGenStep (ds : List DeclL) (fs : List FuncL) (B g b2 : Nat) (hG : GoodG ds fs) (hb : 1 ≤ b2) (HI : ∀ b', b' < b2 + 2 → GenS ds fs B g b') : GenS ds fs B g (b2 + 2) := by
  intro t vars av nv cv p a0 n0 c0 a1 n1 c1 w hT hpg hv hnv hr hBw hp
  refine calls_k fun Q hQ => ?_
  have HG := Lib.hid hG
  have HP := Lib.hid hpg
  have BW := Lib.hid hBw
  have hgB := hr.gB
  have hgw : g < w.heap.size := by omega
  have K1 := (Keep.al w (.cells #[.slice a0 n0 c0, .slice a1 n1 c1] 44)).trans (Keep.al _ (.cells #[.int .i64 0, .int .i64 0, .slice none 0 0] 58))
  have B0 := Lib.hid (Bx.born w (.slice a0 n0 c0) (.slice a1 n1 c1))
  have hds := hG.len4
  have hfs := hG.len
  have hn0 : n0 ≤ 4 := by have := (decls_at hpg.d).1; omega
  have hn1 : n1 ≤ 4 := by have := (funcs_at hpg.f).1; omega
  have qr := Lib.hid (hr.keep K1)
  have X1 := Lib.hid (Keep.to (S := (· = g)) K1)
  have HT := Lib.hid hT
  have HV := Lib.hid hv
  have IH := Lib.hid HI
  have hpk3 := pkG_3 (show 3 ≤ b2 + 2 by omega)
  have HPP := Lib.hid hp
  have hpp : p + 100 ≤ 900000000000 := by omega
  have HPE : Hid (∃ c : Nat, c = (b2 + 2) / 2) := ⟨_, rfl⟩
  obtain ⟨c, hc⟩ := HPE.out
  have HC := Lib.hid hc
  have hcb : c < b2 + 2 := by omega
  have hhalf : Hid (8 * pkG c ≤ 2 * pkG (b2 + 2)) := by show _ ≤ _; rw [hc]; exact pkG_half (by omega)
  have IHB : Hid (∀ b', b' ≤ b2 + 1 → GenS ds fs B g b') := fun b' h => IH.out b' (by omega)
  have hb3 : ¬ (b2 : Int) + 2 < 3 := by omega
  clear hG hpg hv hr hBw hT HI hp HPE hc
  go_enter Tryz.func228, Tryz.ntmps228
  go_wp2_with fail
  refine (pickX B g p _ _ qr.out (by omega) (by omega)).mono ?_
  rintro e w1 ⟨v, rfl, hv, _, r1, x1⟩
  obtain ⟨hv0, hv1⟩ := hv (by omega)
  have b2x := Lib.hid (B0.out.ext x1 hgw)
  have X2 := Lib.hid (X1.out.trans x1)
  have R2 := Lib.hid r1
  have PD := Lib.hid (HP.out.ext X2.out)
  have VD := Lib.hid (HV.out.g X2.out)
  have BD : Hid (B ≤ w1.heap.size) := Nat.le_trans BW.out X2.out.size
  have hs1 := X2.out.size
  have hw3 := b2x.out.lt
  have x0 := b2x.out.x0
  have x1' := b2x.out.x1
  have hvc : v = 0 ∨ (v = 1 ∨ v = 2) ∨ v = 3 ∨ (v = 4 ∨ v = 5 ∨ v = 6) ∨ (v = 7 ∨ v = 8) ∨ (v = 9 ∨ v = 10 ∨ v = 11) := by omega
  clear hv r1 x1 K1 B0 X1 qr hv0 hv1
  have HX0 := Lib.hid x0
  have HX1 := Lib.hid x1'
  rcases hvc with rfl | h | rfl | h | h | h
  · go_wp2_with fail
    refine (specLeaf ds fs B g HG.out t vars _ _ _ _ _ _ _ _ _ _ _ HT.out PD.out VD.out (by omega) R2.out BD.out (by omega)).mono ?_
    rintro e w5 ⟨x, ax, nx, cx, q5, rfl, rx, fx, r5, hq5, X5⟩
    have b5 := Lib.hid (b2x.out.ext X5 hgw)
    have X6 := Lib.hid (X2.out.trans X5)
    have RX := Lib.hid (rx.mono (D' := fun k => w.heap.size + 2 ≤ k) (fun k hk => Nat.le_trans b2x.out.lt hk))
    have FX := Lib.hid ((allE_eq _ _).1 fx)
    have R5 := Lib.hid r5
    have HQ5 : Hid (q5 ≤ p + pkG (b2 + 2)) := by show _ ≤ _; omega
    clear rx fx r5 hq5 X5
    have bz := b5.out
    have u0 := bz.u0
    have u1 := bz.u1
    have u2 := bz.u2
    have f0 := bz.f0
    have f1 := bz.f1
    have f2 := bz.f2
    clear bz
    go_wp2_with fail
    refine bodyPost_ret (v := .agg #[.int .i64 x.op, .int .i64 x.num, .slice ax nx cx]) (by simp [results, Tryz.results228, go_sem, u0, u1, u2]) rfl (fin_ hQ ?_)
    exact gen_fin (ks := x.kids) X6.out R5.out BW.out RX.out FX.out.1 FX.out.2 HQ5.out
  · -- a let
    rcases h with rfl | rfl
    all_goals
      go_wp2_with fail
      refine (specAnyType ds fs vars B g (p + 1) _ _ _ _ _ _ _ _ _ _ PD.out hds hfs VD.out (by omega) R2.out BD.out (by omega)).mono ?_
      rintro e w2 ⟨u, rfl, hu, r2, x2⟩
      have HU := Lib.hid hu
      have b3 := Lib.hid (b2x.out.ext x2 hgw)
      have X3 := Lib.hid (X2.out.trans x2)
      have R3 := Lib.hid r2
      have IHc := Lib.hid (IH.out c hcb)
      have hdv : IntKind.i64.wrap (Int.tdiv ((b2 : Int) + 2) 2) = (c : Int) := by rw [IntWalk.i64_quo _ _ (by omega), HC.out, Int.natCast_ediv]; rfl
      have hdv3 : IntKind.i64.wrap (c : Int) = (c : Int) := IntWalk.i64_in _ (by omega)
      have hdv2 : ((b2 : Int) + 2) / 2 = (c : Int) := by rw [HC.out, Int.natCast_ediv]; rfl
      have y0 := b3.out.x0
      have y1 := b3.out.x1
      have hs2 := X3.out.size
      have KKA := Lib.hid ((Ext.refl (fun _ => False) w2).drew)
      have KKB := Lib.hid ((Keep.al w2 (.cells #[.int .i64 u] 3)).drew)
      have HQh : Hid (p + 1 + 1 + pkG c ≤ 900000000000) := by show _ ≤ _; have h1 := hhalf.out; have h2 := HPP.out; omega
      have CA := Lib.hid (IHc.out u vars av nv cv (p + 1 + 1) _ _ _ _ _ _ _ HU.out (HP.out.ext (X3.out.trans (Keep.to KKA.out))) (HV.out.g (X3.out.trans (Keep.to KKA.out))) (by omega) (R3.out.keep KKA.out) (Nat.le_trans BW.out (X3.out.trans (Keep.to KKA.out)).size) HQh.out)
      have CB := Lib.hid (IHc.out u vars av nv cv (p + 1 + 1) _ _ _ _ _ _ _ HU.out (HP.out.ext (X3.out.trans (Keep.to KKB.out))) (HV.out.g (X3.out.trans (Keep.to KKB.out))) (by omega) (R3.out.keep KKB.out) (Nat.le_trans BW.out (X3.out.trans (Keep.to KKB.out)).size) HQh.out)
      have UB := Lib.hid ((lit_intsD w2 (fun k => k ≠ g) 3 [u] #[.int .i64 u] 1 (by omega) rfl rfl (by omega)).k (Ext.refl (fun _ => False) (w2.alloc (.cells #[.int .i64 u] 3))).drew)
      clear hu r2 x2 x0 x1'
      go_wp2_with fail
      go_region_held3 (fun w' => w'.cell? ⟨w.heap.size, 0, none⟩ = some (.slice a0 n0 c0) ∧ w'.cell? ⟨w.heap.size, 1, none⟩ = some (.slice a1 n1 c1))
        (first | exact ⟨y0, y1⟩ | exact ⟨kb0, kb1⟩ | exact ⟨kc0, kc1⟩ | exact ⟨kd0, kd1⟩ | exact ⟨ka0, ka1⟩ | go_keep)
        (first
          | (have hgate := HX0; go_at_call 228; (with_reducible refine CA.out.mono ?_); rintro e wa ⟨x, ax, nx, cx, qa, rfl, rx, fx, ra, hqa, xa⟩; have ka0 := xa.at ((Keep.to (S := (· = g)) KKA.out).at y0 (by show w.heap.size ≠ g; omega)) (by show w.heap.size ≠ g; omega); have ka1 := xa.at ((Keep.to (S := (· = g)) KKA.out).at y1 (by show w.heap.size ≠ g; omega)) (by show w.heap.size ≠ g; omega); have XA := Lib.hid (((Keep.to (S := (· = g)) KKA.out).trans xa).trans (Keep.to (Keep.al wa (.cells #[.int .i64 u] 3)))); have RA := Lib.hid (ra.keep (Keep.al wa (.cells #[.int .i64 u] 3))); have HQA := Lib.hid hqa; have hsa : w2.heap.size ≤ wa.heap.size := xa.size; have RX := Lib.hid ((rx.mono (D' := fun k => w2.heap.size ≤ k) (fun k hk => hk)).k (Keep.al wa (.cells #[.int .i64 u] 3))); have FX := Lib.hid fx; have UU := Lib.hid (lit_intsD wa (fun k => k ≠ g) 3 [u] #[.int .i64 u] 1 (by omega) rfl rfl (by omega)); clear rx fx ra hqa xa HX0)
          | (have hgate := HX0; go_at_call 228; (with_reducible refine CB.out.mono ?_); rintro e wa ⟨x, ax, nx, cx, qa, rfl, rx, fx, ra, hqa, xa⟩; have ka0 := xa.at ((Keep.to (S := (· = g)) KKB.out).at y0 (by show w.heap.size ≠ g; omega)) (by show w.heap.size ≠ g; omega); have ka1 := xa.at ((Keep.to (S := (· = g)) KKB.out).at y1 (by show w.heap.size ≠ g; omega)) (by show w.heap.size ≠ g; omega); have XA := Lib.hid ((Keep.to (S := (· = g)) KKB.out).trans xa); have RA := Lib.hid ra; have HQA := Lib.hid hqa; have RX := Lib.hid (rx.mono (D' := fun k => w2.heap.size ≤ k) (fun k hk => Nat.le_trans KKB.out.size hk)); have FX := Lib.hid fx; have UU := Lib.hid (UB.out.g xa); clear rx fx ra hqa xa HX0)
          | (go_at_call 149; refine (specExtend av nv cv vars _ _ 1 1 [u] _ _ (HV.out.g (X3.out.trans XA.out)).toInts (by omega) UU.out.toInts (by omega)).mono ?_; rintro e wb ⟨ae, ne, ce, rfl, hne, hea, kb⟩; have kb0 := (XA.out.trans (Keep.to kb)).at y0 (by show w.heap.size ≠ g; omega); have kb1 := (XA.out.trans (Keep.to kb)).at y1 (by show w.heap.size ≠ g; omega); have hnl := (ints_at VD.out).1; obtain rfl : ne = nv + 1 := (by have h1 := hea.1; rw [List.length_append] at h1; simp at h1; omega); have XB := Lib.hid (XA.out.trans (Keep.to kb)); have RB := Lib.hid (RA.out.keep kb); have hsA := XA.out.size; have VB := Lib.hid ((hea.read.toRd hne (by omega)).mono (D' := fun k => k ≠ g) (fun k hk => by omega)); have RXB := Lib.hid (RX.out.k kb); clear hea kb)
          | (go_at_call 228; refine (IHc.out t (vars ++ [u]) ae (nv + 1) ce qa _ _ _ _ _ _ _ HT.out (HP.out.ext (X3.out.trans XB.out)) VB.out (by omega) RB.out (Nat.le_trans BW.out (X3.out.trans XB.out).size) (by have h1 := hhalf.out; have h2 := HPP.out; have h3 := HQA.out; omega)).mono ?_; rintro e wc ⟨y, ay, ny, cy, qb, rfl, ry, fy, rb, hqb, xc⟩; have kc0 := (XB.out.trans xc).at y0 (by show w.heap.size ≠ g; omega); have kc1 := (XB.out.trans xc).at y1 (by show w.heap.size ≠ g; omega); have XC := Lib.hid (XB.out.trans xc); have RC := Lib.hid rb; have HQB := Lib.hid hqb; have FY := Lib.hid fy; have hsB := XB.out.size; have hsC := xc.size; have hb3l := b3.out.lt; have RXY := Lib.hid (lit_expr2 wc (fun k => w.heap.size + 2 ≤ k) 58 x y ax nx cx ay ny cy (by omega) ((RXB.out.ext xc (fun k hk => by omega)).mono (fun k hk => by omega)) (ry.mono (fun k hk => by omega))); have BXC := Lib.hid (b3.out.ext (XB.out.trans xc) hgw); clear ry fy rb hqb xc)
          | (go_at_call 212; refine (specNodeG _ _ _ _ _ _).mono ?_; rintro e w9 ⟨rfl, k9⟩; have kd0 := (Keep.to (S := (· = g)) k9).at (at_al kc0) (by show w.heap.size ≠ g; omega); have kd1 := (Keep.to (S := (· = g)) k9).at (at_al kc1) (by show w.heap.size ≠ g; omega); have K9 := Lib.hid ((Keep.al wc (.cells #[.int .i64 x.op, .int .i64 x.num, .slice ax nx cx, .int .i64 y.op, .int .i64 y.num, .slice ay ny cy] 58)).trans k9); have RD9 := Lib.hid (RXY.out.k k9); have u0 := (BXC.out.k K9.out).u0; have u1 := (BXC.out.k K9.out).u1; have u2 := (BXC.out.k K9.out).u2; have f0 := (BXC.out.k K9.out).f0; have f1 := (BXC.out.k K9.out).f1; have f2 := (BXC.out.k K9.out).f2; clear k9)
          | fail)
      all_goals
        have X9 := Lib.hid ((X3.out.trans XC.out).trans (Keep.to K9.out))
        have R9 := Lib.hid (RC.out.keep K9.out)
        have HFI : Hid (gfit 1000 13 0) := ⟨by omega, by omega⟩
        have HFS : Hid (allEs (gfit 1000) [x, y]) := ⟨FX.out, FY.out, trivial⟩
        have HQ9 : Hid (qb ≤ p + pkG (b2 + 2)) := by show _ ≤ _; have h1 := HQA.out; have h2 := HQB.out; have h3 := hhalf.out; omega
        clear kd0 kd1 kc0 kc1 kb0 kb1 ka0 ka1 y0 y1
        go_wp2_with fail
        refine bodyPost_ret (v := .agg #[.int .i64 13, .int .i64 0, .slice (some ⟨wc.heap.size, 0, none⟩) 2 2]) (by simp [results, Tryz.results228, go_sem, u0, u1, u2]) rfl (fin_ hQ ?_)
        exact gen_fin (ks := [x, y]) X9.out R9.out BW.out RD9.out HFI.out HFS.out HQ9.out
  · -- a choice
    have X3 := Lib.hid (X2.out.trans (Keep.to (Keep.al w1 (.cells #[.int .i64 0, .int .i64 t, .int .i64 t] 3))))
    have z0 := at_al (o := (.cells #[.int .i64 0, .int .i64 t, .int .i64 t] 3)) x0
    have z1 := at_al (o := (.cells #[.int .i64 0, .int .i64 t, .int .i64 t] 3)) x1'
    have TY := Lib.hid (lit_intsD w1 (fun k => k ≠ g) 3 [0, t, t] #[.int .i64 0, .int .i64 t, .int .i64 t] 3 (by omega) rfl rfl (by omega))
    have hw1 : IntKind.i64.wrap ((b2 : Int) + 1) = (b2 : Int) + 1 := IntWalk.i64_in _ (by omega)
    have hw0 : IntKind.i64.wrap ((b2 : Int) + 2 - 1) = (b2 : Int) + 1 := by rw [show (b2 : Int) + 2 - 1 = (b2 : Int) + 1 by omega]; exact hw1
    have CA := Lib.hid (specGenAllB ds fs B g (b2 + 1) ((b2 : Int) + 1) (pkG (b2 + 2)) (by omega) HG.out [0, t, t] IHB.out (by omega) rfl vars av nv cv (some ⟨w1.heap.size, 0, none⟩) 3 3 (p + 1) _ _ _ _ _ _ (w1.alloc (.cells #[.int .i64 0, .int .i64 t, .int .i64 t] 3)) (by intro z hz; simp only [List.mem_cons, List.not_mem_nil, or_false, or_self] at hz; rcases hz with hz | hz <;> rw [hz] <;> first | exact HT.out | exact ⟨by omega, by omega⟩) (HP.out.ext X3.out) (HV.out.g X3.out) (by omega) TY.out (by omega) (R2.out.keep (Keep.al _ _)) (Nat.le_trans BW.out X3.out.size) (by have := HPP.out; omega))
    go_wp2_with fail
    refine CA.out.mono ?_
    rintro e w5 ⟨es, a5, n5, c5, q5, rfl, rd5, _, fs5, r5, hq5, X5⟩
    have b5 := Lib.hid ((b2x.out.k (Keep.al _ _)).ext X5 hgw)
    have X6 := Lib.hid (X3.out.trans X5)
    have RX := Lib.hid (rd5.mono (D' := fun k => w.heap.size + 2 ≤ k) (fun k hk => by simp at hk; omega))
    have R5 := Lib.hid r5
    have F5 := Lib.hid fs5
    have HQ5 := Lib.hid hq5
    clear z0 z1 x0 x1' rd5 r5 fs5 hq5 X5
    go_wp2_with fail
    refine (specNodeG _ _ _ _ _ _).mono ?_
    rintro e w9 ⟨rfl, k9⟩
    have b9 := Lib.hid (b5.out.k k9)
    have X9 := Lib.hid (X6.out.trans (Keep.to k9))
    have R9 := Lib.hid (R5.out.keep k9)
    have RD9 := Lib.hid (RX.out.k k9)
    have HFI : Hid (gfit 1000 7 0) := ⟨by omega, by omega⟩
    have HQ9 : Hid (q5 ≤ p + pkG (b2 + 2)) := by show _ ≤ _; have h1 := HQ5.out; omega
    clear k9
    have bz := b9.out
    have u0 := bz.u0
    have u1 := bz.u1
    have u2 := bz.u2
    have f0 := bz.f0
    have f1 := bz.f1
    have f2 := bz.f2
    clear bz
    go_wp2_with fail
    refine bodyPost_ret (v := .agg #[.int .i64 7, .int .i64 0, .slice a5 n5 c5]) (by simp [results, Tryz.results228, go_sem, u0, u1, u2]) rfl (fin_ hQ ?_)
    exact gen_fin (ks := es) X9.out R9.out BW.out RD9.out HFI.out F5.out HQ9.out
  · -- a match
    rcases h with rfl | rfl | rfl
    all_goals
      go_wp2_with fail
      refine (specGenMatch ds fs B g b2 HG.out hb IH.out t vars _ _ _ (p + 1) _ _ _ _ _ _ _ (by omega) _ HT.out PD.out VD.out (by omega) R2.out BD.out (by have := HPP.out; omega)).mono ?_
      rintro e w5 ⟨x, ax, nx, cx, q5, rfl, rx, fx, r5, hq5, X5⟩
      have b5 := Lib.hid (b2x.out.ext X5 hgw)
      have X6 := Lib.hid (X2.out.trans X5)
      have RX := Lib.hid (rx.mono (D' := fun k => w.heap.size + 2 ≤ k) (fun k hk => Nat.le_trans b2x.out.lt hk))
      have FX := Lib.hid ((allE_eq _ _).1 fx)
      have R5 := Lib.hid r5
      have HQ5 : Hid (q5 ≤ p + pkG (b2 + 2)) := by show _ ≤ _; omega
      clear rx fx r5 hq5 X5
      have bz := b5.out
      have u0 := bz.u0
      have u1 := bz.u1
      have u2 := bz.u2
      have f0 := bz.f0
      have f1 := bz.f1
      have f2 := bz.f2
      clear bz
      go_wp2_with fail
      refine bodyPost_ret (v := .agg #[.int .i64 x.op, .int .i64 x.num, .slice ax nx cx]) (by simp [results, Tryz.results228, go_sem, u0, u1, u2]) rfl (fin_ hQ ?_)
      exact gen_fin (ks := x.kids) X6.out R5.out BW.out RX.out FX.out.1 FX.out.2 HQ5.out
  · -- a call
    rcases h with rfl | rfl
    all_goals
      go_wp2_with fail
      refine (specCallable ds fs t _ _ _ _ _ _ _ PD.out.pr hds hfs).mono ?_
      rintro e w2 ⟨al, n, cl, xs, rfl, hnl, hn5, hx, hxs, k2⟩
      have b3 := Lib.hid (b2x.out.k k2)
      have X3 := Lib.hid (X2.out.trans (Keep.to k2))
      have R3 := Lib.hid (R2.out.keep k2)
      have HXI := Lib.hid hx
      have HXS := Lib.hid hxs
      clear x0 x1' hx hxs k2
      rcases Nat.eq_zero_or_pos n with h0 | h0
      · subst h0
        have y0 := b3.out.x0
        have y1 := b3.out.x1
        have PD3 := Lib.hid (HP.out.ext X3.out)
        have VD3 := Lib.hid (HV.out.g X3.out)
        have BD3 : Hid (B ≤ w2.heap.size) := Nat.le_trans BW.out X3.out.size
        go_wp2_with fail
        refine (specGenOther ds fs B g b2 HG.out hb IH.out t vars _ _ _ (p + 1) _ _ _ _ _ _ _ (by omega) _ HT.out PD3.out VD3.out (by omega) R3.out BD3.out (by have := HPP.out; omega)).mono ?_
        rintro e w5 ⟨x, ax, nx, cx, q5, rfl, rx, fx, r5, hq5, X5⟩
        have b5 := Lib.hid (b3.out.ext X5 hgw)
        have X6 := Lib.hid (X3.out.trans X5)
        have RX := Lib.hid (rx.mono (D' := fun k => w.heap.size + 2 ≤ k) (fun k hk => Nat.le_trans b3.out.lt hk))
        have FX := Lib.hid ((allE_eq _ _).1 fx)
        have R5 := Lib.hid r5
        have HQ5 : Hid (q5 ≤ p + pkG (b2 + 2)) := by show _ ≤ _; omega
        clear rx fx r5 hq5 X5
        have bz := b5.out
        have u0 := bz.u0
        have u1 := bz.u1
        have u2 := bz.u2
        have f0 := bz.f0
        have f1 := bz.f1
        have f2 := bz.f2
        clear bz
        go_wp2_with fail
        refine bodyPost_ret (v := .agg #[.int .i64 x.op, .int .i64 x.num, .slice ax nx cx]) (by simp [results, Tryz.results228, go_sem, u0, u1, u2]) rfl (fin_ hQ ?_)
        exact gen_fin (ks := x.kids) X6.out R5.out BW.out RX.out FX.out.1 FX.out.2 HQ5.out
      · have hd0 : decide (0 < n) = true := decide_eq_true h0
        go_wp2_with fail
        refine (pickX B g (p + 1) _ _ R3.out (by omega) (by omega)).mono ?_
        rintro e w3 ⟨v, rfl, hv, _, r3, x3⟩
        obtain ⟨hv0, hv1⟩ := hv (by omega)
        obtain ⟨i, rfl⟩ := Int.eq_ofNat_of_zero_le hv0
        have hi : i < n := by omega
        obtain ⟨bc, oc, rfl, hbc, hcc⟩ := HXI.out.2 h0
        have hbc2 : w1.heap.size ≤ bc := hbc
        have d0 := x3.at (hcc i hi) (by show bc ≠ g; omega)
        have hcm := HXS.out (iAt xs i) (by rw [iAt_get (by have := HXI.out.1; omega)]; exact List.getElem_mem _)
        generalize iAt xs i = z at d0 hcm
        obtain ⟨k, rfl⟩ := Int.eq_ofNat_of_zero_le hcm.1
        have hkf : k < fs.length := by omega
        have b4 := Lib.hid (b3.out.ext x3 hgw)
        have X4 := Lib.hid (X3.out.trans x3)
        have R4 := Lib.hid r3
        have FA := Lib.hid (funcs_at (HP.out.f.lt.ext X4.out (fun k h => h.1)))
        have hk1 : k < n1 := by have := FA.out.1; omega
        obtain ⟨b, o, rfl, ⟨hbg, hbw0⟩, ap, np, cp, ab, nb, cb, g0, _, _, _, _, rp, _⟩ := FA.out.2.2.2 k hk1
        have hbne : ¬ b = w.heap.size + 1 := by omega
        have hbne2 : ¬ w.heap.size + 1 = b := by omega
        have SG := Lib.hid (HG.out.sig hkf)
        have hnp3 : np ≤ 3 := by have := (HG.out.sig hkf).1; have := (ints_at rp).1; omega
        have y0 := b4.out.x0
        have y1 := b4.out.x1
        have hw4 := b4.out.lt
        have kk0 : (0 : Int) ≤ (k : Int) := by omega
        have kk1 : (k : Int) < (n1 : Int) := by omega
        have hw1 : IntKind.i64.wrap ((b2 : Int) + 1) = (b2 : Int) + 1 := IntWalk.i64_in _ (by omega)
        have hw0 : IntKind.i64.wrap ((b2 : Int) + 2 - 1) = (b2 : Int) + 1 := by rw [show (b2 : Int) + 2 - 1 = (b2 : Int) + 1 by omega]; exact hw1
        have KD := Lib.hid ((Ext.refl (fun _ => False) w3).drew)
        have BXD := Lib.hid (b4.out.k KD.out)
        have CA := Lib.hid (specGenAllB ds fs B g (b2 + 1) ((b2 : Int) + 1) (pkG (b2 + 2)) (by omega) HG.out (fAt fs k).params IHB.out (by omega) rfl vars av nv cv ap np cp (p + 1 + 1) _ _ _ _ _ _ w3.drew SG.out.2.2 (HP.out.ext X4.out.drew) (HV.out.g X4.out.drew) (by omega) ((rp.mono (fun k h => h.1)).k KD.out) hnp3 (R4.out.keep KD.out) (Nat.le_trans BW.out X4.out.drew.size) (by have := HPP.out; omega))
        clear hcc hv hv0 r3 x3 hcm rp
        go_wp2_with fail
        clear d0
        go_region_held3 (fun w' => w'.cell? ⟨w.heap.size, 0, none⟩ = some (.slice a0 n0 c0) ∧ w'.cell? ⟨w.heap.size, 1, none⟩ = some (.slice (some ⟨b, o, none⟩) n1 c1) ∧ w'.cell? ⟨b, o + k * 5, none⟩ = some (.slice ap np cp))
          (first | exact ⟨y0, y1, g0⟩ | exact ⟨kb0, kb1, kb2⟩ | exact ⟨kc0, kc1, kc2⟩ | go_keep)
          (first
            | (go_at_call 235; (with_reducible refine CA.out.mono ?_); rintro e w5 ⟨es, a5, n5, c5, q5, rfl, rd5, _, fs5, r5, hq5, X5⟩; have kb0 := X5.at (w := w3.drew) y0 (by show w.heap.size ≠ g; omega); have kb1 := X5.at (w := w3.drew) y1 (by show w.heap.size ≠ g; omega); have kb2 := X5.at (w := w3.drew) g0 hbg; have b5 := Lib.hid (BXD.out.ext X5 hgw); have X6 := Lib.hid (X4.out.drew.trans X5); have RX := Lib.hid (rd5.mono (D' := fun k => w.heap.size + 2 ≤ k) (fun k hk => (by change w3.heap.size ≤ k at hk; omega))); have R5 := Lib.hid r5; have F5 := Lib.hid fs5; have HQ5 := Lib.hid hq5; clear rd5 r5 fs5 hq5 X5)
            | (go_at_call 212; refine (specNodeG _ _ _ _ _ _).mono ?_; rintro e w9 ⟨rfl, k9⟩; have kc0 := (Keep.to (S := (· = g)) k9).at kb0 (by show w.heap.size ≠ g; omega); have kc1 := (Keep.to (S := (· = g)) k9).at kb1 (by show w.heap.size ≠ g; omega); have kc2 := (Keep.to (S := (· = g)) k9).at kb2 hbg; have K9 := Lib.hid k9; have u0 := (b5.out.k K9.out).u0; have u1 := (b5.out.k K9.out).u1; have u2 := (b5.out.k K9.out).u2; have f0 := (b5.out.k K9.out).f0; have f1 := (b5.out.k K9.out).f1; have f2 := (b5.out.k K9.out).f2; clear k9)
            | fail)
        have X9 := Lib.hid (X6.out.trans (Keep.to K9.out))
        have R9 := Lib.hid (R5.out.keep K9.out)
        have RD9 := Lib.hid (RX.out.k K9.out)
        have HFI : Hid (gfit 1000 9 (k : Int)) := ⟨by omega, by omega⟩
        have HQ9 : Hid (q5 ≤ p + pkG (b2 + 2)) := by show _ ≤ _; have h1 := HQ5.out; omega
        clear kc0 kc1 kc2 kb0 kb1 kb2 y0 y1 g0
        go_wp2_with fail
        refine bodyPost_ret (v := .agg #[.int .i64 9, .int .i64 (k : Int), .slice a5 n5 c5]) (by simp [results, Tryz.results228, go_sem, u0, u1, u2]) rfl (fin_ hQ ?_)
        exact gen_fin (ks := es) X9.out R9.out BW.out RD9.out HFI.out F5.out HQ9.out
  · rcases h with rfl | rfl | rfl
    all_goals
      go_wp2_with fail
      refine (specGenOther ds fs B g b2 HG.out hb IH.out t vars _ _ _ (p + 1) _ _ _ _ _ _ _ (by omega) _ HT.out PD.out VD.out (by omega) R2.out BD.out (by have := HPP.out; omega)).mono ?_
      rintro e w5 ⟨x, ax, nx, cx, q5, rfl, rx, fx, r5, hq5, X5⟩
      have b5 := Lib.hid (b2x.out.ext X5 hgw)
      have X6 := Lib.hid (X2.out.trans X5)
      have RX := Lib.hid (rx.mono (D' := fun k => w.heap.size + 2 ≤ k) (fun k hk => Nat.le_trans b2x.out.lt hk))
      have FX := Lib.hid ((allE_eq _ _).1 fx)
      have R5 := Lib.hid r5
      have HQ5 : Hid (q5 ≤ p + pkG (b2 + 2)) := by show _ ≤ _; omega
      clear rx fx r5 hq5 X5
      have bz := b5.out
      have u0 := bz.u0
      have u1 := bz.u1
      have u2 := bz.u2
      have f0 := bz.f0
      have f1 := bz.f1
      have f2 := bz.f2
      clear bz
      go_wp2_with fail
      refine bodyPost_ret (v := .agg #[.int .i64 x.op, .int .i64 x.num, .slice ax nx cx]) (by simp [results, Tryz.results228, go_sem, u0, u1, u2]) rfl (fin_ hQ ?_)
      exact gen_fin (ks := x.kids) X6.out R5.out BW.out RX.out FX.out.1 FX.out.2 HQ5.out

set_option maxRecDepth 100000 in
set_option maxHeartbeats 1000000 in
theorem specGenLow (ds : List DeclL) (fs : List FuncL) (B g b : Nat) (hG : GoodG ds fs) (hb : b < 3) (t : Int) (vars : List Int) (av : Option Addr) (nv cv : Nat) (p : Int) (a0 : Option Addr) (n0 c0 : Nat) (a1 : Option Addr) (n1 c1 : Nat) (w : World) (hT : T5 t) (hpg : PG w g ds fs a0 n0 c0 a1 n1 c1) (hv : Rd w (fun k => k ≠ g) (encInts vars) (.slice av nv cv)) (hnv : nv + 3 * b ≤ 900) (hr : Rdx w B g p) (hBw : B ≤ w.heap.size) (hp : p + 18 ≤ 900000000000) :
    Calls Tryz.prog 228 #[.pointer (some ⟨g, 0, none⟩), .agg #[.slice a0 n0 c0, .slice a1 n1 c1], .slice av nv cv, .int .i64 t, .int .i64 (b : Int)] w (GenPz B g p 18 1000 4 w) := by
  refine calls_k fun Q hQ => ?_
  have HG := Lib.hid hG
  have HP := Lib.hid hpg
  have BW := Lib.hid hBw
  have hgB := hr.gB
  have hgw : g < w.heap.size := by omega
  have K1 := (Keep.al w (.cells #[.slice a0 n0 c0, .slice a1 n1 c1] 44)).trans (Keep.al _ (.cells #[.int .i64 0, .int .i64 0, .slice none 0 0] 58))
  have B0 := Lib.hid (Bx.born w (.slice a0 n0 c0) (.slice a1 n1 c1))
  have hds := hG.len4
  have hfs := hG.len
  have hn0 : n0 ≤ 4 := by have := (decls_at hpg.d).1; omega
  have hn1 : n1 ≤ 4 := by have := (funcs_at hpg.f).1; omega
  have qr := Lib.hid (hr.keep K1)
  have X1 := Lib.hid (Keep.to (S := (· = g)) K1)
  have PD := Lib.hid (hpg.k K1)
  have VD := Lib.hid (hv.k K1)
  have BD : Hid (B ≤ ((w.alloc (.cells #[.slice a0 n0 c0, .slice a1 n1 c1] 44)).alloc (.cells #[.int .i64 0, .int .i64 0, .slice none 0 0] 58)).heap.size) := Nat.le_trans hBw X1.out.size
  have HT := Lib.hid hT
  have hb3 : (b : Int) < 3 := by omega
  clear hG hpg hv hr hBw hT K1
  go_enter Tryz.func228, Tryz.ntmps228
  go_wp2_with fail
  refine (specLeafz ds fs B g HG.out t vars _ _ _ _ _ _ _ _ _ _ _ HT.out PD.out VD.out (by omega) qr.out BD.out (by omega)).mono ?_
  rintro e w5 ⟨x, ax, nx, cx, q5, rfl, rx, fx, sx, r5, hq5, X5⟩
  have b5 := Lib.hid (B0.out.ext X5 hgw)
  have X6 := Lib.hid (X1.out.trans X5)
  have RX := Lib.hid (rx.mono (D' := fun k => w.heap.size + 2 ≤ k) (fun k hk => by simp at hk; omega))
  have FX := Lib.hid ((allE_eq _ _).1 fx)
  have R5 := Lib.hid r5
  have HQ5 := Lib.hid hq5
  have HZ9 : Hid (nEs x.kids + 1 ≤ 4) := by show _ ≤ _; rw [← nE_eq]; exact sx
  clear rx fx sx r5 hq5 X5
  have bz := b5.out
  have u0 := bz.u0
  have u1 := bz.u1
  have u2 := bz.u2
  have f0 := bz.f0
  have f1 := bz.f1
  have f2 := bz.f2
  clear bz
  go_wp2_with fail
  refine bodyPost_ret (v := .agg #[.int .i64 x.op, .int .i64 x.num, .slice ax nx cx]) (by simp [results, Tryz.results228, go_sem, u0, u1, u2]) rfl (fin_ hQ ?_)
  exact gen_finz (ks := x.kids) X6.out R5.out BW.out RX.out FX.out.1 FX.out.2 HQ5.out HZ9.out

theorem specGen_n (ds : List DeclL) (fs : List FuncL) (B g : Nat) (hG : GoodG ds fs) (N : Nat) : ∀ b, b < N → GenS ds fs B g b := by
  induction N with
  | zero => intro b h; omega
  | succ N ih =>
  intro b hb
  by_cases h3 : 3 ≤ b
  · obtain ⟨b2, rfl⟩ : ∃ b2, b = b2 + 2 := ⟨b - 2, by omega⟩
    exact specGenStep ds fs B g b2 hG (by omega) (fun b' h => ih b' (by omega))
  · intro t vars av nv cv p a0 n0 c0 a1 n1 c1 w hT hpg hv hnv hr hBw hp
    have hpb := pkG_pos b
    refine (specGenLow ds fs B g b hG (by omega) t vars av nv cv p a0 n0 c0 a1 n1 c1 w hT hpg hv hnv hr hBw (by omega)).mono ?_
    rintro e w' ⟨x, a, n, c, q, h1, h2, h3, _, h4, h5, h6⟩
    exact ⟨x, a, n, c, q, h1, h2, h3, h4, by omega, h6⟩
theorem specGen (ds : List DeclL) (fs : List FuncL) (B g : Nat) (hG : GoodG ds fs) (b : Nat) : GenS ds fs B g b := specGen_n ds fs B g hG (b + 1) b (Nat.lt_succ_self b)
/-- The same, with what is known of sizes. -/
theorem specGenB (ds : List DeclL) (fs : List FuncL) (B g b : Nat) (hG : GoodG ds fs) (t : Int) (vars : List Int) (av : Option Addr) (nv cv : Nat) (p : Int) (a0 : Option Addr) (n0 c0 : Nat) (a1 : Option Addr) (n1 c1 : Nat) (w : World) (hT : T5 t) (hpg : PG w g ds fs a0 n0 c0 a1 n1 c1) (hv : Rd w (fun k => k ≠ g) (encInts vars) (.slice av nv cv)) (hnv : nv + 3 * b ≤ 900) (hr : Rdx w B g p) (hBw : B ≤ w.heap.size) (hp : p + pkG b ≤ 900000000000) :
    Calls Tryz.prog 228 #[.pointer (some ⟨g, 0, none⟩), .agg #[.slice a0 n0 c0, .slice a1 n1 c1], .slice av nv cv, .int .i64 t, .int .i64 (b : Int)] w fun e w' => ∃ (x : ExprL) (a : Option Addr) (n c : Nat) (q : Int),
      e = .returned (.agg #[.int .i64 x.op, .int .i64 x.num, .slice a n c]) ∧ Rd w' (fun k => w.heap.size ≤ k) (encExprs x.kids) (.slice a n c) ∧ allE (gfit 1000) x ∧ (b < 3 → nE x ≤ 4) ∧ Rdx w' B g q ∧ q ≤ p + pkG b ∧ Ext (· = g) w w' := by
  have hpb := pkG_pos b
  by_cases h3 : b < 3
  · refine (specGenLow ds fs B g b hG h3 t vars av nv cv p a0 n0 c0 a1 n1 c1 w hT hpg hv hnv hr hBw (by omega)).mono ?_
    rintro e w' ⟨x, a, n, c, q, h1, h2, h3, h7, h4, h5, h6⟩
    exact ⟨x, a, n, c, q, h1, h2, h3, fun _ => h7, h4, by omega, h6⟩
  · refine (specGen ds fs B g hG b t vars av nv cv p a0 n0 c0 a1 n1 c1 w hT hpg hv hnv hr hBw hp).mono ?_
    rintro e w' ⟨x, a, n, c, q, h1, h2, h5, h4, h6, h7⟩
    exact ⟨x, a, n, c, q, h1, h2, h5, fun h => absurd h h3, h4, h6, h7⟩
end Go.Proofs.YtkapldpmjkdmcaaGreat
/- The nodes of an expression, counted by the reference and by the program. -/
namespace Go.Proofs.YtkapldpmjkdmcaaGreat
open Go.RowKit

/-- What is left of left, behind s; -1 if it is not enough. -/
def lft (s : Nat) (left : Int) : Int := if (s : Int) ≤ left then left - (s : Int) else -1
theorem lft_yes {s : Nat} {left : Int} (h : (s : Int) ≤ left) : lft s left = left - (s : Int) := if_pos h
theorem lft_no {s : Nat} {left : Int} (h : left < (s : Int)) : lft s left = -1 := if_neg (by omega)

set_option maxHeartbeats 1000000 in
theorem specNodesLeft_n (N : Nat) : ∀ (op num : Int) (es : List ExprL), nEs es < N → ∀ (a : Option Addr) (n c : Nat) (D : Nat → Prop) (left : Int) (w : World), Rd w D (encExprs es) (.slice a n c) → 0 ≤ left → left ≤ 1048576 →
    Calls Tryz.prog 144 #[.agg #[.int .i64 op, .int .i64 num, .slice a n c], .int .i64 left] w fun e w' => e = .returned (.int .i64 (lft (nEs es + 1) left)) ∧ Keep w w' := by
  induction N with
  | zero => intro _ _ es h; omega
  | succ N ihN =>
  intro op num es hN a n c D left w h h0 h1
  refine calls_k fun Q hQ => ?_
  obtain ⟨e1, hnc, hm, hat⟩ := exprs_at h
  have HL := Lib.hid e1
  have HA := Lib.hid hat
  have IH := Lib.hid (fun (j : Nat) (hj : j < es.length) => ihN (eAt es j).op (eAt es j).num (eAt es j).kids (by have := nE_le es hj; have := nE_eq (eAt es j); omega))
  clear e1 hat ihN hN
  have K0 := Keep.al w (.cells #[.int .i64 op, .int .i64 num, .slice a n c] 58)
  by_cases hl : left < 1
  · have V := Lib.hid (lft_no (s := nEs es + 1) (left := left) (by omega))
    go_enter Tryz.func144, Tryz.ntmps144
    go_wp2
    exact fin_ hQ ⟨ret_i V.out.symm, K0⟩
  go_enter Tryz.func144, Tryz.ntmps144
  go_wp2
  go_loopw [1, 5] (fun lv iv wr => ∃ j : Nat, j ≤ n ∧ iv = .int .i64 j ∧ lv = .int .i64 (left - 1 - (nEs (es.take j) : Int)) ∧ (nEs (es.take j) : Int) ≤ left - 1 ∧ Keep (w.alloc (.cells #[.int .i64 op, .int .i64 num, .slice a n c] 58)) wr) (fun _ i _ => n - (intOf i).toNat)
  case atStart => exact ⟨0, Nat.zero_le _, rfl, by simp [nEs], by simp only [List.take_zero, nEs]; omega, Ext.refl _ _⟩
  case round =>
    obtain ⟨j, hj, rfl, rfl, hsz, hK⟩ := hrel
    have x2 := boxk hK 2
    simp at x2
    by_cases hlt : j < n
    · have hst := nEs_take es (j := j) (by have := HL.out; omega)
      have hee := nE_eq (eAt es j)
      obtain ⟨b, o, rfl, hd, a2, n2, c2, d0, d1, d2, r2⟩ := HA.out j hlt
      have hKw := K0.trans hK
      have g0 := (hKw.cell (World.block_lt_of_cell? w _ d0) (fun h => h)).trans d0
      have g1 := (hKw.cell (World.block_lt_of_cell? w _ d1) (fun h => h)).trans d1
      have g2 := (hKw.cell (World.block_lt_of_cell? w _ d2) (fun h => h)).trans d2
      have q2 := r2.k hKw
      have t0 : 0 ≤ left - 1 - (nEs (es.take j) : Int) := by omega
      have HS := Lib.hid hst
      have HE := Lib.hid hee
      clear d0 d1 d2 r2 hst hee
      by_cases hf : (nEs (es.take (j + 1)) : Int) ≤ left - 1
      · have V : Hid (lft (nEs (eAt es j).kids + 1) (left - 1 - (nEs (es.take j) : Int)) = left - 1 - (nEs (es.take (j + 1)) : Int)) := by
          show _ = _
          have := HS.out; have := HE.out
          rw [lft_yes (by omega)]; omega
        have t1 : 0 ≤ left - 1 - (nEs (es.take (j + 1)) : Int) := by omega
        go_wp2_with fail
        refine (IH.out j (by have := HL.out; omega) _ _ _ _ _ _ q2 (by omega) (by omega)).mono ?_
        rw [V.out]
        rintro e w1 ⟨rfl, p1⟩
        go_wp2_with fail
        go_roundw
        case rel => exact ⟨j + 1, by omega, by go_num, rfl, by omega, hK.trans p1⟩
        case measure => simp [intOf]; omega
      · have V : Hid (lft (nEs (eAt es j).kids + 1) (left - 1 - (nEs (es.take j) : Int)) = -1) := by
          have := HS.out; have := HE.out
          exact lft_no (by omega)
        have hle := nEs_take_le es (j + 1)
        have V2 := Lib.hid (lft_no (s := nEs es + 1) (left := left) (by omega))
        go_wp2_with fail
        refine (IH.out j (by have := HL.out; omega) _ _ _ _ _ _ q2 (by omega) (by omega)).mono ?_
        rw [V.out]
        rintro e w1 ⟨rfl, p1⟩
        go_wp2_with fail
        exact fin_ hQ ⟨ret_i V2.out.symm, (K0.trans hK).trans p1⟩
    · have HJ : Hid (j = n) := by show _ = _; omega
      go_wp2
      exact fin_ hQ ⟨ret_i (by
        have e := HJ.out
        subst e
        rw [List.take_of_length_le (Nat.le_of_eq HL.out)] at hsz ⊢
        rw [lft_yes (by omega)]; omega), K0.trans hK⟩

theorem specNodesLeft (op num : Int) (es : List ExprL) (a : Option Addr) (n c : Nat) (D : Nat → Prop) (left : Int) (w : World) (h : Rd w D (encExprs es) (.slice a n c)) (h0 : 0 ≤ left) (h1 : left ≤ 1048576) :
    Calls Tryz.prog 144 #[.agg #[.int .i64 op, .int .i64 num, .slice a n c], .int .i64 left] w fun e w' => e = .returned (.int .i64 (lft (nEs es + 1) left)) ∧ Keep w w' :=
  specNodesLeft_n _ op num es (Nat.lt_succ_self _) a n c D left w h h0 h1

/-- The number of nodes; -1 if there are too many. -/
def nodesL (es : List ExprL) : Int := if nEs es + 1 ≤ 30 then ((nEs es + 1 : Nat) : Int) else -1
theorem nodesL_yes {es : List ExprL} (h : nEs es + 1 ≤ 30) : nodesL es = ((nEs es + 1 : Nat) : Int) := if_pos h
theorem nodesL_no {es : List ExprL} (h : ¬ nEs es + 1 ≤ 30) : nodesL es = -1 := if_neg h

theorem specNodesOf0 (op num : Int) (es : List ExprL) (a : Option Addr) (n c : Nat) (D : Nat → Prop) (w : World) (h : Rd w D (encExprs es) (.slice a n c)) :
    Calls Tryz.prog 98 #[.agg #[.int .i64 op, .int .i64 num, .slice a n c]] w fun e w' => e = .returned (.int .i64 (nodesL es)) ∧ Keep w w' := by
  refine calls_k fun Q hQ => ?_
  have K0 := Keep.al w (.cells #[.int .i64 op, .int .i64 num, .slice a n c] 58)
  by_cases hl : nEs es + 1 ≤ 30
  · have V := Lib.hid (nodesL_yes hl)
    have V2 := Lib.hid (lft_yes (s := nEs es + 1) (left := 30) (by omega))
    have b1 : 0 ≤ 30 - ((nEs es + 1 : Nat) : Int) := by omega
    generalize hm : nEs es + 1 = m at V V2 b1 hl
    have HM := Lib.hid hm
    clear hm
    go_enter Tryz.func98, Tryz.ntmps98
    go_wp2_with fail
    refine (specNodesLeft _ _ _ _ _ _ _ _ _ (h.k K0) (by omega) (by omega)).mono ?_
    rw [HM.out, V2.out]
    rintro e w1 ⟨rfl, p1⟩
    go_wp2_with fail
    exact fin_ hQ ⟨ret_i (by rw [V.out]; omega), K0.trans p1⟩
  · have V := Lib.hid (nodesL_no hl)
    have V2 := Lib.hid (lft_no (s := nEs es + 1) (left := 30) (by omega))
    clear hl
    go_enter Tryz.func98, Tryz.ntmps98
    go_wp2_with fail
    refine (specNodesLeft _ _ _ _ _ _ _ _ _ (h.k K0) (by omega) (by omega)).mono ?_
    rw [V2.out]
    rintro e w1 ⟨rfl, p1⟩
    go_wp2_with fail
    exact fin_ hQ ⟨ret_i V.out.symm, K0.trans p1⟩

set_option maxHeartbeats 1000000 in
theorem implCountNodes_n (N : Nat) : ∀ (op num : Int) (es : List ExprL), nEs es < N → ∀ (a : Option Addr) (n c p : Nat) (D : Nat → Prop) (m : Int) (w : World), Rd w D (encExprs es) (.slice a n c) → ¬ D p → w.rowIs p 3 1 (fun _ => .int .i64 m) → 0 ≤ m → m ≤ 30 →
    Calls Tryz.prog 73 #[.agg #[.int .i64 op, .int .i64 num, .slice a n c], .pointer (some ⟨p, 0, none⟩)] w fun e w' => e = .returned (.bool (decide (m + ((nEs es + 1 : Nat) : Int) ≤ 30))) ∧
      (m + ((nEs es + 1 : Nat) : Int) ≤ 30 → w'.rowIs p 3 1 (fun _ => .int .i64 (m + ((nEs es + 1 : Nat) : Int)))) ∧ Ext (· = p) w w' := by
  induction N with
  | zero => intro _ _ es h; omega
  | succ N ihN =>
  intro op num es hN a n c p D m w h hDp hp h0 h1
  refine calls_k fun Q hQ => ?_
  obtain ⟨e1, hnc, hm, hat⟩ := exprs_at h
  have HL := Lib.hid e1
  have HA := Lib.hid hat
  have IH := Lib.hid (fun (j : Nat) (hj : j < es.length) => ihN (eAt es j).op (eAt es j).num (eAt es j).kids (by have := nE_le es hj; have := nE_eq (eAt es j); omega))
  have hbox : ∀ k, D k → k ≠ p := fun k hk e => hDp (e ▸ hk)
  clear e1 hat ihN hN
  have hpl := hp.lt
  have v0 := hp.cell (i := 0) (by omega)
  have f0 := hp.frozen 0
  have X0 : Ext (· = p) w ((w.setCell ⟨p, 0, none⟩ (.int .i64 (m + 1))).alloc (.cells #[.int .i64 op, .int .i64 num, .slice a n c] 58)) := ((Ext.refl (· = p) w).setCell (p := ⟨p, 0, none⟩) (.inr rfl) _).alloc _
  have R0 : ((w.setCell ⟨p, 0, none⟩ (.int .i64 (m + 1))).alloc (.cells #[.int .i64 op, .int .i64 num, .slice a n c] 58)).rowIs p 3 1 (fun _ => .int .i64 (m + 1)) :=
    ((hp.set 0 (.int .i64 (m + 1))).alloc _).congr (fun i hi => by rw [if_pos (by omega)])
  have HR0 := Lib.hid R0
  have HX0 := Lib.hid X0
  have Hh := Lib.hid h
  clear hp X0 R0 h
  by_cases hm30 : 30 < m + 1
  · go_enter Tryz.func73, Tryz.ntmps73
    go_wp2
    exact fin_ hQ ⟨ret_b (decide_eq_false (by omega)).symm, fun h => by omega, HX0.out⟩
  go_enter Tryz.func73, Tryz.ntmps73
  go_wp2
  go_loopw [19] (fun iv wr => ∃ j : Nat, j ≤ n ∧ iv = .int .i64 j ∧ Hid (wr.rowIs p 3 1 (fun _ => .int .i64 (m + 1 + (nEs (es.take j) : Int)))) ∧ m + 1 + (nEs (es.take j) : Int) ≤ 30 ∧ Ext (· = p) w wr) (fun i _ => n - (intOf i).toNat)
  case atStart => exact ⟨0, Nat.zero_le _, rfl, by show World.rowIs _ _ _ _ _; simpa [nEs] using HR0.out, by simp only [List.take_zero, nEs]; omega, HX0.out⟩
  case round =>
    obtain ⟨j, hj, rfl, hR, hsz, hX⟩ := hrel
    by_cases hlt : j < n
    · have hst := nEs_take es (j := j) (by have := HL.out; omega)
      have hee := nE_eq (eAt es j)
      obtain ⟨b, o, rfl, hd, a2, n2, c2, d0, d1, d2, r2⟩ := HA.out j hlt
      have g0 := (hX.cell (World.block_lt_of_cell? w _ d0) (hbox _ hd)).trans d0
      have g1 := (hX.cell (World.block_lt_of_cell? w _ d1) (hbox _ hd)).trans d1
      have g2 := (hX.cell (World.block_lt_of_cell? w _ d2) (hbox _ hd)).trans d2
      have q2 := (r2.ext hX (fun k hk => hbox k hk)).k (Keep.al wr (.cells #[.int .i64 (eAt es j).op, .int .i64 (eAt es j).num, .slice a2 n2 c2] 58))
      have hR2 := Lib.hid (hR.out.alloc (.cells #[.int .i64 (eAt es j).op, .int .i64 (eAt es j).num, .slice a2 n2 c2] 58))
      have hX2 : Ext (· = p) w (wr.alloc (.cells #[.int .i64 (eAt es j).op, .int .i64 (eAt es j).num, .slice a2 n2 c2] 58)) := hX.trans (Keep.to (Keep.al _ _))
      have HS := Lib.hid hst
      have HE := Lib.hid hee
      clear d0 d1 d2 r2 hst hee hR hX
      by_cases hf : m + 1 + (nEs (es.take (j + 1)) : Int) ≤ 30
      · have V : Hid (decide (m + 1 + (nEs (es.take j) : Int) + ((nEs (eAt es j).kids + 1 : Nat) : Int) ≤ 30) = true) := by
          have := HS.out; have := HE.out
          exact decide_eq_true (by omega)
        go_wp2_with fail
        refine (IH.out j (by have := HL.out; omega) _ _ _ p D _ _ q2 hDp hR2.out (by omega) hsz).mono ?_
        rw [V.out]
        rintro e w1 ⟨rfl, hr1, p1⟩
        have HR1 : Hid (w1.rowIs p 3 1 (fun _ => .int .i64 (m + 1 + (nEs (es.take (j + 1)) : Int)))) := by
          have := HS.out; have := HE.out
          show World.rowIs _ _ _ _ _
          rw [show m + 1 + (nEs (es.take (j + 1)) : Int) = m + 1 + (nEs (es.take j) : Int) + ((nEs (eAt es j).kids + 1 : Nat) : Int) by omega]
          exact hr1 (by omega)
        clear hr1
        go_wp2_with fail
        go_roundw
        case rel => exact ⟨j + 1, by omega, by go_num, HR1, hf, hX2.trans p1⟩
        case measure => simp [intOf]; omega
      · have V : Hid (decide (m + 1 + (nEs (es.take j) : Int) + ((nEs (eAt es j).kids + 1 : Nat) : Int) ≤ 30) = false) := by
          have := HS.out; have := HE.out
          exact decide_eq_false (by omega)
        have hle := nEs_take_le es (j + 1)
        have V2 : ¬ m + ((nEs es + 1 : Nat) : Int) ≤ 30 := by omega
        have V3 := Lib.hid (decide_eq_false V2)
        go_wp2_with fail
        refine (IH.out j (by have := HL.out; omega) _ _ _ p D _ _ q2 hDp hR2.out (by omega) hsz).mono ?_
        rw [V.out]
        rintro e w1 ⟨rfl, _, p1⟩
        go_wp2_with fail
        exact fin_ hQ ⟨ret_b V3.out.symm, fun h => by omega, hX2.trans p1⟩
    · have HJ : Hid (j = n) := by show _ = _; omega
      have hfin : m + ((nEs es + 1 : Nat) : Int) = m + 1 + (nEs (es.take j) : Int) := by
        have e := HJ.out
        subst e
        rw [List.take_of_length_le (Nat.le_of_eq HL.out)]
        omega
      have HF := Lib.hid hfin
      clear hfin
      go_wp2
      exact fin_ hQ ⟨ret_b (decide_eq_true (by rw [HF.out]; exact hsz)).symm, fun _ => by rw [HF.out]; exact hR.out, hX⟩

theorem implNodesOf (op num : Int) (es : List ExprL) (a : Option Addr) (n c : Nat) (D : Nat → Prop) (w : World) (h : Rd w D (encExprs es) (.slice a n c)) :
    Calls Tryz.prog 31 #[.agg #[.int .i64 op, .int .i64 num, .slice a n c]] w fun e w' => e = .returned (.int .i64 (nodesL es)) ∧ Keep w w' := by
  refine calls_k fun Q hQ => ?_
  have K0 := Keep.al w (.cells #[.int .i64 op, .int .i64 num, .slice a n c] 58)
  have K1 := Keep.al (w.alloc (.cells #[.int .i64 op, .int .i64 num, .slice a n c] 58)) (.cells #[.int .i64 0] 3)
  have R := rowOf (w.alloc (.cells #[.int .i64 op, .int .i64 num, .slice a n c] 58)) #[.int .i64 0] 3
  simp only [World.size_alloc] at R
  replace R := R.congr (g := fun _ => .int .i64 0) (fun i hi => by
    obtain rfl : i = 0 := by simpa using hi
    rfl)
  have h' := ((h.lt.k K0).k K1)
  have HR := Lib.hid R
  clear R
  by_cases hl : nEs es + 1 ≤ 30
  · have V := Lib.hid (nodesL_yes hl)
    have V2 : Hid (decide (0 + ((nEs es + 1 : Nat) : Int) ≤ 30) = true) := decide_eq_true (by omega)
    have hl2 : 0 + ((nEs es + 1 : Nat) : Int) ≤ 30 := by omega
    go_enter Tryz.func31, Tryz.ntmps31
    go_wp2_with fail
    refine (implCountNodes_n _ op num es (Nat.lt_succ_self _) _ _ _ (w.heap.size + 1) _ 0 _ h' (by omega) HR.out (by omega) (by omega)).mono ?_
    rw [V2.out]
    rintro e w1 ⟨rfl, hr, p1⟩
    have v0 := (hr hl2).cell (i := 0) (by omega)
    clear hr
    go_wp2_with fail
    exact fin_ hQ ⟨ret_i (by rw [V.out]; omega), (K0.trans K1).then_ p1 (fun q hq e => by omega)⟩
  · have V := Lib.hid (nodesL_no hl)
    have V2 : Hid (decide (0 + ((nEs es + 1 : Nat) : Int) ≤ 30) = false) := decide_eq_false (by omega)
    clear hl
    go_enter Tryz.func31, Tryz.ntmps31
    go_wp2_with fail
    refine (implCountNodes_n _ op num es (Nat.lt_succ_self _) _ _ _ (w.heap.size + 1) _ 0 _ h' (by omega) HR.out (by omega) (by omega)).mono ?_
    rw [V2.out]
    rintro e w1 ⟨rfl, _, p1⟩
    go_wp2_with fail
    exact fin_ hQ ⟨ret_i V.out.symm, (K0.trans K1).then_ p1 (fun q hq e => by omega)⟩
end Go.Proofs.YtkapldpmjkdmcaaGreat
/- The generator of programs: variables that hold expressions; fitting. -/
namespace Go.Proofs.YtkapldpmjkdmcaaGreat
open Go.RowKit

/-- Block s is a variable that holds the expression x, of which the kids lie in blocks of D. -/
structure Ev (w : World) (s : Nat) (D : Nat → Prop) (x : ExprL) (a : Option Addr) (n c : Nat) : Prop where
  r : w.rowIs s 58 3 (fun i => #[Value.int .i64 x.op, Value.int .i64 x.num, Value.slice a n c].getD i undef)
  k : Rd w D (encExprs x.kids) (.slice a n c)
section
variable {w w' : World} {s : Nat} {D D' : Nat → Prop} {x : ExprL} {a : Option Addr} {n c : Nat}
theorem Ev.born (w : World) (D : Nat → Prop) (x : ExprL) (a : Option Addr) (n c : Nat) (h : Rd w D (encExprs x.kids) (.slice a n c)) : Ev (w.alloc (.cells #[.int .i64 x.op, .int .i64 x.num, .slice a n c] 58)) w.heap.size D x a n c :=
  ⟨rowOf w #[.int .i64 x.op, .int .i64 x.num, .slice a n c] 58, h.k (Keep.al _ _)⟩
theorem Ev.ext {S : Nat → Prop} (h : Ev w s D x a n c) (hx : Ext S w w') (h0 : ¬ S s) (h1 : ∀ k, D k → ¬ S k) : Ev w' s D x a n c := ⟨row_ext h.r hx h0, h.k.ext hx h1⟩
theorem Ev.keep (h : Ev w s D x a n c) (hx : Keep w w') : Ev w' s D x a n c := ⟨row_ext h.r hx (fun h => h), h.k.k hx⟩
theorem Ev.mono (h : Ev w s D x a n c) (hd : ∀ k, D k → D' k) : Ev w s D' x a n c := ⟨h.r, h.k.mono hd⟩
theorem Ev.v0 (h : Ev w s D x a n c) : w.cell? ⟨s, 0, none⟩ = some (.int .i64 x.op) := h.r.cell (i := 0) (by omega)
theorem Ev.v1 (h : Ev w s D x a n c) : w.cell? ⟨s, 1, none⟩ = some (.int .i64 x.num) := h.r.cell (i := 1) (by omega)
theorem Ev.v2 (h : Ev w s D x a n c) : w.cell? ⟨s, 2, none⟩ = some (.slice a n c) := h.r.cell (i := 2) (by omega)
theorem Ev.g0 (h : Ev w s D x a n c) : w.frozen? ⟨s, 0, none⟩ = false := h.r.frozen 0
theorem Ev.g1 (h : Ev w s D x a n c) : w.frozen? ⟨s, 1, none⟩ = false := h.r.frozen 1
theorem Ev.g2 (h : Ev w s D x a n c) : w.frozen? ⟨s, 2, none⟩ = false := h.r.frozen 2
theorem Ev.lt (h : Ev w s D x a n c) : s < w.heap.size := h.r.lt
/-- What a store of three cells changes. -/
theorem ext3 (w : World) (s : Nat) (v0 v1 v2 : Value) : Ext (fun q => q = s) w (((w.setCell ⟨s, 0, none⟩ v0).setCell ⟨s, 1, none⟩ v1).setCell ⟨s, 2, none⟩ v2) :=
  (((Ext.refl (fun q => q = s) w).setCell (p := ⟨s, 0, none⟩) (.inr rfl) v0).setCell (p := ⟨s, 1, none⟩) (.inr rfl) v1).setCell (p := ⟨s, 2, none⟩) (.inr rfl) v2
theorem Ev.store (h : Ev w s D x a n c) {y : ExprL} {a' : Option Addr} {n' c' : Nat} (hy : Rd w D' (encExprs y.kids) (.slice a' n' c')) (hs : ∀ k, D' k → k ≠ s) :
    Ev (((w.setCell ⟨s, 0, none⟩ (.int .i64 y.op)).setCell ⟨s, 1, none⟩ (.int .i64 y.num)).setCell ⟨s, 2, none⟩ (.slice a' n' c')) s D' y a' n' c' := by
  refine ⟨(((h.r.set 0 _).set 1 _).set 2 _).congr (fun i hi => ?_), hy.ext (ext3 _ _ _ _ _) hs⟩
  rcases (show i = 0 ∨ i = 1 ∨ i = 2 by omega) with rfl | rfl | rfl <;> rfl
end

set_option maxRecDepth 100000 in
set_option maxHeartbeats 4000000 in
theorem specFittingz (ds : List DeclL) (fs : List FuncL) (B g b : Nat) (hG : GoodG ds fs) (t : Int) (vars : List Int) (av : Option Addr) (nv cv : Nat) (p : Int) (a0 : Option Addr) (n0 c0 : Nat) (a1 : Option Addr) (n1 c1 : Nat) (bi : Int) (hbi : bi = (b : Int)) (w : World) (hT : T5 t) (hpg : PG w g ds fs a0 n0 c0 a1 n1 c1) (hv : Rd w (fun k => k ≠ g) (encInts vars) (.slice av nv cv)) (hnv : nv + 3 * b ≤ 900) (hr : Rdx w B g p) (hBw : B ≤ w.heap.size) (hp : p + 2 * pkG b ≤ 900000000000) :
    Calls Tryz.prog 221 #[.pointer (some ⟨g, 0, none⟩), .agg #[.slice a0 n0 c0, .slice a1 n1 c1], .slice av nv cv, .int .i64 t, .int .i64 bi] w (GenPz B g p (2 * pkG b) 1000 30 w) := by
  subst hbi
  refine calls_k fun Q hQ => ?_
  have HG := Lib.hid hG
  have HP := Lib.hid hpg
  have BW := Lib.hid hBw
  have hgB := hr.gB
  have hgw : g < w.heap.size := by omega
  have K1 := (Keep.al w (.cells #[.slice a0 n0 c0, .slice a1 n1 c1] 44)).trans (Keep.al _ (.cells #[.int .i64 0, .int .i64 0, .slice none 0 0] 58))
  have B0 := Lib.hid (Bx.born w (.slice a0 n0 c0) (.slice a1 n1 c1))
  have hds := hG.len4
  have hfs := hG.len
  have hn0 : n0 ≤ 4 := by have := (decls_at hpg.d).1; omega
  have hn1 : n1 ≤ 4 := by have := (funcs_at hpg.f).1; omega
  have qr := Lib.hid (hr.keep K1)
  have X1 := Lib.hid (Keep.to (S := (· = g)) K1)
  have HT := Lib.hid hT
  have HV := Lib.hid hv
  have HPP := Lib.hid hp
  have hpb := pkG_pos b
  have PD := Lib.hid (hpg.k K1)
  have VD := Lib.hid (hv.k K1)
  have BD : Hid (B ≤ ((w.alloc (.cells #[.slice a0 n0 c0, .slice a1 n1 c1] 44)).alloc (.cells #[.int .i64 0, .int .i64 0, .slice none 0 0] 58)).heap.size) := Nat.le_trans hBw X1.out.size
  clear hG hpg hv hr hBw hT hp K1
  go_enter Tryz.func221, Tryz.ntmps221
  go_wp2_with fail
  refine (specGenB ds fs B g b HG.out t vars _ _ _ p _ _ _ _ _ _ _ HT.out PD.out VD.out hnv qr.out BD.out (by have := HPP.out; omega)).mono ?_
  rintro e w2 ⟨x, ax, nx, cx, q2, rfl, rx, fx, sx, r2, hq2, x2⟩
  have b2x := Lib.hid ((B0.out.ext x2 hgw).k (Keep.al w2 (.cells #[.int .i64 x.op, .int .i64 x.num, .slice ax nx cx] 58)))
  have X2 := Lib.hid ((X1.out.trans x2).trans (Keep.to (Keep.al w2 (.cells #[.int .i64 x.op, .int .i64 x.num, .slice ax nx cx] 58))))
  have R2 := Lib.hid (r2.keep (Keep.al w2 (.cells #[.int .i64 x.op, .int .i64 x.num, .slice ax nx cx] 58)))
  have hs2 := x2.size
  have hws : w.heap.size + 2 ≤ w2.heap.size := by simp at hs2; omega
  have E2 := Lib.hid (Ev.born w2 (fun k => w.heap.size + 2 ≤ k ∧ k ≠ w2.heap.size) x ax nx cx (rx.lt.mono (fun k hk => ⟨by have := hk.1; simp at this; omega, by omega⟩)))
  have FX := Lib.hid fx
  have HQ2 := Lib.hid hq2
  have SX : Hid (b < 3 → nE x ≤ 4) := sx
  clear rx fx sx r2 hq2 x2 hs2 PD VD BD
  go_wp2_with fail
  go_loopw [4] (fun sv wr => ∃ (k : Nat) (y : ExprL) (ay : Option Addr) (ny cy : Nat) (q : Int), sv = .int .i64 k ∧ k ≤ b ∧ Hid (Ev wr w2.heap.size (fun k => w.heap.size + 2 ≤ k ∧ k ≠ w2.heap.size) y ay ny cy) ∧ Hid (allE (gfit 1000) y) ∧ Hid (k < 3 → nE y ≤ 4) ∧ Hid (Rdx wr B g q) ∧ Hid (q ≤ p + 2 * pkG b - pkG k) ∧ Hid (Bx wr w.heap.size (.slice a0 n0 c0) (.slice a1 n1 c1)) ∧ Hid (Ext (· = g) w wr)) (fun i _ => (intOf i).toNat)
  case atStart => exact ⟨b, x, ax, nx, cx, q2, rfl, Nat.le_refl _, E2, FX, SX, R2, by show _ ≤ _; have := HQ2.out; omega, b2x, X2⟩
  case round =>
    clear E2 FX SX R2 HQ2 b2x
    obtain ⟨k, y, ay, ny, cy, q, rfl, hk, hE, hF, hS, hR, hq, hB, hX⟩ := hrel
    have e0 := hE.out.v0
    have e1 := hE.out.v1
    have e2 := hE.out.v2
    have HN := Lib.hid (specNodesOf0 y.op y.num y.kids ay ny cy _ wr hE.out.k)
    by_cases hl : nEs y.kids + 1 ≤ 30 ∨ k ≤ 2
    · have HW : Hid (nodesL y.kids < 0 → k ≤ 2) := fun h => hl.resolve_left (fun h1 => by rw [nodesL_yes h1] at h; omega)
      clear hl
      by_cases hz : nodesL y.kids < 0
      all_goals
        first
          | (have hk2 : (k : Int) ≤ 2 := by have := HW.out hz; omega)
          | (have hz2 : 0 ≤ nodesL y.kids := by omega)
        go_wp2_with fail
        refine HN.out.mono ?_
        rintro e w3 ⟨rfl, k3⟩
        have bz := Lib.hid (hB.out.k k3)
        have EZ := Lib.hid (hE.out.keep k3)
        have X9 := Lib.hid (hX.out.trans (Keep.to k3))
        have R9 := Lib.hid (hR.out.keep k3)
        have HZ9 : Hid (nEs y.kids + 1 ≤ 30) := by
          show _ ≤ _
          by_cases hn : nEs y.kids + 1 ≤ 30
          · exact hn
          · have h1 := hS.out (by have := HW.out (by rw [nodesL_no hn]; omega); omega)
            rw [nE_eq] at h1
            omega
        have e0 := EZ.out.v0
        have e1 := EZ.out.v1
        have e2 := EZ.out.v2
        have hff := Lib.hid ((allE_eq _ _).1 hF.out)
        have HQ9 : Hid (q ≤ p + 2 * pkG b) := by show _ ≤ _; have := hq.out; have := pkG_pos k; omega
        have RX := Lib.hid (EZ.out.k.mono (D' := fun k => w.heap.size + 2 ≤ k) (fun k h => h.1))
        clear k3
        have bz := bz.out
        have u0 := bz.u0
        have u1 := bz.u1
        have u2 := bz.u2
        have f0 := bz.f0
        have f1 := bz.f1
        have f2 := bz.f2
        clear bz
        go_wp2_with fail
        refine bodyPost_ret (v := .agg #[.int .i64 y.op, .int .i64 y.num, .slice ay ny cy]) (by simp [results, Tryz.results221, go_sem, u0, u1, u2]) rfl (fin_ hQ ?_)
        exact gen_finz (ks := y.kids) X9.out R9.out BW.out RX.out hff.out.1 hff.out.2 HQ9.out HZ9.out
    · have h1 : ¬ nEs y.kids + 1 ≤ 30 := fun h => hl (.inl h)
      have h2 : ¬ k ≤ 2 := fun h => hl (.inr h)
      have hz : nodesL y.kids = -1 := nodesL_no h1
      have HZ := Lib.hid hz
      have hk2 : (2 : Int) < (k : Int) := by omega
      clear hl h1 hz
      obtain ⟨c, hc⟩ : ∃ c, c = k / 2 := ⟨_, rfl⟩
      have HC := Lib.hid hc
      have hck : c < k := by omega
      have hhalf : Hid (8 * pkG c ≤ 2 * pkG k) := by show _ ≤ _; rw [hc]; exact pkG_half (by omega)
      have hdv : IntKind.i64.wrap (Int.tdiv (k : Int) 2) = (c : Int) := by rw [IntWalk.i64_quo _ _ (by omega), HC.out, Int.natCast_ediv]; rfl
      have hdv3 : IntKind.i64.wrap (c : Int) = (c : Int) := IntWalk.i64_in _ (by omega)
      have hdv2 : (k : Int) / 2 = (c : Int) := by rw [HC.out, Int.natCast_ediv]; rfl
      have hpc := pkG_pos c
      clear hc
      go_wp2_with fail
      refine HN.out.mono ?_
      rw [HZ.out]
      rintro e w3 ⟨rfl, k3⟩
      have B3 := Lib.hid (hB.out.k k3)
      have EZ := Lib.hid (hE.out.keep k3)
      have X3 := Lib.hid (hX.out.trans (Keep.to k3))
      have R3 := Lib.hid (hR.out.keep k3)
      have PD := Lib.hid (HP.out.ext X3.out)
      have VD := Lib.hid (HV.out.g X3.out)
      have BD : Hid (B ≤ w3.heap.size) := Nat.le_trans BW.out X3.out.size
      have x0 := B3.out.x0
      have x1 := B3.out.x1
      clear k3 e0 e1 e2
      go_wp2_with fail
      refine (specGenB ds fs B g c HG.out t vars _ _ _ q _ _ _ _ _ _ _ HT.out PD.out VD.out (by omega) R3.out BD.out (by have := HPP.out; have := hq.out; have := hhalf.out; omega)).mono ?_
      rintro e w4 ⟨z, az, nz, cz, q4, rfl, rz, fz, sz, r4, hq4, x4⟩
      have E4 := Lib.hid (EZ.out.ext x4 (by have := X2.out.size; omega) (fun k hk => by omega))
      have hl2 := EZ.out.lt
      have g0 := E4.out.v0
      have g1 := E4.out.v1
      have g2 := E4.out.v2
      have f0 := E4.out.g0
      have f1 := E4.out.g1
      have f2 := E4.out.g2
      have Y := Lib.hid (ext3 w4 w2.heap.size (.int .i64 z.op) (.int .i64 z.num) (.slice az nz cz))
      have E5 := Lib.hid (E4.out.store (y := z) (D' := fun k => w.heap.size + 2 ≤ k ∧ k ≠ w2.heap.size) (rz.mono (fun k hk => by omega)) (fun k hk => hk.2))
      have B5 := Lib.hid ((B3.out.ext x4 hgw).extS Y.out (by omega) (by omega))
      have X5 := Lib.hid ((X3.out.trans x4).then_ Y.out (fun i hi h => by omega))
      have R5 := Lib.hid (r4.ext Y.out (fun k hk h => by have := BW.out; omega))
      have HF5 := Lib.hid fz
      have HS5 : Hid (c < 3 → nE z ≤ 4) := sz
      have HQ5 : Hid (q4 ≤ p + 2 * pkG b - pkG c) := by show _ ≤ _; have := hq.out; have := hhalf.out; omega
      clear rz fz sz r4 hq4 x4 x0 x1
      go_wp2_with fail
      go_roundw
      case rel => exact ⟨c, z, az, nz, cz, q4, rfl, by omega, E5, HF5, HS5, R5, HQ5, B5, X5⟩
      case measure => simp [intOf]; omega
end Go.Proofs.YtkapldpmjkdmcaaGreat
