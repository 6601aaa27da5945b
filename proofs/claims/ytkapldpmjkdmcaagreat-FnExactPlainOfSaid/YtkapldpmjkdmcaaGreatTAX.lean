/- withBody of routines, plainOf and PlainOf of the reference. -/
import Derived.Test.YtkapldpmjkdmcaaGreatTAW
import Derived.Test.YtkapldpmjkdmcaaGreatTAB
namespace Go.Proofs.YtkapldpmjkdmcaaGreat
open Go.RowKit

theorem lent_len {s : SigL} (h : lentOk s = true) : s.lent.length ≤ s.params.length := by
  have hat : ∀ k, k < s.lent.length → lentAt s k = true := nAll.1 h
  have hk : ∀ k, k < s.lent.length → (k : Int) ≤ iAt s.lent k := by
    intro k
    induction k with
    | zero =>
      intro h0
      have h1 := hat 0 h0
      simp only [lentAt, Bool.and_eq_true, decide_eq_true_eq] at h1
      exact h1.1.1.1
    | succ k ih =>
      intro hk
      have h1 := hat (k + 1) hk
      have h2 := ih (by omega)
      simp only [lentAt, Bool.and_eq_true, Bool.or_eq_true, decide_eq_true_eq] at h1
      have h3 := h1.2
      rw [Nat.add_sub_cancel] at h3
      rcases h3 with h3 | h3 <;> omega
  rcases Nat.eq_zero_or_pos s.lent.length with h0 | h0
  · omega
  · have h1 := hat (s.lent.length - 1) (by omega)
    have h2 := hk (s.lent.length - 1) (by omega)
    simp only [lentAt, Bool.and_eq_true, decide_eq_true_eq] at h1
    have h3 := h1.1.1.2
    omega
theorem sigR_len {ds : List DeclL} {rs : List RoutL} (h : sigsOk ds (rs.map sigR) = true) {i : Nat} (hi : i < rs.length) : (rtAt rs i).params.length ≤ 3 ∧ (rtAt rs i).lent.length ≤ 3 := by
  have hs := (sigsOk_parts h).2.2.2 i (by simpa using hi)
  rw [sgAt_sigR rs hi] at hs
  obtain ⟨h1, _, _, h4⟩ := sigOk_parts hs
  have h5 := lent_len h4
  exact ⟨h1, Nat.le_trans h5 h1⟩

set_option maxRecDepth 100000 in
set_option maxHeartbeats 2000000 in
theorem specWithBodyRt (xs ys : List Int) (res rb br : Int) (a0 : Option Addr) (n0 c0 : Nat) (a1 : Option Addr) (n1 c1 : Nat) (a3 : Option Addr) (n3 c3 : Nat) (az : Option Addr) (ns cs : Nat) (D0 D1 : Nat → Prop) (w : World) (r0 : Rd w D0 (encInts xs) (.slice a0 n0 c0)) (r1 : Rd w D1 (encInts ys) (.slice a1 n1 c1)) (h0 : n0 ≤ 1048576) (h1 : n1 ≤ 1048576) :
    Calls Tryz.prog 80 #[.agg #[.slice a0 n0 c0, .slice a1 n1 c1, .int .i64 res, .slice a3 n3 c3, .int .i64 rb], .agg #[.slice az ns cs, .int .i64 br]] w fun e w' => ∃ p0 e0 p1 e1, e = .returned (.agg #[.slice p0 n0 e0, .slice p1 n1 e1, .int .i64 res, .slice az ns cs, .int .i64 br]) ∧ Rd w' (fun k => w.heap.size ≤ k) (encInts xs) (.slice p0 n0 e0) ∧ Rd w' (fun k => w.heap.size ≤ k) (encInts ys) (.slice p1 n1 e1) ∧ Keep w w' := by
  refine calls_k fun Q hQ => ?_
  have KA := ((Keep.al w (.cells #[.slice a0 n0 c0, .slice a1 n1 c1, .int .i64 res, .slice a3 n3 c3, .int .i64 rb] 71)).trans (Keep.al _ (.cells #[.slice az ns cs, .int .i64 br] 69))).trans (Keep.al _ (.cells #[.slice none 0 0, .slice none 0 0, .int .i64 0, .slice none 0 0, .int .i64 0] 71))
  have RR := ((rowOf w #[.slice a0 n0 c0, .slice a1 n1 c1, .int .i64 res, .slice a3 n3 c3, .int .i64 rb] 71).alloc (.cells #[.slice az ns cs, .int .i64 br] 69)).alloc (.cells #[.slice none 0 0, .slice none 0 0, .int .i64 0, .slice none 0 0, .int .i64 0] 71)
  have RB := (rowOf (w.alloc (.cells #[.slice a0 n0 c0, .slice a1 n1 c1, .int .i64 res, .slice a3 n3 c3, .int .i64 rb] 71)) #[.slice az ns cs, .int .i64 br] 69).alloc (.cells #[.slice none 0 0, .slice none 0 0, .int .i64 0, .slice none 0 0, .int .i64 0] 71)
  have RZ := rowOf ((w.alloc (.cells #[.slice a0 n0 c0, .slice a1 n1 c1, .int .i64 res, .slice a3 n3 c3, .int .i64 rb] 71)).alloc (.cells #[.slice az ns cs, .int .i64 br] 69)) #[.slice none 0 0, .slice none 0 0, .int .i64 0, .slice none 0 0, .int .i64 0] 71
  simp only [World.size_alloc] at RB RZ
  have k0 : (((w.alloc (.cells #[.slice a0 n0 c0, .slice a1 n1 c1, .int .i64 res, .slice a3 n3 c3, .int .i64 rb] 71)).alloc (.cells #[.slice az ns cs, .int .i64 br] 69)).alloc (.cells #[.slice none 0 0, .slice none 0 0, .int .i64 0, .slice none 0 0, .int .i64 0] 71)).cell? ⟨w.heap.size, 0, none⟩ = some (.slice a0 n0 c0) := RR.cell (i := 0) (by simp)
  have k1 : (((w.alloc (.cells #[.slice a0 n0 c0, .slice a1 n1 c1, .int .i64 res, .slice a3 n3 c3, .int .i64 rb] 71)).alloc (.cells #[.slice az ns cs, .int .i64 br] 69)).alloc (.cells #[.slice none 0 0, .slice none 0 0, .int .i64 0, .slice none 0 0, .int .i64 0] 71)).cell? ⟨w.heap.size, 1, none⟩ = some (.slice a1 n1 c1) := RR.cell (i := 1) (by simp)
  have k2 : (((w.alloc (.cells #[.slice a0 n0 c0, .slice a1 n1 c1, .int .i64 res, .slice a3 n3 c3, .int .i64 rb] 71)).alloc (.cells #[.slice az ns cs, .int .i64 br] 69)).alloc (.cells #[.slice none 0 0, .slice none 0 0, .int .i64 0, .slice none 0 0, .int .i64 0] 71)).cell? ⟨w.heap.size, 2, none⟩ = some (.int .i64 res) := RR.cell (i := 2) (by simp)
  have b0 : (((w.alloc (.cells #[.slice a0 n0 c0, .slice a1 n1 c1, .int .i64 res, .slice a3 n3 c3, .int .i64 rb] 71)).alloc (.cells #[.slice az ns cs, .int .i64 br] 69)).alloc (.cells #[.slice none 0 0, .slice none 0 0, .int .i64 0, .slice none 0 0, .int .i64 0] 71)).cell? ⟨w.heap.size + 1, 0, none⟩ = some (.slice az ns cs) := RB.cell (i := 0) (by simp)
  have b1 : (((w.alloc (.cells #[.slice a0 n0 c0, .slice a1 n1 c1, .int .i64 res, .slice a3 n3 c3, .int .i64 rb] 71)).alloc (.cells #[.slice az ns cs, .int .i64 br] 69)).alloc (.cells #[.slice none 0 0, .slice none 0 0, .int .i64 0, .slice none 0 0, .int .i64 0] 71)).cell? ⟨w.heap.size + 1, 1, none⟩ = some (.int .i64 br) := RB.cell (i := 1) (by simp)
  have QP0 := Lib.hid (r0.k KA)
  have QP1 := Lib.hid (r1.k KA)
  have RZ := Lib.hid RZ
  have KW := Lib.hid KA
  have HSW : Hid ((((w.alloc (.cells #[.slice a0 n0 c0, .slice a1 n1 c1, .int .i64 res, .slice a3 n3 c3, .int .i64 rb] 71)).alloc (.cells #[.slice az ns cs, .int .i64 br] 69)).alloc (.cells #[.slice none 0 0, .slice none 0 0, .int .i64 0, .slice none 0 0, .int .i64 0] 71)).heap.size = w.heap.size + 3) := by show _ = _; simp
  clear KA RR RB r0 r1
  go_enter Tryz.func80, Tryz.ntmps80
  go_wp2_with fail
  generalize hW : ((w.alloc (.cells #[.slice a0 n0 c0, .slice a1 n1 c1, .int .i64 res, .slice a3 n3 c3, .int .i64 rb] 71)).alloc (.cells #[.slice az ns cs, .int .i64 br] 69)).alloc (.cells #[.slice none 0 0, .slice none 0 0, .int .i64 0, .slice none 0 0, .int .i64 0] 71) = W at *
  clear hW
  refine wp_region_held_drew (S := fun w' => w'.cell? ⟨w.heap.size, 0, none⟩ = some (.slice a0 n0 c0) ∧ w'.cell? ⟨w.heap.size, 1, none⟩ = some (.slice a1 n1 c1) ∧ w'.cell? ⟨w.heap.size, 2, none⟩ = some (.int .i64 res) ∧ w'.cell? ⟨w.heap.size + 1, 0, none⟩ = some (.slice az ns cs) ∧ w'.cell? ⟨w.heap.size + 1, 1, none⟩ = some (.int .i64 br)) (by kernel_rfl) ⟨k0, k1, k2, b0, b1⟩ (fun hHeld => ?_)
  refine wT 0 hHeld ?_
  try go_frame
  refine wT 1 hHeld ?_
  try go_frame
  refine wT 3 hHeld ?_
  try go_frame
  refine wT 4 hHeld ?_
  try go_frame
  refine wT 6 hHeld ?_
  try go_frame
  refine wT 7 hHeld ?_
  try go_frame
  refine wT 8 hHeld ?_
  try go_frame
  refine wO 2 (fun K hK => ?_)
  go_simp
  go_at_call 102
  refine (copyInts_any a0 n0 c0 _ _ W.drew (QP0.out.kd).toInts (by omega)).mono ?_
  rintro e Y1 ⟨p0, e0, rfl, hc0, o0, kY1⟩
  have k0Y1 := Keep.at kY1 k0
  have k1Y1 := Keep.at kY1 k1
  have k2Y1 := Keep.at kY1 k2
  have b0Y1 := Keep.at kY1 b0
  have b1Y1 := Keep.at kY1 b1
  have OP0 : Hid (Rd Y1 (fun k => W.heap.size ≤ k) (encInts xs) (.slice p0 n0 e0)) := (o0.read.toRd hc0 (by omega)).mono (fun k hk => Nat.le_trans (Nat.le_refl _) hk)
  clear o0
  have KYY1 := Lib.hid (Keep.dt kY1)
  refine hK.out _ _ ⟨k0Y1, k1Y1, k2Y1, b0Y1, b1Y1⟩ (fun hHeld => ?_)
  clear hK K
  try go_frame
  refine wO 5 (fun K hK => ?_)
  go_simp
  go_at_call 102
  refine (copyInts_any a1 n1 c1 _ _ Y1 (QP1.out.k KYY1.out).toInts (by omega)).mono ?_
  rintro e Y2 ⟨p1, e1, rfl, hc1, o1, kY2⟩
  have k0Y2 := kY2.cq k0Y1 (fun h => h)
  have k1Y2 := kY2.cq k1Y1 (fun h => h)
  have k2Y2 := kY2.cq k2Y1 (fun h => h)
  have b0Y2 := kY2.cq b0Y1 (fun h => h)
  have b1Y2 := kY2.cq b1Y1 (fun h => h)
  have OP1 : Hid (Rd Y2 (fun k => W.heap.size ≤ k) (encInts ys) (.slice p1 n1 e1)) := (o1.read.toRd hc1 (by omega)).mono (fun k hk => Nat.le_trans KYY1.out.size hk)
  clear o1
  have KYY2 := Lib.hid (KYY1.out.trans kY2)
  have OP0 := Lib.hid (OP0.out.k kY2)
  refine hK.out _ _ ⟨k0Y2, k1Y2, k2Y2, b0Y2, b1Y2⟩ (fun hHeld => ?_)
  clear hK K
  try go_frame
  refine wT 9 hHeld ?_
  try go_frame
  refine wO 10 (fun K hK => ?_)
  have RZ2 := Lib.hid (row_ext RZ.out KYY2.out (fun h => h))
  have v0 : Y2.cell? ⟨w.heap.size + 2, 0, none⟩ = some (.slice none 0 0) := RZ2.out.cell (i := 0) (by simp)
  have v1 : Y2.cell? ⟨w.heap.size + 2, 1, none⟩ = some (.slice none 0 0) := RZ2.out.cell (i := 1) (by simp)
  have v2 : Y2.cell? ⟨w.heap.size + 2, 2, none⟩ = some (.int .i64 0) := RZ2.out.cell (i := 2) (by simp)
  have v3 : Y2.cell? ⟨w.heap.size + 2, 3, none⟩ = some (.slice none 0 0) := RZ2.out.cell (i := 3) (by simp)
  have v4 : Y2.cell? ⟨w.heap.size + 2, 4, none⟩ = some (.int .i64 0) := RZ2.out.cell (i := 4) (by simp)
  have f0 := RZ2.out.frozen 0
  have f1 := RZ2.out.frozen 1
  have f2 := RZ2.out.frozen 2
  have f3 := RZ2.out.frozen 3
  have f4 := RZ2.out.frozen 4
  go_simp
  obtain ⟨wi, hWi⟩ : ∃ yW : World, yW = ((((Y2.setCell ⟨w.heap.size + 2, 0, none⟩ (.slice p0 n0 e0)).setCell ⟨w.heap.size + 2, 1, none⟩ (.slice p1 n1 e1)).setCell ⟨w.heap.size + 2, 2, none⟩ (.int .i64 res)).setCell ⟨w.heap.size + 2, 3, none⟩ (.slice az ns cs)).setCell ⟨w.heap.size + 2, 4, none⟩ (.int .i64 br) := ⟨_, rfl⟩
  rw [← hWi]
  have XI : Hid (Ext (fun k => k = w.heap.size + 2) Y2 wi) := by show Ext _ _ _; rw [hWi]; exact (((((Ext.refl (fun k => k = w.heap.size + 2) Y2).setCell (p := ⟨w.heap.size + 2, 0, none⟩) (.inr rfl) _).setCell (p := ⟨w.heap.size + 2, 1, none⟩) (.inr rfl) _).setCell (p := ⟨w.heap.size + 2, 2, none⟩) (.inr rfl) _).setCell (p := ⟨w.heap.size + 2, 3, none⟩) (.inr rfl) _).setCell (p := ⟨w.heap.size + 2, 4, none⟩) (.inr rfl) _
  have RS : Hid (wi.rowIs (w.heap.size + 2) 71 5 (fun i => (#[.slice p0 n0 e0, .slice p1 n1 e1, .int .i64 res, .slice az ns cs, .int .i64 br] : Array Value).getD i undef)) := by
    show World.rowIs _ _ _ _ _
    rw [hWi]
    exact (((((RZ2.out.set 0 _).set 1 _).set 2 _).set 3 _).set 4 _).congr (fun i hi => by rcases (show i = 0 ∨ i = 1 ∨ i = 2 ∨ i = 3 ∨ i = 4 by simpa using (show i = 0 ∨ i = 1 ∨ i = 2 ∨ i = 3 ∨ i = 4 by simp at hi; omega)) with rfl | rfl | rfl | rfl | rfl <;> rfl)
  have KYL := KYY2
  clear hWi v0 v1 v2 v3 v4 f0 f1 f2 f3 f4
  have k0i := XI.out.cq k0Y2 (fun h => by change w.heap.size = _ at h; omega)
  have k1i := XI.out.cq k1Y2 (fun h => by change w.heap.size = _ at h; omega)
  have k2i := XI.out.cq k2Y2 (fun h => by change w.heap.size = _ at h; omega)
  have b0i := XI.out.cq b0Y2 (fun h => by change w.heap.size + 1 = _ at h; omega)
  have b1i := XI.out.cq b1Y2 (fun h => by change w.heap.size + 1 = _ at h; omega)
  refine hK.out _ _ ⟨k0i, k1i, k2i, b0i, b1i⟩ (fun hHeld => ?_)
  clear hK K
  try go_frame
  refine wpAnyH_done (by kernel_rfl) ?_ _
  rotate_left
  all_goals
    have g0 : wi.cell? ⟨w.heap.size + 2, 0, none⟩ = some (.slice p0 n0 e0) := RS.out.cell (i := 0) (by omega)
    have g1 : wi.cell? ⟨w.heap.size + 2, 1, none⟩ = some (.slice p1 n1 e1) := RS.out.cell (i := 1) (by omega)
    have g2 : wi.cell? ⟨w.heap.size + 2, 2, none⟩ = some (.int .i64 res) := RS.out.cell (i := 2) (by omega)
    have g3 : wi.cell? ⟨w.heap.size + 2, 3, none⟩ = some (.slice az ns cs) := RS.out.cell (i := 3) (by omega)
    have g4 : wi.cell? ⟨w.heap.size + 2, 4, none⟩ = some (.int .i64 br) := RS.out.cell (i := 4) (by omega)
    have hsw := HSW.out
    have OF0 := Lib.hid ((OP0.out.ext XI.out (fun k hk e => by omega)).mono (D' := fun k => w.heap.size ≤ k) (fun k hk => by omega))
    have OF1 := Lib.hid ((OP1.out.ext XI.out (fun k hk e => by omega)).mono (D' := fun k => w.heap.size ≤ k) (fun k hk => by omega))
    have KF := Lib.hid ((KW.out.trans KYL.out).then_ XI.out (fun i hi e => by omega))
    go_wp2_with fail
    exact bodyPost_ret (v := .agg #[.slice p0 n0 e0, .slice p1 n1 e1, .int .i64 res, .slice az ns cs, .int .i64 br]) (by simp [results, Tryz.results80, go_sem, g0, g1, g2, g3, g4]) rfl (fin_ hQ ⟨p0, e0, p1, e1, rfl, OF0.out, OF1.out, KF.out⟩)

set_option maxRecDepth 100000 in
set_option maxHeartbeats 4000000 in
theorem specPlainOf0 (ds : List DeclL) (rs : List RoutL) (hp : normOk ds rs = true) (hor : okRs rs) (a0 : Option Addr) (n0 c0 : Nat) (a1 : Option Addr) (n1 c1 : Nat) (D0 D1 : Nat → Prop) (w : World) (r0 : Rd w D0 (encDecls ds) (.slice a0 n0 c0)) (r1 : Rd w D1 (encRouts rs) (.slice a1 n1 c1)) :
    Calls Tryz.prog 35 #[.agg #[.slice a0 n0 c0, .slice a1 n1 c1]] w fun e w' => ∃ ad nd cd ar nr cr, e = .returned (.agg #[.slice ad nd cd, .slice ar nr cr]) ∧ Rd w' (fun k => w.heap.size ≤ k) (encDecls ds) (.slice ad nd cd) ∧ Rd w' (fun k => w.heap.size ≤ k) (encRouts (rs.map plR)) (.slice ar nr cr) ∧ Keep w w' := by
  refine calls_k fun Q hQ => ?_
  have HP := Lib.hid hp
  have HOR := Lib.hid hor
  have hok := (normOk_parts hp).1
  have ht := (sigsOk_parts hok).1
  have K0 := (Keep.al w (.cells #[.slice a0 n0 c0, .slice a1 n1 c1] 30)).trans (Keep.al _ (.cells #[.slice none 0 0, .slice none 0 0] 30))
  have R0 := Lib.hid ((rowOf w #[.slice a0 n0 c0, .slice a1 n1 c1] 30).alloc (.cells #[.slice none 0 0, .slice none 0 0] 30))
  have RZ0 := rowOf (w.alloc (.cells #[.slice a0 n0 c0, .slice a1 n1 c1] 30)) #[.slice none 0 0, .slice none 0 0] 30
  simp only [World.size_alloc] at RZ0
  have RZ0 := Lib.hid RZ0
  have hq0 := r0.lt.k K0
  have hq1 := r1.lt.k K0
  have KW0 := Lib.hid K0
  have hsz : ((w.alloc (.cells #[.slice a0 n0 c0, .slice a1 n1 c1] 30)).alloc (.cells #[.slice none 0 0, .slice none 0 0] 30)).heap.size = w.heap.size + 2 := by simp
  have HSZ := Lib.hid hsz
  have hnf : rs.length ≤ 4 := by have h := (sigsOk_parts hok).2.2.1; rw [List.length_map] at h; omega
  have HOK := Lib.hid hok
  have HFW := Few.of_ok ht
  clear hp hor r0 r1 K0 hsz hok
  go_enter Tryz.func35, Tryz.ntmps35
  go_wp2_with fail
  refine (specCopyDecls ds _ _ _ _ _ hq0 HFW (fun j k => decl_fields ht j k)).mono ?_
  rintro e w1 ⟨ad, nd, cd, rfl, rd, p1⟩
  have K1 := Lib.hid (KW0.out.trans p1)
  have hw1 : w.heap.size + 2 ≤ w1.heap.size := by have := p1.size; have := HSZ.out; omega
  have RD := Lib.hid (rd.lt.mono (D' := fun k => w.heap.size + 2 ≤ k ∧ k < w1.heap.size) (fun k hk => ⟨by have := hk.1; have := HSZ.out; omega, hk.2⟩))
  have Q0 := Lib.hid (hq0.k p1)
  have Q1 := Lib.hid (hq1.k p1)
  have R0 := Lib.hid (row_ext R0.out p1 (fun h => h))
  have RZ0 := Lib.hid (row_ext RZ0.out p1 (fun h => h))
  clear hq0 hq1 rd p1
  have KA := Keep.al w1 (.cells #[] 71)
  have RQ0 := rowOf (w1.alloc (.cells #[] 71)) #[.slice ad nd cd, .slice (some ⟨w1.heap.size, 0, none⟩) 0 0] 30
  have A0 := (AccR.made w1 (fun k => w1.heap.size + 2 ≤ k) 71 5).keep (Keep.al _ (.cells #[.slice ad nd cd, .slice (some ⟨w1.heap.size, 0, none⟩) 0 0] 30))
  have KQ0 := KA.trans (Keep.al _ (.cells #[.slice ad nd cd, .slice (some ⟨w1.heap.size, 0, none⟩) 0 0] 30))
  simp only [World.size_alloc] at RQ0
  have RQ0 := Lib.hid RQ0
  have A0 := Lib.hid A0
  have KQ0 := Lib.hid KQ0
  have E0 : Hid (Ext (fun k => k = w1.heap.size ∨ k = w1.heap.size + 1) w1 ((w1.alloc (.cells #[] 71)).alloc (.cells #[.slice ad nd cd, .slice (some ⟨w1.heap.size, 0, none⟩) 0 0] 30))) := Keep.to KQ0.out
  have B0 : Hid (∀ k, (Value.slice (some ⟨w1.heap.size, 0, none⟩) 0 0).ownBlock = some k → k = w1.heap.size ∨ w1.heap.size + 2 ≤ k) := fun k hk => .inl (by have : w1.heap.size = k := (by simpa [Value.ownBlock] using hk); omega)
  have Z0 : Hid (w1.heap.size + 2 ≤ ((w1.alloc (.cells #[] 71)).alloc (.cells #[.slice ad nd cd, .slice (some ⟨w1.heap.size, 0, none⟩) 0 0] 30)).heap.size) := by show _ ≤ _; simp
  clear KA
  go_wp2_with fail
  go_loopw [4] (fun iv wr => ∃ (j : Nat) (vk : Value), j ≤ n1 ∧ iv = .int .i64 j ∧ Hid (wr.rowIs (w1.heap.size + 1) 30 2 (fun i => (#[.slice ad nd cd, vk] : Array Value).getD i undef)) ∧ Hid (AccR wr w1.heap.size (fun k => w1.heap.size + 2 ≤ k) 71 5 vk ((rs.take j).map (fun f => rowR (plR f)))) ∧ Hid (Ext (fun k => k = w1.heap.size ∨ k = w1.heap.size + 1) w1 wr) ∧ Hid (∀ k, vk.ownBlock = some k → k = w1.heap.size ∨ w1.heap.size + 2 ≤ k) ∧ Hid (w1.heap.size + 2 ≤ wr.heap.size)) (fun iv _ => n1 - (intOf iv).toNat)
  case atStart => exact ⟨0, _, Nat.zero_le _, rfl, RQ0, A0, E0, B0, Z0⟩
  case round =>
    obtain ⟨j, vk, hj, rfl, RQ, HA, HE, HB, HZ⟩ := hrel
    obtain ⟨wo, rfl⟩ : ∃ wo : World, wo = wr := ⟨_, rfl⟩
    clear RQ0 A0 KQ0 E0 B0 Z0
    obtain ⟨e1, hnc, hnm, hat⟩ := routs_at Q1.out
    have HL := Lib.hid e1
    have x1 : wo.cell? ⟨w.heap.size, 1, none⟩ = some (.slice a1 n1 c1) := HE.out.cq (R0.out.cell (i := 1) (by simp)) (fun h => by change w.heap.size = _ ∨ w.heap.size = _ at h; omega)
    have z0 : wo.cell? ⟨w1.heap.size + 1, 0, none⟩ = some (.slice ad nd cd) := RQ.out.cell (i := 0) (by omega)
    have z1 : wo.cell? ⟨w1.heap.size + 1, 1, none⟩ = some vk := RQ.out.cell (i := 1) (by omega)
    by_cases hlt : j < n1
    · have hjl : j < rs.length := by omega
      obtain ⟨bf, o, rfl, hbf, ap, np, cp, al, nl, cl, a3, n3, c3, d0, d1, d2, d3, d4, rp, rl, rb⟩ := hat j hlt
      have hns : ∀ k, (D1 k ∧ k < w.heap.size) → ¬ (k = w1.heap.size ∨ k = w1.heap.size + 1) := fun k hk h => by omega
      have hbfw : bf < w.heap.size := hbf.2
      have d0 := HE.out.cq d0 (hns _ hbf)
      have d1 := HE.out.cq d1 (hns _ hbf)
      have d2 := HE.out.cq d2 (hns _ hbf)
      have d3 := HE.out.cq d3 (hns _ hbf)
      have d4 := HE.out.cq d4 (hns _ hbf)
      have QP := Lib.hid (rp.ext HE.out hns)
      have QL := Lib.hid (rl.ext HE.out hns)
      have QS := Lib.hid (rb.ext HE.out hns)
      have hnp : (rtAt rs j).params.length = np := (ints_at rp).1
      have hnl : (rtAt rs j).lent.length = nl := (ints_at rl).1
      have hsg := sigR_len HOK.out hjl
      have hn3 : np ≤ 3 := by omega
      have hn4 : nl ≤ 3 := by omega
      have hpl := plOk_of HP.out HOR.out hjl
      have PB := Lib.hid (specPlain (rtAt rs j).body.steps (rtAt rs j).body.result hpl.2 hpl.1)
      have HPR : Hid (plR (rtAt rs j) = ⟨(rtAt rs j).params, (rtAt rs j).lent, (rtAt rs j).result, .mk (plSs (rtAt rs j).body.steps) (rtAt rs j).body.result⟩) := by show _ = _; rw [plR, plB_eq]
      have HTK : Hid ((rs.take (j + 1)).map (fun f => rowR (plR f)) = (rs.take j).map (fun f => rowR (plR f)) ++ [rowR (plR (rtAt rs j))]) := by show _ = _; rw [List.take_succ_eq_append_getElem hjl, List.map_append, rtAt_get hjl]; rfl
      have HLR : Hid (((rs.take j).map (fun f => rowR (plR f))).length = j) := by show _ = _; rw [List.length_map, List.length_take]; omega
      clear rp rl rb hnp hnl hsg hpl hat hns e1 hbf
      go_wp2_with fail
      refine wp_region_held_drew (S := fun w' => w'.cell? ⟨w.heap.size, 1, none⟩ = some (.slice (some ⟨bf, o, none⟩) n1 c1) ∧ w'.cell? ⟨bf, o + j * 5, none⟩ = some (.slice ap np cp) ∧ w'.cell? ⟨bf, o + j * 5 + 1, none⟩ = some (.slice al nl cl) ∧ w'.cell? ⟨bf, o + j * 5 + 2, none⟩ = some (.int .i64 (rtAt rs j).result) ∧ w'.cell? ⟨bf, o + j * 5 + 3, none⟩ = some (.slice a3 n3 c3) ∧ w'.cell? ⟨bf, o + j * 5 + 4, none⟩ = some (.int .i64 (rtAt rs j).body.result)) (by kernel_rfl) ⟨x1, d0, d1, d2, d3, d4⟩ (fun hHeld => ?_)
      refine wT 0 hHeld ?_
      try go_frame
      refine wT 2 hHeld ?_
      try go_frame
      refine wT 3 hHeld ?_
      try go_frame
      refine wT 4 hHeld ?_
      try go_frame
      refine wT 5 hHeld ?_
      try go_frame
      refine wT 6 hHeld ?_
      try go_frame
      refine wT 7 hHeld ?_
      try go_frame
      refine wT 8 hHeld ?_
      try go_frame
      refine wT 9 hHeld ?_
      try go_frame
      refine wT 10 hHeld ?_
      try go_frame
      refine wT 11 hHeld ?_
      try go_frame
      refine wT 12 hHeld ?_
      try go_frame
      refine wpAnyH_ready (rs := [1, 13]) (by kernel_rfl) (by simp) ?_
      refine allReadyH_consL rfl (by rfl) (fun K hK => ?_) (allReadyH_consL rfl (by rfl) (fun K hK => ?_) (AllReadyH.nil))
      go_simp
      refine hK.out _ _ ⟨x1, d0, d1, d2, d3, d4⟩ (fun hHeld => ?_)
      clear hK K
      try go_frame
      refine wO 13 (fun K hK => ?_)
      go_simp
      go_at_call 81
      refine (PB.out a3 n3 c3 _ wo.drew QS.out.kd).mono ?_
      rintro e Y1 ⟨ab, nb, cb, rfl, ob, kY1⟩
      have x1Y1 := Keep.at kY1 x1
      have d0Y1 := Keep.at kY1 d0
      have d1Y1 := Keep.at kY1 d1
      have d2Y1 := Keep.at kY1 d2
      have d3Y1 := Keep.at kY1 d3
      have d4Y1 := Keep.at kY1 d4
      have z1Y1 := Keep.at kY1 z1
      have OB := Lib.hid ob
      have KYY1 := Lib.hid (Keep.dt kY1)
      clear ob
      refine hK.out _ _ ⟨x1Y1, d0Y1, d1Y1, d2Y1, d3Y1, d4Y1⟩ (fun hHeld => ?_)
      clear hK K
      try go_frame
      refine wO 14 (fun K hK => ?_)
      go_simp
      go_at_call 80
      refine (specWithBodyRt (rtAt rs j).params (rtAt rs j).lent (rtAt rs j).result (rtAt rs j).body.result (rtAt rs j).body.result ap np cp al nl cl a3 n3 c3 ab nb cb _ _ Y1 (QP.out.k KYY1.out) (QL.out.k KYY1.out) (by omega) (by omega)).mono ?_
      rintro e Y2 ⟨p0, e0, p1, e1, rfl, op0, op1, kY2⟩
      have x1Y2 := kY2.cq x1Y1 (fun h => h)
      have d0Y2 := kY2.cq d0Y1 (fun h => h)
      have d1Y2 := kY2.cq d1Y1 (fun h => h)
      have d2Y2 := kY2.cq d2Y1 (fun h => h)
      have d3Y2 := kY2.cq d3Y1 (fun h => h)
      have d4Y2 := kY2.cq d4Y1 (fun h => h)
      have z1Y2 := kY2.cq z1Y1 (fun h => h)
      have OP0 : Hid (Rd Y2 (fun k => wo.heap.size ≤ k) (encInts (rtAt rs j).params) (.slice p0 np e0)) := op0.mono (fun k hk => Nat.le_trans KYY1.out.size hk)
      have OP1 : Hid (Rd Y2 (fun k => wo.heap.size ≤ k) (encInts (rtAt rs j).lent) (.slice p1 nl e1)) := op1.mono (fun k hk => Nat.le_trans KYY1.out.size hk)
      have OB := Lib.hid (OB.out.k kY2)
      have KYY2 := Lib.hid (KYY1.out.trans kY2)
      clear op0 op1
      refine hK.out _ _ ⟨x1Y2, d0Y2, d1Y2, d2Y2, d3Y2, d4Y2⟩ (fun hHeld => ?_)
      clear hK K
      try go_frame
      refine wO 15 (fun K hK => ?_)
      go_simp
      obtain ⟨Y3, hWY3⟩ : ∃ yW : World, yW = (Y2.alloc (.cells #[.slice p0 np e0, .slice p1 nl e1, .int .i64 (rtAt rs j).result, .slice ab nb cb, .int .i64 (rtAt rs j).body.result] 71)) := ⟨_, rfl⟩
      rw [← hWY3]
      have kY3 : Keep Y2 Y3 := by rw [hWY3]; exact Keep.al Y2 (.cells #[.slice p0 np e0, .slice p1 nl e1, .int .i64 (rtAt rs j).result, .slice ab nb cb, .int .i64 (rtAt rs j).body.result] 71)
      have hzY3 : Hid (Y3.heap.size = Y2.heap.size + 1) := by show _ = _; rw [hWY3]; exact World.size_alloc _ _
      have x1Y3 := kY3.cq x1Y2 (fun h => h)
      have d0Y3 := kY3.cq d0Y2 (fun h => h)
      have d1Y3 := kY3.cq d1Y2 (fun h => h)
      have d2Y3 := kY3.cq d2Y2 (fun h => h)
      have d3Y3 := kY3.cq d3Y2 (fun h => h)
      have d4Y3 := kY3.cq d4Y2 (fun h => h)
      have z1Y3 := kY3.cq z1Y2 (fun h => h)
      have RL : Hid (Rd Y3 (fun k => wo.heap.size ≤ k) (.arr 5 [rowR (plR (rtAt rs j))]) (.slice (some ⟨Y2.heap.size, 0, none⟩) 1 1)) := by
        show Rd _ _ _ _
        rw [hWY3, HPR.out]
        exact lit_rout1 Y2 (fun k => wo.heap.size ≤ k) 71 ⟨(rtAt rs j).params, (rtAt rs j).lent, (rtAt rs j).result, .mk (plSs (rtAt rs j).body.steps) (rtAt rs j).body.result⟩ _ _ _ _ _ _ _ _ _ KYY2.out.size OP0.out OP1.out OB.out
      have KV := Lib.hid (KYY2.out.trans kY3)
      replace hWY3 := Lib.hid hWY3
      refine hK.out _ _ ⟨x1Y3, d0Y3, d1Y3, d2Y3, d3Y3, d4Y3⟩ (fun hHeld => ?_)
      clear hK K
      try go_frame
      refine wO 16 (fun K hK => ?_)
      refine wp_appR _ (.tmp 18) (.tmp 32) 28 rfl w1.heap.size 71 (.agg #[.slice none 0 0, .slice none 0 0, .int .i64 0, .slice none 0 0, .int .i64 0]) 5 88 Tryz.underlying28 (by kernel_rfl) rfl (by omega) (fun k => w1.heap.size + 2 ≤ k) vk _ rfl (HA.out.keep KV.out) _ 1 1 [rowR (plR (rtAt rs j))] _ rfl RL.out (fun k _ hk => ⟨Nat.le_trans HZ.out hk, fun e => absurd (HA.out.bound k e).2 (Nat.not_lt.2 hk)⟩) (by rw [HLR.out]; omega) (by rw [HLR.out]; omega) (by have h1 := KV.out.size; have h2 := HZ.out; omega) ?_
      intro v1 wz hA9 x9 q9
      have hno : ∀ k, k < w1.heap.size → ¬ vk.ownBlock = some k := fun k hk e => by have h5 := (HA.out.bound k e).1; omega
      have KZ := Lib.hid ((Keep.to KV.out : Ext (fun k => vk.ownBlock = some k) wo Y3).trans x9)
      have X9 := Lib.hid x9
      have A9 := Lib.hid hA9
      have B9 : Hid (∀ k, v1.ownBlock = some k → vk.ownBlock = some k ∨ w1.heap.size + 2 ≤ k) := fun k hk => by
        rcases q9 with e | e
        · rw [e] at hk; exact .inl hk
        · rw [e] at hk; injection hk with hk; have h5 := KV.out.size; have h6 := HZ.out; exact .inr (by omega)
      obtain ⟨av, cv, e9, _, _, _⟩ := hA9.read (by omega)
      obtain ⟨nv9, hnv9⟩ : ∃ m, ((rs.take j).map (fun f => rowR (plR f)) ++ [rowR (plR (rtAt rs j))]).length = m := ⟨_, rfl⟩
      rw [hnv9] at e9
      clear hnv9
      subst e9
      clear hA9 x9 q9
      have x1z := X9.out.cq x1Y3 (hno _ (by show w.heap.size < _; omega))
      have d0z := X9.out.cq d0Y3 (hno _ (by show bf < _; omega))
      have d1z := X9.out.cq d1Y3 (hno _ (by show bf < _; omega))
      have d2z := X9.out.cq d2Y3 (hno _ (by show bf < _; omega))
      have d3z := X9.out.cq d3Y3 (hno _ (by show bf < _; omega))
      have d4z := X9.out.cq d4Y3 (hno _ (by show bf < _; omega))
      refine hK.out _ _ ⟨x1z, d0z, d1z, d2z, d3z, d4z⟩ (fun hHeld => ?_)
      clear hK K
      try go_frame
      refine wT 17 hHeld ?_
      try go_frame
      refine wO 18 (fun K hK => ?_)
      have RQ9 : Hid (wz.rowIs (w1.heap.size + 1) 30 2 (fun i => (#[.slice ad nd cd, vk] : Array Value).getD i undef)) := row_ext RQ.out KZ.out (fun e => by rcases HB.out _ e with h | h <;> omega)
      have g1 : wz.cell? ⟨w1.heap.size + 1, 1, none⟩ = some vk := RQ9.out.cell (i := 1) (by omega)
      have g2 := RQ9.out.frozen 1
      go_simp
      obtain ⟨wy, hWy⟩ : ∃ y : World, y = wz.setCell ⟨w1.heap.size + 1, 1, none⟩ (.slice av nv9 cv) := ⟨_, rfl⟩
      rw [← hWy]
      have XY : Hid (Ext (fun k => k = w1.heap.size + 1) wz wy) := by show Ext _ _ _; rw [hWy]; exact (Ext.refl (fun k => k = w1.heap.size + 1) wz).setCell (p := ⟨w1.heap.size + 1, 1, none⟩) (.inr rfl) _
      have RY : Hid (wy.rowIs (w1.heap.size + 1) 30 2 (fun i => (#[.slice ad nd cd, .slice av nv9 cv] : Array Value).getD i undef)) := by
        show World.rowIs _ _ _ _ _
        rw [hWy]
        exact (RQ9.out.set 1 _).congr (fun i hi => by rcases (show i = 0 ∨ i = 1 by omega) with rfl | rfl <;> rfl)
      replace hWy := Lib.hid hWy
      have x1y := XY.out.cq x1z (fun h => by change w.heap.size = _ at h; omega)
      have d0y := XY.out.cq d0z (fun h => by change bf = _ at h; omega)
      have d1y := XY.out.cq d1z (fun h => by change bf = _ at h; omega)
      have d2y := XY.out.cq d2z (fun h => by change bf = _ at h; omega)
      have d3y := XY.out.cq d3z (fun h => by change bf = _ at h; omega)
      have d4y := XY.out.cq d4z (fun h => by change bf = _ at h; omega)
      refine hK.out _ _ ⟨x1y, d0y, d1y, d2y, d3y, d4y⟩ (fun hHeld => ?_)
      clear hK K
      try go_frame
      refine wpAnyH_done (by kernel_rfl) ?_ _
      rotate_left
      go_simp
      go_at_call 81
      refine (PB.out a3 n3 c3 _ wo.drew QS.out.kd).mono ?_
      rintro e Y1 ⟨ab, nb, cb, rfl, ob, kY1⟩
      have x1Y1 := Keep.at kY1 x1
      have d0Y1 := Keep.at kY1 d0
      have d1Y1 := Keep.at kY1 d1
      have d2Y1 := Keep.at kY1 d2
      have d3Y1 := Keep.at kY1 d3
      have d4Y1 := Keep.at kY1 d4
      have z1Y1 := Keep.at kY1 z1
      have OB := Lib.hid ob
      have KYY1 := Lib.hid (Keep.dt kY1)
      clear ob
      refine hK.out _ _ ⟨x1Y1, d0Y1, d1Y1, d2Y1, d3Y1, d4Y1⟩ (fun hHeld => ?_)
      clear hK K
      try go_frame
      refine wpAnyH_ready (rs := [1, 14]) (by kernel_rfl) (by simp) ?_
      refine allReadyH_consL rfl (by rfl) (fun K hK => ?_) (allReadyH_consL rfl (by rfl) (fun K hK => ?_) (AllReadyH.nil))
      go_simp
      refine hK.out _ _ ⟨x1Y1, d0Y1, d1Y1, d2Y1, d3Y1, d4Y1⟩ (fun hHeld => ?_)
      clear hK K
      try go_frame
      refine wO 14 (fun K hK => ?_)
      go_simp
      go_at_call 80
      refine (specWithBodyRt (rtAt rs j).params (rtAt rs j).lent (rtAt rs j).result (rtAt rs j).body.result (rtAt rs j).body.result ap np cp al nl cl a3 n3 c3 ab nb cb _ _ Y1 (QP.out.k KYY1.out) (QL.out.k KYY1.out) (by omega) (by omega)).mono ?_
      rintro e Y2 ⟨p0, e0, p1, e1, rfl, op0, op1, kY2⟩
      have x1Y2 := kY2.cq x1Y1 (fun h => h)
      have d0Y2 := kY2.cq d0Y1 (fun h => h)
      have d1Y2 := kY2.cq d1Y1 (fun h => h)
      have d2Y2 := kY2.cq d2Y1 (fun h => h)
      have d3Y2 := kY2.cq d3Y1 (fun h => h)
      have d4Y2 := kY2.cq d4Y1 (fun h => h)
      have z1Y2 := kY2.cq z1Y1 (fun h => h)
      have OP0 : Hid (Rd Y2 (fun k => wo.heap.size ≤ k) (encInts (rtAt rs j).params) (.slice p0 np e0)) := op0.mono (fun k hk => Nat.le_trans KYY1.out.size hk)
      have OP1 : Hid (Rd Y2 (fun k => wo.heap.size ≤ k) (encInts (rtAt rs j).lent) (.slice p1 nl e1)) := op1.mono (fun k hk => Nat.le_trans KYY1.out.size hk)
      have OB := Lib.hid (OB.out.k kY2)
      have KYY2 := Lib.hid (KYY1.out.trans kY2)
      clear op0 op1
      refine hK.out _ _ ⟨x1Y2, d0Y2, d1Y2, d2Y2, d3Y2, d4Y2⟩ (fun hHeld => ?_)
      clear hK K
      try go_frame
      refine wO 15 (fun K hK => ?_)
      go_simp
      obtain ⟨Y3, hWY3⟩ : ∃ yW : World, yW = (Y2.alloc (.cells #[.slice p0 np e0, .slice p1 nl e1, .int .i64 (rtAt rs j).result, .slice ab nb cb, .int .i64 (rtAt rs j).body.result] 71)) := ⟨_, rfl⟩
      rw [← hWY3]
      have kY3 : Keep Y2 Y3 := by rw [hWY3]; exact Keep.al Y2 (.cells #[.slice p0 np e0, .slice p1 nl e1, .int .i64 (rtAt rs j).result, .slice ab nb cb, .int .i64 (rtAt rs j).body.result] 71)
      have hzY3 : Hid (Y3.heap.size = Y2.heap.size + 1) := by show _ = _; rw [hWY3]; exact World.size_alloc _ _
      have x1Y3 := kY3.cq x1Y2 (fun h => h)
      have d0Y3 := kY3.cq d0Y2 (fun h => h)
      have d1Y3 := kY3.cq d1Y2 (fun h => h)
      have d2Y3 := kY3.cq d2Y2 (fun h => h)
      have d3Y3 := kY3.cq d3Y2 (fun h => h)
      have d4Y3 := kY3.cq d4Y2 (fun h => h)
      have z1Y3 := kY3.cq z1Y2 (fun h => h)
      have RL : Hid (Rd Y3 (fun k => wo.heap.size ≤ k) (.arr 5 [rowR (plR (rtAt rs j))]) (.slice (some ⟨Y2.heap.size, 0, none⟩) 1 1)) := by
        show Rd _ _ _ _
        rw [hWY3, HPR.out]
        exact lit_rout1 Y2 (fun k => wo.heap.size ≤ k) 71 ⟨(rtAt rs j).params, (rtAt rs j).lent, (rtAt rs j).result, .mk (plSs (rtAt rs j).body.steps) (rtAt rs j).body.result⟩ _ _ _ _ _ _ _ _ _ KYY2.out.size OP0.out OP1.out OB.out
      have KV := Lib.hid (KYY2.out.trans kY3)
      replace hWY3 := Lib.hid hWY3
      refine hK.out _ _ ⟨x1Y3, d0Y3, d1Y3, d2Y3, d3Y3, d4Y3⟩ (fun hHeld => ?_)
      clear hK K
      try go_frame
      refine wO 16 (fun K hK => ?_)
      refine wp_appR _ (.tmp 18) (.tmp 32) 28 rfl w1.heap.size 71 (.agg #[.slice none 0 0, .slice none 0 0, .int .i64 0, .slice none 0 0, .int .i64 0]) 5 88 Tryz.underlying28 (by kernel_rfl) rfl (by omega) (fun k => w1.heap.size + 2 ≤ k) vk _ rfl (HA.out.keep KV.out) _ 1 1 [rowR (plR (rtAt rs j))] _ rfl RL.out (fun k _ hk => ⟨Nat.le_trans HZ.out hk, fun e => absurd (HA.out.bound k e).2 (Nat.not_lt.2 hk)⟩) (by rw [HLR.out]; omega) (by rw [HLR.out]; omega) (by have h1 := KV.out.size; have h2 := HZ.out; omega) ?_
      intro v1 wz hA9 x9 q9
      have hno : ∀ k, k < w1.heap.size → ¬ vk.ownBlock = some k := fun k hk e => by have h5 := (HA.out.bound k e).1; omega
      have KZ := Lib.hid ((Keep.to KV.out : Ext (fun k => vk.ownBlock = some k) wo Y3).trans x9)
      have X9 := Lib.hid x9
      have A9 := Lib.hid hA9
      have B9 : Hid (∀ k, v1.ownBlock = some k → vk.ownBlock = some k ∨ w1.heap.size + 2 ≤ k) := fun k hk => by
        rcases q9 with e | e
        · rw [e] at hk; exact .inl hk
        · rw [e] at hk; injection hk with hk; have h5 := KV.out.size; have h6 := HZ.out; exact .inr (by omega)
      obtain ⟨av, cv, e9, _, _, _⟩ := hA9.read (by omega)
      obtain ⟨nv9, hnv9⟩ : ∃ m, ((rs.take j).map (fun f => rowR (plR f)) ++ [rowR (plR (rtAt rs j))]).length = m := ⟨_, rfl⟩
      rw [hnv9] at e9
      clear hnv9
      subst e9
      clear hA9 x9 q9
      have x1z := X9.out.cq x1Y3 (hno _ (by show w.heap.size < _; omega))
      have d0z := X9.out.cq d0Y3 (hno _ (by show bf < _; omega))
      have d1z := X9.out.cq d1Y3 (hno _ (by show bf < _; omega))
      have d2z := X9.out.cq d2Y3 (hno _ (by show bf < _; omega))
      have d3z := X9.out.cq d3Y3 (hno _ (by show bf < _; omega))
      have d4z := X9.out.cq d4Y3 (hno _ (by show bf < _; omega))
      refine hK.out _ _ ⟨x1z, d0z, d1z, d2z, d3z, d4z⟩ (fun hHeld => ?_)
      clear hK K
      try go_frame
      refine wT 17 hHeld ?_
      try go_frame
      refine wO 18 (fun K hK => ?_)
      have RQ9 : Hid (wz.rowIs (w1.heap.size + 1) 30 2 (fun i => (#[.slice ad nd cd, vk] : Array Value).getD i undef)) := row_ext RQ.out KZ.out (fun e => by rcases HB.out _ e with h | h <;> omega)
      have g1 : wz.cell? ⟨w1.heap.size + 1, 1, none⟩ = some vk := RQ9.out.cell (i := 1) (by omega)
      have g2 := RQ9.out.frozen 1
      go_simp
      obtain ⟨wy, hWy⟩ : ∃ y : World, y = wz.setCell ⟨w1.heap.size + 1, 1, none⟩ (.slice av nv9 cv) := ⟨_, rfl⟩
      rw [← hWy]
      have XY : Hid (Ext (fun k => k = w1.heap.size + 1) wz wy) := by show Ext _ _ _; rw [hWy]; exact (Ext.refl (fun k => k = w1.heap.size + 1) wz).setCell (p := ⟨w1.heap.size + 1, 1, none⟩) (.inr rfl) _
      have RY : Hid (wy.rowIs (w1.heap.size + 1) 30 2 (fun i => (#[.slice ad nd cd, .slice av nv9 cv] : Array Value).getD i undef)) := by
        show World.rowIs _ _ _ _ _
        rw [hWy]
        exact (RQ9.out.set 1 _).congr (fun i hi => by rcases (show i = 0 ∨ i = 1 by omega) with rfl | rfl <;> rfl)
      replace hWy := Lib.hid hWy
      have x1y := XY.out.cq x1z (fun h => by change w.heap.size = _ at h; omega)
      have d0y := XY.out.cq d0z (fun h => by change bf = _ at h; omega)
      have d1y := XY.out.cq d1z (fun h => by change bf = _ at h; omega)
      have d2y := XY.out.cq d2z (fun h => by change bf = _ at h; omega)
      have d3y := XY.out.cq d3z (fun h => by change bf = _ at h; omega)
      have d4y := XY.out.cq d4z (fun h => by change bf = _ at h; omega)
      refine hK.out _ _ ⟨x1y, d0y, d1y, d2y, d3y, d4y⟩ (fun hHeld => ?_)
      clear hK K
      try go_frame
      refine wpAnyH_done (by kernel_rfl) ?_ _
      rotate_left
      go_simp
      go_at_call 80
      refine (specWithBodyRt (rtAt rs j).params (rtAt rs j).lent (rtAt rs j).result (rtAt rs j).body.result (rtAt rs j).body.result ap np cp al nl cl a3 n3 c3 ab nb cb _ _ Y1 (QP.out.k KYY1.out) (QL.out.k KYY1.out) (by omega) (by omega)).mono ?_
      rintro e Y2 ⟨p0, e0, p1, e1, rfl, op0, op1, kY2⟩
      have x1Y2 := kY2.cq x1Y1 (fun h => h)
      have d0Y2 := kY2.cq d0Y1 (fun h => h)
      have d1Y2 := kY2.cq d1Y1 (fun h => h)
      have d2Y2 := kY2.cq d2Y1 (fun h => h)
      have d3Y2 := kY2.cq d3Y1 (fun h => h)
      have d4Y2 := kY2.cq d4Y1 (fun h => h)
      have z1Y2 := kY2.cq z1Y1 (fun h => h)
      have OP0 : Hid (Rd Y2 (fun k => wo.heap.size ≤ k) (encInts (rtAt rs j).params) (.slice p0 np e0)) := op0.mono (fun k hk => Nat.le_trans KYY1.out.size hk)
      have OP1 : Hid (Rd Y2 (fun k => wo.heap.size ≤ k) (encInts (rtAt rs j).lent) (.slice p1 nl e1)) := op1.mono (fun k hk => Nat.le_trans KYY1.out.size hk)
      have OB := Lib.hid (OB.out.k kY2)
      have KYY2 := Lib.hid (KYY1.out.trans kY2)
      clear op0 op1
      refine hK.out _ _ ⟨x1Y2, d0Y2, d1Y2, d2Y2, d3Y2, d4Y2⟩ (fun hHeld => ?_)
      clear hK K
      try go_frame
      refine wpAnyH_ready (rs := [1, 15]) (by kernel_rfl) (by simp) ?_
      refine allReadyH_consL rfl (by rfl) (fun K hK => ?_) (allReadyH_consL rfl (by rfl) (fun K hK => ?_) (AllReadyH.nil))
      go_simp
      refine hK.out _ _ ⟨x1Y2, d0Y2, d1Y2, d2Y2, d3Y2, d4Y2⟩ (fun hHeld => ?_)
      clear hK K
      try go_frame
      refine wO 15 (fun K hK => ?_)
      go_simp
      obtain ⟨Y3, hWY3⟩ : ∃ yW : World, yW = (Y2.alloc (.cells #[.slice p0 np e0, .slice p1 nl e1, .int .i64 (rtAt rs j).result, .slice ab nb cb, .int .i64 (rtAt rs j).body.result] 71)) := ⟨_, rfl⟩
      rw [← hWY3]
      have kY3 : Keep Y2 Y3 := by rw [hWY3]; exact Keep.al Y2 (.cells #[.slice p0 np e0, .slice p1 nl e1, .int .i64 (rtAt rs j).result, .slice ab nb cb, .int .i64 (rtAt rs j).body.result] 71)
      have hzY3 : Hid (Y3.heap.size = Y2.heap.size + 1) := by show _ = _; rw [hWY3]; exact World.size_alloc _ _
      have x1Y3 := kY3.cq x1Y2 (fun h => h)
      have d0Y3 := kY3.cq d0Y2 (fun h => h)
      have d1Y3 := kY3.cq d1Y2 (fun h => h)
      have d2Y3 := kY3.cq d2Y2 (fun h => h)
      have d3Y3 := kY3.cq d3Y2 (fun h => h)
      have d4Y3 := kY3.cq d4Y2 (fun h => h)
      have z1Y3 := kY3.cq z1Y2 (fun h => h)
      have RL : Hid (Rd Y3 (fun k => wo.heap.size ≤ k) (.arr 5 [rowR (plR (rtAt rs j))]) (.slice (some ⟨Y2.heap.size, 0, none⟩) 1 1)) := by
        show Rd _ _ _ _
        rw [hWY3, HPR.out]
        exact lit_rout1 Y2 (fun k => wo.heap.size ≤ k) 71 ⟨(rtAt rs j).params, (rtAt rs j).lent, (rtAt rs j).result, .mk (plSs (rtAt rs j).body.steps) (rtAt rs j).body.result⟩ _ _ _ _ _ _ _ _ _ KYY2.out.size OP0.out OP1.out OB.out
      have KV := Lib.hid (KYY2.out.trans kY3)
      replace hWY3 := Lib.hid hWY3
      refine hK.out _ _ ⟨x1Y3, d0Y3, d1Y3, d2Y3, d3Y3, d4Y3⟩ (fun hHeld => ?_)
      clear hK K
      try go_frame
      refine wO 16 (fun K hK => ?_)
      refine wp_appR _ (.tmp 18) (.tmp 32) 28 rfl w1.heap.size 71 (.agg #[.slice none 0 0, .slice none 0 0, .int .i64 0, .slice none 0 0, .int .i64 0]) 5 88 Tryz.underlying28 (by kernel_rfl) rfl (by omega) (fun k => w1.heap.size + 2 ≤ k) vk _ rfl (HA.out.keep KV.out) _ 1 1 [rowR (plR (rtAt rs j))] _ rfl RL.out (fun k _ hk => ⟨Nat.le_trans HZ.out hk, fun e => absurd (HA.out.bound k e).2 (Nat.not_lt.2 hk)⟩) (by rw [HLR.out]; omega) (by rw [HLR.out]; omega) (by have h1 := KV.out.size; have h2 := HZ.out; omega) ?_
      intro v1 wz hA9 x9 q9
      have hno : ∀ k, k < w1.heap.size → ¬ vk.ownBlock = some k := fun k hk e => by have h5 := (HA.out.bound k e).1; omega
      have KZ := Lib.hid ((Keep.to KV.out : Ext (fun k => vk.ownBlock = some k) wo Y3).trans x9)
      have X9 := Lib.hid x9
      have A9 := Lib.hid hA9
      have B9 : Hid (∀ k, v1.ownBlock = some k → vk.ownBlock = some k ∨ w1.heap.size + 2 ≤ k) := fun k hk => by
        rcases q9 with e | e
        · rw [e] at hk; exact .inl hk
        · rw [e] at hk; injection hk with hk; have h5 := KV.out.size; have h6 := HZ.out; exact .inr (by omega)
      obtain ⟨av, cv, e9, _, _, _⟩ := hA9.read (by omega)
      obtain ⟨nv9, hnv9⟩ : ∃ m, ((rs.take j).map (fun f => rowR (plR f)) ++ [rowR (plR (rtAt rs j))]).length = m := ⟨_, rfl⟩
      rw [hnv9] at e9
      clear hnv9
      subst e9
      clear hA9 x9 q9
      have x1z := X9.out.cq x1Y3 (hno _ (by show w.heap.size < _; omega))
      have d0z := X9.out.cq d0Y3 (hno _ (by show bf < _; omega))
      have d1z := X9.out.cq d1Y3 (hno _ (by show bf < _; omega))
      have d2z := X9.out.cq d2Y3 (hno _ (by show bf < _; omega))
      have d3z := X9.out.cq d3Y3 (hno _ (by show bf < _; omega))
      have d4z := X9.out.cq d4Y3 (hno _ (by show bf < _; omega))
      refine hK.out _ _ ⟨x1z, d0z, d1z, d2z, d3z, d4z⟩ (fun hHeld => ?_)
      clear hK K
      try go_frame
      refine wT 17 hHeld ?_
      try go_frame
      refine wO 18 (fun K hK => ?_)
      have RQ9 : Hid (wz.rowIs (w1.heap.size + 1) 30 2 (fun i => (#[.slice ad nd cd, vk] : Array Value).getD i undef)) := row_ext RQ.out KZ.out (fun e => by rcases HB.out _ e with h | h <;> omega)
      have g1 : wz.cell? ⟨w1.heap.size + 1, 1, none⟩ = some vk := RQ9.out.cell (i := 1) (by omega)
      have g2 := RQ9.out.frozen 1
      go_simp
      obtain ⟨wy, hWy⟩ : ∃ y : World, y = wz.setCell ⟨w1.heap.size + 1, 1, none⟩ (.slice av nv9 cv) := ⟨_, rfl⟩
      rw [← hWy]
      have XY : Hid (Ext (fun k => k = w1.heap.size + 1) wz wy) := by show Ext _ _ _; rw [hWy]; exact (Ext.refl (fun k => k = w1.heap.size + 1) wz).setCell (p := ⟨w1.heap.size + 1, 1, none⟩) (.inr rfl) _
      have RY : Hid (wy.rowIs (w1.heap.size + 1) 30 2 (fun i => (#[.slice ad nd cd, .slice av nv9 cv] : Array Value).getD i undef)) := by
        show World.rowIs _ _ _ _ _
        rw [hWy]
        exact (RQ9.out.set 1 _).congr (fun i hi => by rcases (show i = 0 ∨ i = 1 by omega) with rfl | rfl <;> rfl)
      replace hWy := Lib.hid hWy
      have x1y := XY.out.cq x1z (fun h => by change w.heap.size = _ at h; omega)
      have d0y := XY.out.cq d0z (fun h => by change bf = _ at h; omega)
      have d1y := XY.out.cq d1z (fun h => by change bf = _ at h; omega)
      have d2y := XY.out.cq d2z (fun h => by change bf = _ at h; omega)
      have d3y := XY.out.cq d3z (fun h => by change bf = _ at h; omega)
      have d4y := XY.out.cq d4z (fun h => by change bf = _ at h; omega)
      refine hK.out _ _ ⟨x1y, d0y, d1y, d2y, d3y, d4y⟩ (fun hHeld => ?_)
      clear hK K
      try go_frame
      refine wpAnyH_done (by kernel_rfl) ?_ _
      rotate_left
      go_simp
      obtain ⟨Y3, hWY3⟩ : ∃ yW : World, yW = (Y2.alloc (.cells #[.slice p0 np e0, .slice p1 nl e1, .int .i64 (rtAt rs j).result, .slice ab nb cb, .int .i64 (rtAt rs j).body.result] 71)) := ⟨_, rfl⟩
      rw [← hWY3]
      have kY3 : Keep Y2 Y3 := by rw [hWY3]; exact Keep.al Y2 (.cells #[.slice p0 np e0, .slice p1 nl e1, .int .i64 (rtAt rs j).result, .slice ab nb cb, .int .i64 (rtAt rs j).body.result] 71)
      have hzY3 : Hid (Y3.heap.size = Y2.heap.size + 1) := by show _ = _; rw [hWY3]; exact World.size_alloc _ _
      have x1Y3 := kY3.cq x1Y2 (fun h => h)
      have d0Y3 := kY3.cq d0Y2 (fun h => h)
      have d1Y3 := kY3.cq d1Y2 (fun h => h)
      have d2Y3 := kY3.cq d2Y2 (fun h => h)
      have d3Y3 := kY3.cq d3Y2 (fun h => h)
      have d4Y3 := kY3.cq d4Y2 (fun h => h)
      have z1Y3 := kY3.cq z1Y2 (fun h => h)
      have RL : Hid (Rd Y3 (fun k => wo.heap.size ≤ k) (.arr 5 [rowR (plR (rtAt rs j))]) (.slice (some ⟨Y2.heap.size, 0, none⟩) 1 1)) := by
        show Rd _ _ _ _
        rw [hWY3, HPR.out]
        exact lit_rout1 Y2 (fun k => wo.heap.size ≤ k) 71 ⟨(rtAt rs j).params, (rtAt rs j).lent, (rtAt rs j).result, .mk (plSs (rtAt rs j).body.steps) (rtAt rs j).body.result⟩ _ _ _ _ _ _ _ _ _ KYY2.out.size OP0.out OP1.out OB.out
      have KV := Lib.hid (KYY2.out.trans kY3)
      replace hWY3 := Lib.hid hWY3
      refine hK.out _ _ ⟨x1Y3, d0Y3, d1Y3, d2Y3, d3Y3, d4Y3⟩ (fun hHeld => ?_)
      clear hK K
      try go_frame
      refine wO 1 (fun K hK => ?_)
      go_simp
      refine hK.out _ _ ⟨x1Y3, d0Y3, d1Y3, d2Y3, d3Y3, d4Y3⟩ (fun hHeld => ?_)
      clear hK K
      try go_frame
      refine wO 16 (fun K hK => ?_)
      refine wp_appR _ (.tmp 18) (.tmp 32) 28 rfl w1.heap.size 71 (.agg #[.slice none 0 0, .slice none 0 0, .int .i64 0, .slice none 0 0, .int .i64 0]) 5 88 Tryz.underlying28 (by kernel_rfl) rfl (by omega) (fun k => w1.heap.size + 2 ≤ k) vk _ rfl (HA.out.keep KV.out) _ 1 1 [rowR (plR (rtAt rs j))] _ rfl RL.out (fun k _ hk => ⟨Nat.le_trans HZ.out hk, fun e => absurd (HA.out.bound k e).2 (Nat.not_lt.2 hk)⟩) (by rw [HLR.out]; omega) (by rw [HLR.out]; omega) (by have h1 := KV.out.size; have h2 := HZ.out; omega) ?_
      intro v1 wz hA9 x9 q9
      have hno : ∀ k, k < w1.heap.size → ¬ vk.ownBlock = some k := fun k hk e => by have h5 := (HA.out.bound k e).1; omega
      have KZ := Lib.hid ((Keep.to KV.out : Ext (fun k => vk.ownBlock = some k) wo Y3).trans x9)
      have X9 := Lib.hid x9
      have A9 := Lib.hid hA9
      have B9 : Hid (∀ k, v1.ownBlock = some k → vk.ownBlock = some k ∨ w1.heap.size + 2 ≤ k) := fun k hk => by
        rcases q9 with e | e
        · rw [e] at hk; exact .inl hk
        · rw [e] at hk; injection hk with hk; have h5 := KV.out.size; have h6 := HZ.out; exact .inr (by omega)
      obtain ⟨av, cv, e9, _, _, _⟩ := hA9.read (by omega)
      obtain ⟨nv9, hnv9⟩ : ∃ m, ((rs.take j).map (fun f => rowR (plR f)) ++ [rowR (plR (rtAt rs j))]).length = m := ⟨_, rfl⟩
      rw [hnv9] at e9
      clear hnv9
      subst e9
      clear hA9 x9 q9
      have x1z := X9.out.cq x1Y3 (hno _ (by show w.heap.size < _; omega))
      have d0z := X9.out.cq d0Y3 (hno _ (by show bf < _; omega))
      have d1z := X9.out.cq d1Y3 (hno _ (by show bf < _; omega))
      have d2z := X9.out.cq d2Y3 (hno _ (by show bf < _; omega))
      have d3z := X9.out.cq d3Y3 (hno _ (by show bf < _; omega))
      have d4z := X9.out.cq d4Y3 (hno _ (by show bf < _; omega))
      refine hK.out _ _ ⟨x1z, d0z, d1z, d2z, d3z, d4z⟩ (fun hHeld => ?_)
      clear hK K
      try go_frame
      refine wT 17 hHeld ?_
      try go_frame
      refine wO 18 (fun K hK => ?_)
      have RQ9 : Hid (wz.rowIs (w1.heap.size + 1) 30 2 (fun i => (#[.slice ad nd cd, vk] : Array Value).getD i undef)) := row_ext RQ.out KZ.out (fun e => by rcases HB.out _ e with h | h <;> omega)
      have g1 : wz.cell? ⟨w1.heap.size + 1, 1, none⟩ = some vk := RQ9.out.cell (i := 1) (by omega)
      have g2 := RQ9.out.frozen 1
      go_simp
      obtain ⟨wy, hWy⟩ : ∃ y : World, y = wz.setCell ⟨w1.heap.size + 1, 1, none⟩ (.slice av nv9 cv) := ⟨_, rfl⟩
      rw [← hWy]
      have XY : Hid (Ext (fun k => k = w1.heap.size + 1) wz wy) := by show Ext _ _ _; rw [hWy]; exact (Ext.refl (fun k => k = w1.heap.size + 1) wz).setCell (p := ⟨w1.heap.size + 1, 1, none⟩) (.inr rfl) _
      have RY : Hid (wy.rowIs (w1.heap.size + 1) 30 2 (fun i => (#[.slice ad nd cd, .slice av nv9 cv] : Array Value).getD i undef)) := by
        show World.rowIs _ _ _ _ _
        rw [hWy]
        exact (RQ9.out.set 1 _).congr (fun i hi => by rcases (show i = 0 ∨ i = 1 by omega) with rfl | rfl <;> rfl)
      replace hWy := Lib.hid hWy
      have x1y := XY.out.cq x1z (fun h => by change w.heap.size = _ at h; omega)
      have d0y := XY.out.cq d0z (fun h => by change bf = _ at h; omega)
      have d1y := XY.out.cq d1z (fun h => by change bf = _ at h; omega)
      have d2y := XY.out.cq d2z (fun h => by change bf = _ at h; omega)
      have d3y := XY.out.cq d3z (fun h => by change bf = _ at h; omega)
      have d4y := XY.out.cq d4z (fun h => by change bf = _ at h; omega)
      refine hK.out _ _ ⟨x1y, d0y, d1y, d2y, d3y, d4y⟩ (fun hHeld => ?_)
      clear hK K
      try go_frame
      refine wpAnyH_done (by kernel_rfl) ?_ _
      rotate_left
      all_goals
        go_wp2
        go_roundw
        case rel => exact ⟨j + 1, .slice av nv9 cv, by omega, by go_num, RY.out, (by
          show AccR _ _ _ _ _ _ _
          rw [HTK.out]
          refine A9.out.extQ XY.out (fun k _ hk e => by omega) (fun k hk e => ?_)
          rcases B9.out k hk with h | h
          · rcases HB.out k h with h5 | h5 <;> omega
          · omega), (by
          show Ext _ _ _
          refine ((HE.out.then_ KZ.out (fun i hi e => ?_)).then_ XY.out (fun i hi e => .inr e))
          rcases HB.out i e with h5 | h5
          · exact .inl h5
          · omega), (by
          intro k hk
          rcases B9.out k hk with h | h
          · exact HB.out k h
          · exact .inr h), (by
          show _ ≤ _
          have h6 := KZ.out.size
          have h7 := XY.out.size
          have h8 := HZ.out
          omega)⟩
        case measure => simp [intOf]; omega
    · have HJ : Hid (rs.take j = rs) := by show _ = _; rw [List.take_of_length_le (by omega)]
      rw [HJ.out] at HA
      obtain ⟨ar, cr, e9, hcr, h63, rc⟩ := HA.out.read (by omega)
      have HRT : Hid ((rs.map (fun f => rowR (plR f))) = (rs.map plR).map rowR) := by show _ = _; rw [List.map_map]; rfl
      obtain ⟨nr9, hnr9⟩ : ∃ m, (rs.map (fun f => rowR (plR f))).length = m := ⟨_, rfl⟩
      rw [hnr9] at e9
      subst e9
      have RT := row_ext RZ0.out HE.out (fun h => by omega)
      have t0 : wo.cell? ⟨w.heap.size + 1, 0, none⟩ = some (.slice none 0 0) := RT.cell (i := 0) (by simp)
      have t1 : wo.cell? ⟨w.heap.size + 1, 1, none⟩ = some (.slice none 0 0) := RT.cell (i := 1) (by simp)
      have t2 := RT.frozen 0
      have t3 := RT.frozen 1
      have X := (((Ext.refl (fun k => k = w.heap.size + 1) wo).setCell (p := ⟨w.heap.size + 1, 0, none⟩) (.inr rfl) (.slice ad nd cd)).setCell (p := ⟨w.heap.size + 1, 1, none⟩) (.inr rfl) (.slice ar nr9 cr))
      have RDF := Lib.hid (((RD.out.ext HE.out (fun k hk e => by omega)).ext X (fun k hk e => by omega)).mono (D' := fun k => w.heap.size ≤ k) (fun k hk => by omega))
      have RCF := Lib.hid ((rc.ext X (fun k hk e => by rcases hk with h | h <;> omega)).mono (D' := fun k => w.heap.size ≤ k) (fun k hk => by rcases hk with h | h <;> omega))
      have KF := Lib.hid ((K1.out.then_ HE.out (fun i hi e => by omega)).then_ X (fun i hi e => by omega))
      clear RT X rc hnr9
      go_wp2_with fail
      exact bodyPost_ret (v := .agg #[.slice ad nd cd, .slice ar nr9 cr]) (by simp [results, Tryz.results35, go_sem, t0, t1]) rfl (fin_ hQ ⟨ad, nd, cd, ar, nr9, cr, rfl, RDF.out, by rw [encRouts, ← HRT.out]; exact RCF.out, KF.out⟩)

/-- What PlainOf returns. -/
def ploD (ds : List DeclL) (rs : List RoutL) : List DeclL := if normOk ds rs = true then ds else []
def ploR (ds : List DeclL) (rs : List RoutL) : List RoutL := if normOk ds rs = true then rs.map plR else []

set_option maxRecDepth 100000 in
set_option maxHeartbeats 1000000 in
theorem specPlainOf (ds : List DeclL) (rs : List RoutL) (hor : okRs rs) (a0 : Option Addr) (n0 c0 : Nat) (a1 : Option Addr) (n1 c1 : Nat) (D0 D1 : Nat → Prop) (w : World) (r0 : Rd w D0 (encDecls ds) (.slice a0 n0 c0)) (r1 : Rd w D1 (encRouts rs) (.slice a1 n1 c1)) :
    Calls Tryz.prog 8 #[.agg #[.slice a0 n0 c0, .slice a1 n1 c1]] w fun e w' => ∃ ad nd cd ar nr cr, e = .returned (.tuple #[.agg #[.slice ad nd cd, .slice ar nr cr], .bool (normOk ds rs)]) ∧ Rd w' (fun k => w.heap.size ≤ k) (encDecls (ploD ds rs)) (.slice ad nd cd) ∧ Rd w' (fun k => w.heap.size ≤ k) (encRouts (ploR ds rs)) (.slice ar nr cr) ∧ Keep w w' := by
  refine calls_k fun Q hQ => ?_
  have HOR := Lib.hid hor
  have K0 := (Keep.al w (.cells #[.slice a0 n0 c0, .slice a1 n1 c1] 30)).trans (Keep.al _ (.cells #[.slice none 0 0, .slice none 0 0] 30))
  have RZ0 := rowOf (w.alloc (.cells #[.slice a0 n0 c0, .slice a1 n1 c1] 30)) #[.slice none 0 0, .slice none 0 0] 30
  have R0 := (rowOf w #[.slice a0 n0 c0, .slice a1 n1 c1] 30).alloc (.cells #[.slice none 0 0, .slice none 0 0] 30)
  simp only [World.size_alloc] at RZ0
  have q0 := r0.k K0
  have q1 := r1.k K0
  clear hor
  cases hp : normOk ds rs
  · have HP := Lib.hid hp
    have E1 : Hid (ploD ds rs = []) := by show _ = _; rw [ploD, hp]; rfl
    have E2 : Hid (ploR ds rs = []) := by show _ = _; rw [ploR, hp]; rfl
    rw [hp, E1.out, E2.out] at hQ
    have KW := Lib.hid K0
    have RZ := Lib.hid RZ0
    clear hp K0 RZ0
    go_enter Tryz.func8, Tryz.ntmps8
    go_wp2_with fail
    refine (specValidNormal0 _ _ _ _ _ _ _ _ _ _ _ q0 q1).mono ?_
    rw [HP.out]
    rintro e w1 ⟨rfl, p1⟩
    have RT := row_ext RZ.out p1 (fun h => h)
    have t0 : w1.cell? ⟨w.heap.size + 1, 0, none⟩ = some (.slice none 0 0) := RT.cell (i := 0) (by simp)
    have t1 : w1.cell? ⟨w.heap.size + 1, 1, none⟩ = some (.slice none 0 0) := RT.cell (i := 1) (by simp)
    have t2 := RT.frozen 0
    have t3 := RT.frozen 1
    have KF := Lib.hid ((KW.out.trans p1).then_ (((Ext.refl (fun k => k = w.heap.size + 1) w1).setCell (p := ⟨w.heap.size + 1, 0, none⟩) (.inr rfl) (.slice none 0 0)).setCell (p := ⟨w.heap.size + 1, 1, none⟩) (.inr rfl) (.slice none 0 0)) (fun i hi e => by omega))
    clear RT q0 q1 R0 p1
    go_wp2_with fail
    exact bodyPost_ret (v := .tuple #[.agg #[.slice none 0 0, .slice none 0 0], .bool false]) (by simp [results, Tryz.results8, go_sem, t0, t1]) rfl (fin_ hQ ⟨none, 0, 0, none, 0, 0, rfl, .nil _ _ _, .nil _ _ _, KF.out⟩)
  · have HP := Lib.hid hp
    have E1 : Hid (ploD ds rs = ds) := by show _ = _; rw [ploD, if_pos hp]
    have E2 : Hid (ploR ds rs = rs.map plR) := by show _ = _; rw [ploR, if_pos hp]
    rw [hp, E1.out, E2.out] at hQ
    have KW := Lib.hid K0
    have RZ := Lib.hid RZ0
    have RP := Lib.hid R0
    clear hp K0 RZ0 R0
    go_enter Tryz.func8, Tryz.ntmps8
    go_wp2_with fail
    refine (specValidNormal0 _ _ _ _ _ _ _ _ _ _ _ q0 q1).mono ?_
    rw [HP.out]
    rintro e w1 ⟨rfl, p1⟩
    have q0 := q0.k p1
    have q1 := q1.k p1
    have RP1 := row_ext RP.out p1 (fun h => h)
    have x0 : w1.cell? ⟨w.heap.size, 0, none⟩ = some (.slice a0 n0 c0) := RP1.cell (i := 0) (by simp)
    have x1 : w1.cell? ⟨w.heap.size, 1, none⟩ = some (.slice a1 n1 c1) := RP1.cell (i := 1) (by simp)
    have K1 := Lib.hid (KW.out.trans p1)
    have RZ1 := Lib.hid (row_ext RZ.out p1 (fun h => h))
    have hs : w.heap.size + 2 ≤ w1.heap.size := by have := p1.size; simp only [World.size_alloc] at this; omega
    clear RP1 p1
    go_wp2_with fail
    refine (specPlainOf0 ds rs HP.out HOR.out _ _ _ _ _ _ _ _ _ q0 q1).mono ?_
    rintro e w2 ⟨ad, nd, cd, ar, nr, cr, rfl, rd, rr, p2⟩
    have RT := row_ext RZ1.out p2 (fun h => h)
    have t0 : w2.cell? ⟨w.heap.size + 1, 0, none⟩ = some (.slice none 0 0) := RT.cell (i := 0) (by simp)
    have t1 : w2.cell? ⟨w.heap.size + 1, 1, none⟩ = some (.slice none 0 0) := RT.cell (i := 1) (by simp)
    have t2 := RT.frozen 0
    have t3 := RT.frozen 1
    have X := (((Ext.refl (fun k => k = w.heap.size + 1) w2).setCell (p := ⟨w.heap.size + 1, 0, none⟩) (.inr rfl) (.slice ad nd cd)).setCell (p := ⟨w.heap.size + 1, 1, none⟩) (.inr rfl) (.slice ar nr cr))
    have KF := Lib.hid ((K1.out.trans p2).then_ X (fun i hi e => by omega))
    have RDF := Lib.hid ((rd.ext X (fun k hk e => by omega)).mono (D' := fun k => w.heap.size ≤ k) (fun k hk => by omega))
    have RRF := Lib.hid ((rr.ext X (fun k hk e => by omega)).mono (D' := fun k => w.heap.size ≤ k) (fun k hk => by omega))
    clear RT X rd rr p2 q0 q1
    go_wp2_with fail
    exact bodyPost_ret (v := .tuple #[.agg #[.slice ad nd cd, .slice ar nr cr], .bool true]) (by simp [results, Tryz.results8, go_sem, t0, t1]) rfl (fin_ hQ ⟨ad, nd, cd, ar, nr, cr, rfl, RDF.out, RRF.out, KF.out⟩)
end Go.Proofs.YtkapldpmjkdmcaaGreat
/- mapBodies, PlainOf of the program. -/
namespace Go.Proofs.YtkapldpmjkdmcaaGreat
open Go.RowKit

set_option maxRecDepth 100000 in
set_option maxHeartbeats 1000000 in
theorem implPlainBody (ss : List StepL) (res : Int) (PB : PlIp ss res) (x0 x1 x2 x3 x4 : Value) (a : Option Addr) (n c : Nat) (D : Nat → Prop) (w : World) (h : Rd w D (encSteps ss) (.slice a n c)) :
    Calls Tryz.prog 40 #[.agg #[x0, x1, x2, x3, x4], .agg #[.slice a n c, .int .i64 res]] w fun e w' => ∃ a' n' c', e = .returned (.agg #[.slice a' n' c', .int .i64 res]) ∧ Own w' (fun k => w.heap.size ≤ k) (encSteps (plSs ss)) (.slice a' n' c') ∧ Keep w w' := by
  refine calls_k fun Q hQ => ?_
  have HPB := Lib.hid PB
  have KA := ((Keep.al w (.cells #[x0, x1, x2, x3, x4] 71)).trans (Keep.al _ (.cells #[.slice a n c, .int .i64 res] 69))).trans (Keep.al _ (.cells #[.slice none 0 0, .int .i64 0] 69))
  have RB := (rowOf (w.alloc (.cells #[x0, x1, x2, x3, x4] 71)) #[.slice a n c, .int .i64 res] 69).alloc (.cells #[.slice none 0 0, .int .i64 0] 69)
  have RZ := rowOf ((w.alloc (.cells #[x0, x1, x2, x3, x4] 71)).alloc (.cells #[.slice a n c, .int .i64 res] 69)) #[.slice none 0 0, .int .i64 0] 69
  simp only [World.size_alloc] at RB RZ
  have b0 : (((w.alloc (.cells #[x0, x1, x2, x3, x4] 71)).alloc (.cells #[.slice a n c, .int .i64 res] 69)).alloc (.cells #[.slice none 0 0, .int .i64 0] 69)).cell? ⟨w.heap.size + 1, 0, none⟩ = some (.slice a n c) := RB.cell (i := 0) (by simp)
  have b1 : (((w.alloc (.cells #[x0, x1, x2, x3, x4] 71)).alloc (.cells #[.slice a n c, .int .i64 res] 69)).alloc (.cells #[.slice none 0 0, .int .i64 0] 69)).cell? ⟨w.heap.size + 1, 1, none⟩ = some (.int .i64 res) := RB.cell (i := 1) (by simp)
  have H := Lib.hid (h.k KA)
  have RZ := Lib.hid RZ
  have KW := Lib.hid KA
  have SA : Hid ((((w.alloc (.cells #[x0, x1, x2, x3, x4] 71)).alloc (.cells #[.slice a n c, .int .i64 res] 69)).alloc (.cells #[.slice none 0 0, .int .i64 0] 69)).heap.size = w.heap.size + 3) := by show _ = _; simp
  clear KA RB h PB
  go_enter Tryz.func40, Tryz.ntmps40
  go_wp2_with fail
  refine (HPB.out a n c D _ H.out).mono ?_
  rintro e w1 ⟨a9, n9, c9, rfl, ob, p1⟩
  have RT := row_ext RZ.out p1 (fun h => h)
  have t0 : w1.cell? ⟨w.heap.size + 2, 0, none⟩ = some (.slice none 0 0) := RT.cell (i := 0) (by simp)
  have t1 : w1.cell? ⟨w.heap.size + 2, 1, none⟩ = some (.int .i64 0) := RT.cell (i := 1) (by simp)
  have t2 := RT.frozen 0
  have t3 := RT.frozen 1
  have hsa := SA.out
  have X := (((Ext.refl (fun k => k = w.heap.size + 2) w1).setCell (p := ⟨w.heap.size + 2, 0, none⟩) (.inr rfl) (.slice a9 n9 c9)).setCell (p := ⟨w.heap.size + 2, 1, none⟩) (.inr rfl) (.int .i64 res))
  have OF := Lib.hid ((ob.ext X (fun k hk e => by omega)).mono (D' := fun k => w.heap.size ≤ k) (fun k hk => by omega))
  have KF := Lib.hid ((KW.out.trans p1).then_ X (fun i hi e => by omega))
  clear RT X ob p1 hsa b0 b1
  go_wp2_with fail
  exact bodyPost_ret (v := .agg #[.slice a9 n9 c9, .int .i64 res]) (by simp [results, Tryz.results40, go_sem, t0, t1]) rfl (fin_ hQ ⟨a9, n9, c9, rfl, OF.out, KF.out⟩)

set_option maxRecDepth 100000 in
set_option maxHeartbeats 4000000 in
theorem implMapBodies (ds : List DeclL) (rs : List RoutL) (hp : normOk ds rs = true) (hor : okRs rs) (a0 : Option Addr) (n0 c0 : Nat) (a1 : Option Addr) (n1 c1 : Nat) (D0 D1 : Nat → Prop) (w : World) (r0 : Rd w D0 (encDecls ds) (.slice a0 n0 c0)) (r1 : Rd w D1 (encRouts rs) (.slice a1 n1 c1)) :
    Calls Tryz.prog 39 #[.agg #[.slice a0 n0 c0, .slice a1 n1 c1], .func (.func 40) #[] #[]] w fun e w' => ∃ ad cd ar nr cr, ∃ m : Nat, e = .returned (.agg #[.slice ad n0 cd, .slice ar nr cr]) ∧ w.heap.size + 2 ≤ m ∧ Own w' (fun k => w.heap.size + 2 ≤ k ∧ k < m) (encDecls ds) (.slice ad n0 cd) ∧ Own w' (fun k => m ≤ k ∧ k < w'.heap.size) (encRouts (rs.map plR)) (.slice ar nr cr) ∧ Keep w w' := by
  refine calls_k fun Q hQ => ?_
  have HP := Lib.hid hp
  have HOR := Lib.hid hor
  have hok := (normOk_parts hp).1
  have ht := (sigsOk_parts hok).1
  have HOK := Lib.hid hok
  have hnf : rs.length ≤ 4 := by have h := (sigsOk_parts hok).2.2.1; rw [List.length_map] at h; omega
  have HFW := Lib.hid (Few.of_ok ht)
  have HFL := Lib.hid (fun j k => decl_fields ht j k)
  have K0 := (Keep.al w (.cells #[.slice a0 n0 c0, .slice a1 n1 c1] 30)).trans (Keep.al _ (.cells #[.slice none 0 0, .slice none 0 0] 30))
  have RZ0 := rowOf (w.alloc (.cells #[.slice a0 n0 c0, .slice a1 n1 c1] 30)) #[.slice none 0 0, .slice none 0 0] 30
  have R0 := (rowOf w #[.slice a0 n0 c0, .slice a1 n1 c1] 30).alloc (.cells #[.slice none 0 0, .slice none 0 0] 30)
  simp only [World.size_alloc] at RZ0
  have q0 := Lib.hid (r0.lt.k K0)
  have q1 := Lib.hid (r1.lt.k K0)
  have KW := Lib.hid K0
  have RZ := Lib.hid RZ0
  have RP := Lib.hid R0
  have SA : Hid (((w.alloc (.cells #[.slice a0 n0 c0, .slice a1 n1 c1] 30)).alloc (.cells #[.slice none 0 0, .slice none 0 0] 30)).heap.size = w.heap.size + 2) := by show _ = _; simp
  clear hp hor r0 r1 K0 RZ0 R0 hok ht
  go_enter Tryz.func39, Tryz.ntmps39
  go_wp2_with fail
  refine (implCloneDecls ds HFW.out HFL.out a0 n0 c0 _ _ q0.out).mono ?_
  rintro e w2 ⟨ad, cd, rfl, od, p2⟩
  have hw2 : w.heap.size + 2 ≤ w2.heap.size := by have := p2.size; have := SA.out; omega
  have OD := Lib.hid (od.lt.mono (D' := fun k => w.heap.size + 2 ≤ k ∧ k < w2.heap.size) (fun k hk => ⟨by have := hk.1; have := SA.out; omega, hk.2⟩))
  have KA := p2.trans (Keep.al w2 (.cells #[.slice ad n0 cd, .slice none 0 0] 30))
  have RO0 := rowOf w2 #[.slice ad n0 cd, .slice none 0 0] 30
  replace q1 := Lib.hid (q1.out.k KA)
  have RP2 := Lib.hid (row_ext RP.out KA (fun h => h))
  have RZ2 := Lib.hid (row_ext RZ.out KA (fun h => h))
  have K2 := Lib.hid (KW.out.trans KA)
  have x1 : (w2.alloc (.cells #[.slice ad n0 cd, .slice none 0 0] 30)).cell? ⟨w.heap.size, 1, none⟩ = some (.slice a1 n1 c1) := RP2.out.cell (i := 1) (by simp)
  replace OD := Lib.hid (OD.out.ext (Keep.al w2 (.cells #[.slice ad n0 cd, .slice none 0 0] 30)) (fun _ _ h => h))
  have sL : (w2.alloc (.cells #[.slice ad n0 cd, .slice none 0 0] 30)).heap.size = w2.heap.size + 1 := by simp
  have SL := Lib.hid sL
  replace RO0 := Lib.hid RO0
  clear od p2 KA sL q0
  go_wp2_with fail
  obtain ⟨ob, hob0⟩ : ∃ g, g = w2.heap.size := ⟨_, rfl⟩
  have HOB := Lib.hid hob0
  rw [← hob0] at RO0
  rw [← hob0]
  obtain ⟨wl, hwl⟩ : ∃ yW : World, yW = w2.alloc (.cells #[.slice ad n0 cd, .slice none 0 0] 30) := ⟨_, rfl⟩
  rw [← hwl] at RO0 q1 RP2 RZ2 K2 OD SL x1
  rw [← hwl]
  clear hwl hob0
  have A0 : Hid (Acc wl wl.heap.size (fun _ => False) 71 5 (.slice none 0 0) ((rs.take 0).map (fun f => rowR (plR f)))) := by show Acc _ _ _ _ _ _ _; rw [List.take_zero]; exact Acc.nil _ _ _ _ _
  have E0 : Hid (Ext (fun k => k = ob) wl wl) := Ext.refl _ _
  have hsw : ob < wl.heap.size := by have := SL.out; have := HOB.out; omega
  have hws : w.heap.size + 2 ≤ ob := by have := HOB.out; omega
  go_loopw [15] (fun iv wr => ∃ (j : Nat) (DK : Nat → Prop) (ok : Value), j ≤ n1 ∧ iv = .int .i64 j ∧ Hid (wr.rowIs ob 30 2 (fun i => (#[.slice ad n0 cd, ok] : Array Value).getD i undef)) ∧ Hid (Acc wr wl.heap.size DK 71 5 ok ((rs.take j).map (fun f => rowR (plR f)))) ∧ Hid (∀ k, DK k → wl.heap.size ≤ k ∧ k < wr.heap.size) ∧ Hid (Ext (fun k => k = ob) wl wr)) (fun iv _ => n1 - (intOf iv).toNat)
  case atStart => exact ⟨0, fun _ => False, _, Nat.zero_le _, rfl, RO0, A0, fun _ h => h.elim, E0⟩
  case round =>
    clear A0 E0
    obtain ⟨j, DK, ok, hj, rfl, RSJ, HA, HD, HK⟩ := hrel
    obtain ⟨wo, rfl⟩ : ∃ wo : World, wo = wr := ⟨_, rfl⟩
    have hwo := HK.out.size
    obtain ⟨e1, hnc, hnm, hat⟩ := routs_at q1.out
    have HL := Lib.hid e1
    by_cases hlt : j < n1
    · have hjl : j < rs.length := by omega
      obtain ⟨bf, o, rfl, hbf, ap, np, cp, al, nl, cl, a3, n3, c3, d0, d1, d2, d3, d4, rp, rl, rb⟩ := hat j hlt
      have hns : ∀ k, (D1 k ∧ k < w.heap.size) → ¬ (k = ob) := fun k hk h => by omega
      have d0 := HK.out.cq d0 (hns _ hbf)
      have d1 := HK.out.cq d1 (hns _ hbf)
      have d2 := HK.out.cq d2 (hns _ hbf)
      have d3 := HK.out.cq d3 (hns _ hbf)
      have d4 := HK.out.cq d4 (hns _ hbf)
      have KX := Keep.al wo (.cells #[.slice ap np cp, .slice al nl cl, .int .i64 (rtAt rs j).result, .slice a3 n3 c3, .int .i64 (rtAt rs j).body.result] 71)
      have RB := rowOf wo #[.slice ap np cp, .slice al nl cl, .int .i64 (rtAt rs j).result, .slice a3 n3 c3, .int .i64 (rtAt rs j).body.result] 71
      have QP := Lib.hid ((rp.ext HK.out hns).k KX)
      have QL := Lib.hid ((rl.ext HK.out hns).k KX)
      have QS := Lib.hid ((rb.ext HK.out hns).k KX)
      have hnp : (rtAt rs j).params.length = np := (ints_at rp).1
      have hnl : (rtAt rs j).lent.length = nl := (ints_at rl).1
      have hsg := sigR_len HOK.out hjl
      have hn3 : np ≤ 3 := by omega
      have hn4 : nl ≤ 3 := by omega
      have hn5 : (rtAt rs j).params.length ≤ 3 := hsg.1
      have hn6 : (rtAt rs j).lent.length ≤ 3 := hsg.2
      have hpl := plOk_of HP.out HOR.out hjl
      have PB := Lib.hid (implPlain (rtAt rs j).body.steps (rtAt rs j).body.result hpl.2 hpl.1)
      have HPR : Hid (plR (rtAt rs j) = ⟨(rtAt rs j).params, (rtAt rs j).lent, (rtAt rs j).result, .mk (plSs (rtAt rs j).body.steps) (rtAt rs j).body.result⟩) := by show _ = _; rw [plR, plB_eq]
      have HTK : Hid ((rs.take (j + 1)).map (fun f => rowR (plR f)) = (rs.take j).map (fun f => rowR (plR f)) ++ [rowR (plR (rtAt rs j))]) := by show _ = _; rw [List.take_succ_eq_append_getElem hjl, List.map_append, rtAt_get hjl]; rfl
      have HLR : Hid (((rs.take j).map (fun f => rowR (plR f))).length = j) := by show _ = _; rw [List.length_map, List.length_take]; omega
      have hob := Lib.hid (fun k hk => (HA.out.bound k hk).2)
      have HNO : Hid (∀ k, k < wl.heap.size → ¬ ok.ownBlock = some k) := fun k hk e => by have := (HA.out.bound k e).1; omega
      have sX : (wo.alloc (.cells #[.slice ap np cp, .slice al nl cl, .int .i64 (rtAt rs j).result, .slice a3 n3 c3, .int .i64 (rtAt rs j).body.result] 71)).heap.size = wo.heap.size + 1 := by simp
      have SX := Lib.hid sX
      have HAX := Lib.hid (HA.out.keep KX)
      have RX := Lib.hid (row_ext RSJ.out KX (fun h => h))
      have KXO := Lib.hid KX
      clear rp rl rb hnp hnl hsg hpl hat hns e1 hbf KX sX
      go_wp2_with fail
      obtain ⟨kb, hkb⟩ : ∃ g, g = wo.heap.size := ⟨_, rfl⟩
      have HRB := Lib.hid hkb
      rw [← hkb] at RB
      rw [← hkb]
      obtain ⟨wx, hwx⟩ : ∃ y : World, y = wo.alloc (.cells #[.slice ap np cp, .slice al nl cl, .int .i64 (rtAt rs j).result, .slice a3 n3 c3, .int .i64 (rtAt rs j).body.result] 71) := ⟨_, rfl⟩
      rw [← hwx] at RB QP QL QS SX HAX RX KXO
      rw [← hwx]
      have r0 : wx.cell? ⟨kb, 0, none⟩ = some (.slice ap np cp) := RB.cell (i := 0) (by simp)
      have r1 : wx.cell? ⟨kb, 1, none⟩ = some (.slice al nl cl) := RB.cell (i := 1) (by simp)
      have r2 : wx.cell? ⟨kb, 2, none⟩ = some (.int .i64 (rtAt rs j).result) := RB.cell (i := 2) (by simp)
      have r3 : wx.cell? ⟨kb, 3, none⟩ = some (.slice a3 n3 c3) := RB.cell (i := 3) (by simp)
      have r4 : wx.cell? ⟨kb, 4, none⟩ = some (.int .i64 (rtAt rs j).body.result) := RB.cell (i := 4) (by simp)
      have z1 : wx.cell? ⟨ob, 1, none⟩ = some ok := RX.out.cell (i := 1) (by omega)
      have hwx2 : wo.heap.size + 1 ≤ wx.heap.size := by have := SX.out; omega
      clear hwx hkb RB d0 d1 d2 d3 d4
      refine wp_region_held_drew (S := fun w' => w'.cell? ⟨kb, 0, none⟩ = some (.slice ap np cp) ∧ w'.cell? ⟨kb, 1, none⟩ = some (.slice al nl cl) ∧ w'.cell? ⟨kb, 2, none⟩ = some (.int .i64 (rtAt rs j).result) ∧ w'.cell? ⟨kb, 3, none⟩ = some (.slice a3 n3 c3) ∧ w'.cell? ⟨kb, 4, none⟩ = some (.int .i64 (rtAt rs j).body.result)) (by kernel_rfl) ⟨r0, r1, r2, r3, r4⟩ (fun hHeld => ?_)
      refine wT 0 hHeld ?_
      try go_frame
      refine wT 2 hHeld ?_
      try go_frame
      refine wT 3 hHeld ?_
      try go_frame
      refine wT 5 hHeld ?_
      try go_frame
      refine wT 6 hHeld ?_
      try go_frame
      refine wT 8 hHeld ?_
      try go_frame
      refine wT 9 hHeld ?_
      try go_frame
      refine wT 10 hHeld ?_
      try go_frame
      refine wT 11 hHeld ?_
      try go_frame
      refine wT 12 hHeld ?_
      try go_frame
      refine wT 13 hHeld ?_
      try go_frame
      refine wpAnyH_ready (rs := [1, 4]) (by kernel_rfl) (by simp) ?_
      refine allReadyH_consL rfl (by rfl) (fun K hK => ?_) (allReadyH_consL rfl (by rfl) (fun K hK => ?_) (AllReadyH.nil))
      go_simp
      refine hK.out _ _ ⟨r0, r1, r2, r3, r4⟩ (fun hHeld => ?_)
      clear hK K
      try go_frame
      refine wO 4 (fun K hK => ?_)
      go_simp
      go_at_call 54
      refine (cloneInts ap np cp (rtAt rs j).params _ wx.drew (QP.out.kd).toInts (by omega)).mono ?_
      rintro e Y1 ⟨vp, rfl, hvp, kY1⟩
      have r0Y1 := Keep.at kY1 r0
      have r1Y1 := Keep.at kY1 r1
      have r2Y1 := Keep.at kY1 r2
      have r3Y1 := Keep.at kY1 r3
      have r4Y1 := Keep.at kY1 r4
      have z1Y1 := Keep.at kY1 z1
      obtain ⟨p0, e0, e9, hc9, _⟩ := hvp.slice
      obtain ⟨m0, hn9⟩ : ∃ m, (rtAt rs j).params.length = m := ⟨_, rfl⟩
      rw [hn9] at e9
      subst e9
      have OV0 := Lib.hid (((hvp.owns (by omega)).lt).mono (D' := fun k => wx.heap.size ≤ k ∧ k < Y1.heap.size) (fun k hk => ⟨(hvp.lt k hk.1).1, hk.2⟩))
      clear hvp hc9 hn9
      have KYY1 := Lib.hid (Keep.dt kY1)
      have HZ0 : Hid (wx.heap.size ≤ Y1.heap.size) := KYY1.out.size
      refine hK.out _ _ ⟨r0Y1, r1Y1, r2Y1, r3Y1, r4Y1⟩ (fun hHeld => ?_)
      clear hK K
      try go_frame
      refine wO 7 (fun K hK => ?_)
      go_simp
      go_at_call 54
      refine (cloneInts al nl cl (rtAt rs j).lent _ Y1 (QL.out.k KYY1.out).toInts (by omega)).mono ?_
      rintro e Y2 ⟨vp, rfl, hvp, kY2⟩
      have r0Y2 := kY2.cq r0Y1 (fun h => h)
      have r1Y2 := kY2.cq r1Y1 (fun h => h)
      have r2Y2 := kY2.cq r2Y1 (fun h => h)
      have r3Y2 := kY2.cq r3Y1 (fun h => h)
      have r4Y2 := kY2.cq r4Y1 (fun h => h)
      have z1Y2 := kY2.cq z1Y1 (fun h => h)
      obtain ⟨p1, e1, e9, hc9, _⟩ := hvp.slice
      obtain ⟨m1, hn9⟩ : ∃ m, (rtAt rs j).lent.length = m := ⟨_, rfl⟩
      rw [hn9] at e9
      subst e9
      have OV1 := Lib.hid (((hvp.owns (by omega)).lt).mono (D' := fun k => Y1.heap.size ≤ k ∧ k < Y2.heap.size) (fun k hk => ⟨(hvp.lt k hk.1).1, hk.2⟩))
      clear hvp hc9 hn9
      have KYY2 := Lib.hid (KYY1.out.trans kY2)
      have OV0 := Lib.hid (OV0.out.ext kY2 (fun _ _ h => h))
      have HZ1 : Hid (Y1.heap.size ≤ Y2.heap.size) := kY2.size
      refine hK.out _ _ ⟨r0Y2, r1Y2, r2Y2, r3Y2, r4Y2⟩ (fun hHeld => ?_)
      clear hK K
      try go_frame
      refine wO 14 (fun K hK => ?_)
      go_simp
      go_at_call 40
      refine (implPlainBody (rtAt rs j).body.steps (rtAt rs j).body.result PB.out _ _ _ _ _ a3 n3 c3 _ Y2 (QS.out.k KYY2.out)).mono ?_
      rintro e Y3 ⟨az, ns, cs, rfl, ob, kY3⟩
      have r0Y3 := kY3.cq r0Y2 (fun h => h)
      have r1Y3 := kY3.cq r1Y2 (fun h => h)
      have r2Y3 := kY3.cq r2Y2 (fun h => h)
      have r3Y3 := kY3.cq r3Y2 (fun h => h)
      have r4Y3 := kY3.cq r4Y2 (fun h => h)
      have z1Y3 := kY3.cq z1Y2 (fun h => h)
      have OS := Lib.hid (ob.lt.mono (D' := fun k => Y2.heap.size ≤ k ∧ k < Y3.heap.size) (fun k hk => hk))
      have KYY3 := Lib.hid (KYY2.out.trans kY3)
      have OV0 := Lib.hid (OV0.out.ext kY3 (fun _ _ h => h))
      have OV1 := Lib.hid (OV1.out.ext kY3 (fun _ _ h => h))
      have HZ2 : Hid (Y2.heap.size ≤ Y3.heap.size) := kY3.size
      clear ob
      refine hK.out _ _ ⟨r0Y3, r1Y3, r2Y3, r3Y3, r4Y3⟩ (fun hHeld => ?_)
      clear hK K
      try go_frame
      refine wT 15 hHeld ?_
      try go_frame
      refine wO 16 (fun K hK => ?_)
      go_simp
      obtain ⟨Y4, hWY4⟩ : ∃ yW : World, yW = (Y3.alloc (.cells #[.slice p0 m0 e0, .slice p1 m1 e1, .int .i64 (rtAt rs j).result, .slice az ns cs, .int .i64 (rtAt rs j).body.result] 71)) := ⟨_, rfl⟩
      rw [← hWY4]
      have kY4 : Keep Y3 Y4 := by rw [hWY4]; exact Keep.al Y3 (.cells #[.slice p0 m0 e0, .slice p1 m1 e1, .int .i64 (rtAt rs j).result, .slice az ns cs, .int .i64 (rtAt rs j).body.result] 71)
      have hzY4 : Hid (Y4.heap.size = Y3.heap.size + 1) := by show _ = _; rw [hWY4]; exact World.size_alloc _ _
      have r0Y4 := kY4.cq r0Y3 (fun h => h)
      have r1Y4 := kY4.cq r1Y3 (fun h => h)
      have r2Y4 := kY4.cq r2Y3 (fun h => h)
      have r3Y4 := kY4.cq r3Y3 (fun h => h)
      have r4Y4 := kY4.cq r4Y3 (fun h => h)
      have z1Y4 := kY4.cq z1Y3 (fun h => h)
      have HCL : Hid (∀ j' u, [(.slice p0 m0 e0 : Value), .slice p1 m1 e1, .int .i64 (rtAt rs j).result, .slice az ns cs, .int .i64 (rtAt rs j).body.result][j']? = some u → Y4.cell? ⟨Y3.heap.size, j', none⟩ = some u) := by show ∀ _ _, _; rw [hWY4]; exact cells_lit Y3 _ _
      have KV := Lib.hid (KYY3.out.trans kY4)
      have OA2 := Lib.hid (OV0.out.ext kY4 (fun _ _ h => h))
      have OB2 := Lib.hid (OV1.out.ext kY4 (fun _ _ h => h))
      have OS2 := Lib.hid (OS.out.ext kY4 (fun _ _ h => h))
      have HZ3 : Hid (Y3.heap.size ≤ Y4.heap.size) := kY4.size
      replace hWY4 := Lib.hid hWY4
      refine hK.out _ _ ⟨r0Y4, r1Y4, r2Y4, r3Y4, r4Y4⟩ (fun hHeld => ?_)
      clear hK K
      try go_frame
      refine wO 17 (fun K hK => ?_)
      refine wp_of_step (ops := #[]) (by rfl) (step_addRt (by rfl) (.tmp 20) (.tmp 35) (by rfl) wl.heap.size ok _ (by rfl) (HAX.out.keep KV.out) _ 1 ⟨(rtAt rs j).params, (rtAt rs j).lent, (rtAt rs j).result, .mk (plSs (rtAt rs j).body.steps) (rtAt rs j).body.result⟩ (.slice p0 m0 e0) (.slice p1 m1 e1) (.slice az ns cs) _ _ _ (by rfl) HCL.out OA2.out OB2.out OS2.out (fun k hk => ?_) (fun k h1 h2 => by have h3 := h1.2; have h4 := h2.1; omega) (fun k h1 h2 => by have h3 := h1.2; have h4 := h2.1; have h5 := HZ1.out; omega) (fun k h1 h2 => by have h3 := h1.2; have h4 := h2.1; omega) (by have := HLR.out; omega) (by have h1 := KV.out.size; omega) ?_)
      · have hge : wx.heap.size ≤ k := by
          have h5 := HZ0.out
          have h6 := HZ1.out
          rcases hk with hk | hk | hk
          · exact hk.1
          · have := hk.1; omega
          · have := hk.1; omega
        exact ⟨fun h => by have := (HD.out k h).2; omega, fun h => by have := hob.out k h; omega⟩
      intro a7 n7 c7 wz hA7 x7 s7 b7
      have A7 := Lib.hid hA7
      have X7 := Lib.hid x7
      have B7 := Lib.hid b7
      clear hA7 x7 s7 b7
      have r0z := X7.out.cq r0Y4 (fun e => by have h1 := hob.out _ e; have h2 := HRB.out; change kb < _ at h1; omega)
      have r1z := X7.out.cq r1Y4 (fun e => by have h1 := hob.out _ e; have h2 := HRB.out; change kb < _ at h1; omega)
      have r2z := X7.out.cq r2Y4 (fun e => by have h1 := hob.out _ e; have h2 := HRB.out; change kb < _ at h1; omega)
      have r3z := X7.out.cq r3Y4 (fun e => by have h1 := hob.out _ e; have h2 := HRB.out; change kb < _ at h1; omega)
      have r4z := X7.out.cq r4Y4 (fun e => by have h1 := hob.out _ e; have h2 := HRB.out; change kb < _ at h1; omega)
      refine hK.out _ _ ⟨r0z, r1z, r2z, r3z, r4z⟩ (fun hHeld => ?_)
      clear hK K
      try go_frame
      refine wT 18 hHeld ?_
      try go_frame
      refine wO 19 (fun K hK => ?_)
      have RZ := Lib.hid (row_ext (row_ext RX.out KV.out (fun h => h)) X7.out (HNO.out _ hsw))
      have g1 : wz.cell? ⟨ob, 1, none⟩ = some ok := RZ.out.cell (i := 1) (by omega)
      have g2 := RZ.out.frozen 1
      have hq1 : ob ≠ kb := by have := HRB.out; omega
      go_simp
      obtain ⟨wy, hWy⟩ : ∃ y : World, y = wz.setCell ⟨ob, 1, none⟩ (.slice a7 n7 c7) := ⟨_, rfl⟩
      rw [← hWy]
      have XY : Hid (Ext (fun k => k = ob) wz wy) := by show Ext _ _ _; rw [hWy]; exact (Ext.refl (fun k => k = ob) wz).setCell (p := ⟨ob, 1, none⟩) (.inr rfl) _
      have RY : Hid (wy.rowIs ob 30 2 (fun i => (#[.slice ad n0 cd, .slice a7 n7 c7] : Array Value).getD i undef)) := by
        show World.rowIs _ _ _ _ _
        rw [hWy]
        exact (RZ.out.set 1 _).congr (fun i hi => by rcases (show i = 0 ∨ i = 1 by omega) with rfl | rfl <;> rfl)
      replace hWy := Lib.hid hWy
      have r0y := XY.out.cq r0z (fun h => hq1 h.symm)
      have r1y := XY.out.cq r1z (fun h => hq1 h.symm)
      have r2y := XY.out.cq r2z (fun h => hq1 h.symm)
      have r3y := XY.out.cq r3z (fun h => hq1 h.symm)
      have r4y := XY.out.cq r4z (fun h => hq1 h.symm)
      refine hK.out _ _ ⟨r0y, r1y, r2y, r3y, r4y⟩ (fun hHeld => ?_)
      clear hK K
      try go_frame
      refine wpAnyH_done (by kernel_rfl) ?_ _
      rotate_left
      go_simp
      go_at_call 54
      refine (cloneInts ap np cp (rtAt rs j).params _ wx.drew (QP.out.kd).toInts (by omega)).mono ?_
      rintro e Y1 ⟨vp, rfl, hvp, kY1⟩
      have r0Y1 := Keep.at kY1 r0
      have r1Y1 := Keep.at kY1 r1
      have r2Y1 := Keep.at kY1 r2
      have r3Y1 := Keep.at kY1 r3
      have r4Y1 := Keep.at kY1 r4
      have z1Y1 := Keep.at kY1 z1
      obtain ⟨p0, e0, e9, hc9, _⟩ := hvp.slice
      obtain ⟨m0, hn9⟩ : ∃ m, (rtAt rs j).params.length = m := ⟨_, rfl⟩
      rw [hn9] at e9
      subst e9
      have OV0 := Lib.hid (((hvp.owns (by omega)).lt).mono (D' := fun k => wx.heap.size ≤ k ∧ k < Y1.heap.size) (fun k hk => ⟨(hvp.lt k hk.1).1, hk.2⟩))
      clear hvp hc9 hn9
      have KYY1 := Lib.hid (Keep.dt kY1)
      have HZ0 : Hid (wx.heap.size ≤ Y1.heap.size) := KYY1.out.size
      refine hK.out _ _ ⟨r0Y1, r1Y1, r2Y1, r3Y1, r4Y1⟩ (fun hHeld => ?_)
      clear hK K
      try go_frame
      refine wpAnyH_ready (rs := [1, 7]) (by kernel_rfl) (by simp) ?_
      refine allReadyH_consL rfl (by rfl) (fun K hK => ?_) (allReadyH_consL rfl (by rfl) (fun K hK => ?_) (AllReadyH.nil))
      go_simp
      refine hK.out _ _ ⟨r0Y1, r1Y1, r2Y1, r3Y1, r4Y1⟩ (fun hHeld => ?_)
      clear hK K
      try go_frame
      refine wO 7 (fun K hK => ?_)
      go_simp
      go_at_call 54
      refine (cloneInts al nl cl (rtAt rs j).lent _ Y1 (QL.out.k KYY1.out).toInts (by omega)).mono ?_
      rintro e Y2 ⟨vp, rfl, hvp, kY2⟩
      have r0Y2 := kY2.cq r0Y1 (fun h => h)
      have r1Y2 := kY2.cq r1Y1 (fun h => h)
      have r2Y2 := kY2.cq r2Y1 (fun h => h)
      have r3Y2 := kY2.cq r3Y1 (fun h => h)
      have r4Y2 := kY2.cq r4Y1 (fun h => h)
      have z1Y2 := kY2.cq z1Y1 (fun h => h)
      obtain ⟨p1, e1, e9, hc9, _⟩ := hvp.slice
      obtain ⟨m1, hn9⟩ : ∃ m, (rtAt rs j).lent.length = m := ⟨_, rfl⟩
      rw [hn9] at e9
      subst e9
      have OV1 := Lib.hid (((hvp.owns (by omega)).lt).mono (D' := fun k => Y1.heap.size ≤ k ∧ k < Y2.heap.size) (fun k hk => ⟨(hvp.lt k hk.1).1, hk.2⟩))
      clear hvp hc9 hn9
      have KYY2 := Lib.hid (KYY1.out.trans kY2)
      have OV0 := Lib.hid (OV0.out.ext kY2 (fun _ _ h => h))
      have HZ1 : Hid (Y1.heap.size ≤ Y2.heap.size) := kY2.size
      refine hK.out _ _ ⟨r0Y2, r1Y2, r2Y2, r3Y2, r4Y2⟩ (fun hHeld => ?_)
      clear hK K
      try go_frame
      refine wO 14 (fun K hK => ?_)
      go_simp
      go_at_call 40
      refine (implPlainBody (rtAt rs j).body.steps (rtAt rs j).body.result PB.out _ _ _ _ _ a3 n3 c3 _ Y2 (QS.out.k KYY2.out)).mono ?_
      rintro e Y3 ⟨az, ns, cs, rfl, ob, kY3⟩
      have r0Y3 := kY3.cq r0Y2 (fun h => h)
      have r1Y3 := kY3.cq r1Y2 (fun h => h)
      have r2Y3 := kY3.cq r2Y2 (fun h => h)
      have r3Y3 := kY3.cq r3Y2 (fun h => h)
      have r4Y3 := kY3.cq r4Y2 (fun h => h)
      have z1Y3 := kY3.cq z1Y2 (fun h => h)
      have OS := Lib.hid (ob.lt.mono (D' := fun k => Y2.heap.size ≤ k ∧ k < Y3.heap.size) (fun k hk => hk))
      have KYY3 := Lib.hid (KYY2.out.trans kY3)
      have OV0 := Lib.hid (OV0.out.ext kY3 (fun _ _ h => h))
      have OV1 := Lib.hid (OV1.out.ext kY3 (fun _ _ h => h))
      have HZ2 : Hid (Y2.heap.size ≤ Y3.heap.size) := kY3.size
      clear ob
      refine hK.out _ _ ⟨r0Y3, r1Y3, r2Y3, r3Y3, r4Y3⟩ (fun hHeld => ?_)
      clear hK K
      try go_frame
      refine wT 15 hHeld ?_
      try go_frame
      refine wO 16 (fun K hK => ?_)
      go_simp
      obtain ⟨Y4, hWY4⟩ : ∃ yW : World, yW = (Y3.alloc (.cells #[.slice p0 m0 e0, .slice p1 m1 e1, .int .i64 (rtAt rs j).result, .slice az ns cs, .int .i64 (rtAt rs j).body.result] 71)) := ⟨_, rfl⟩
      rw [← hWY4]
      have kY4 : Keep Y3 Y4 := by rw [hWY4]; exact Keep.al Y3 (.cells #[.slice p0 m0 e0, .slice p1 m1 e1, .int .i64 (rtAt rs j).result, .slice az ns cs, .int .i64 (rtAt rs j).body.result] 71)
      have hzY4 : Hid (Y4.heap.size = Y3.heap.size + 1) := by show _ = _; rw [hWY4]; exact World.size_alloc _ _
      have r0Y4 := kY4.cq r0Y3 (fun h => h)
      have r1Y4 := kY4.cq r1Y3 (fun h => h)
      have r2Y4 := kY4.cq r2Y3 (fun h => h)
      have r3Y4 := kY4.cq r3Y3 (fun h => h)
      have r4Y4 := kY4.cq r4Y3 (fun h => h)
      have z1Y4 := kY4.cq z1Y3 (fun h => h)
      have HCL : Hid (∀ j' u, [(.slice p0 m0 e0 : Value), .slice p1 m1 e1, .int .i64 (rtAt rs j).result, .slice az ns cs, .int .i64 (rtAt rs j).body.result][j']? = some u → Y4.cell? ⟨Y3.heap.size, j', none⟩ = some u) := by show ∀ _ _, _; rw [hWY4]; exact cells_lit Y3 _ _
      have KV := Lib.hid (KYY3.out.trans kY4)
      have OA2 := Lib.hid (OV0.out.ext kY4 (fun _ _ h => h))
      have OB2 := Lib.hid (OV1.out.ext kY4 (fun _ _ h => h))
      have OS2 := Lib.hid (OS.out.ext kY4 (fun _ _ h => h))
      have HZ3 : Hid (Y3.heap.size ≤ Y4.heap.size) := kY4.size
      replace hWY4 := Lib.hid hWY4
      refine hK.out _ _ ⟨r0Y4, r1Y4, r2Y4, r3Y4, r4Y4⟩ (fun hHeld => ?_)
      clear hK K
      try go_frame
      refine wO 17 (fun K hK => ?_)
      refine wp_of_step (ops := #[]) (by rfl) (step_addRt (by rfl) (.tmp 20) (.tmp 35) (by rfl) wl.heap.size ok _ (by rfl) (HAX.out.keep KV.out) _ 1 ⟨(rtAt rs j).params, (rtAt rs j).lent, (rtAt rs j).result, .mk (plSs (rtAt rs j).body.steps) (rtAt rs j).body.result⟩ (.slice p0 m0 e0) (.slice p1 m1 e1) (.slice az ns cs) _ _ _ (by rfl) HCL.out OA2.out OB2.out OS2.out (fun k hk => ?_) (fun k h1 h2 => by have h3 := h1.2; have h4 := h2.1; omega) (fun k h1 h2 => by have h3 := h1.2; have h4 := h2.1; have h5 := HZ1.out; omega) (fun k h1 h2 => by have h3 := h1.2; have h4 := h2.1; omega) (by have := HLR.out; omega) (by have h1 := KV.out.size; omega) ?_)
      · have hge : wx.heap.size ≤ k := by
          have h5 := HZ0.out
          have h6 := HZ1.out
          rcases hk with hk | hk | hk
          · exact hk.1
          · have := hk.1; omega
          · have := hk.1; omega
        exact ⟨fun h => by have := (HD.out k h).2; omega, fun h => by have := hob.out k h; omega⟩
      intro a7 n7 c7 wz hA7 x7 s7 b7
      have A7 := Lib.hid hA7
      have X7 := Lib.hid x7
      have B7 := Lib.hid b7
      clear hA7 x7 s7 b7
      have r0z := X7.out.cq r0Y4 (fun e => by have h1 := hob.out _ e; have h2 := HRB.out; change kb < _ at h1; omega)
      have r1z := X7.out.cq r1Y4 (fun e => by have h1 := hob.out _ e; have h2 := HRB.out; change kb < _ at h1; omega)
      have r2z := X7.out.cq r2Y4 (fun e => by have h1 := hob.out _ e; have h2 := HRB.out; change kb < _ at h1; omega)
      have r3z := X7.out.cq r3Y4 (fun e => by have h1 := hob.out _ e; have h2 := HRB.out; change kb < _ at h1; omega)
      have r4z := X7.out.cq r4Y4 (fun e => by have h1 := hob.out _ e; have h2 := HRB.out; change kb < _ at h1; omega)
      refine hK.out _ _ ⟨r0z, r1z, r2z, r3z, r4z⟩ (fun hHeld => ?_)
      clear hK K
      try go_frame
      refine wT 18 hHeld ?_
      try go_frame
      refine wO 19 (fun K hK => ?_)
      have RZ := Lib.hid (row_ext (row_ext RX.out KV.out (fun h => h)) X7.out (HNO.out _ hsw))
      have g1 : wz.cell? ⟨ob, 1, none⟩ = some ok := RZ.out.cell (i := 1) (by omega)
      have g2 := RZ.out.frozen 1
      have hq1 : ob ≠ kb := by have := HRB.out; omega
      go_simp
      obtain ⟨wy, hWy⟩ : ∃ y : World, y = wz.setCell ⟨ob, 1, none⟩ (.slice a7 n7 c7) := ⟨_, rfl⟩
      rw [← hWy]
      have XY : Hid (Ext (fun k => k = ob) wz wy) := by show Ext _ _ _; rw [hWy]; exact (Ext.refl (fun k => k = ob) wz).setCell (p := ⟨ob, 1, none⟩) (.inr rfl) _
      have RY : Hid (wy.rowIs ob 30 2 (fun i => (#[.slice ad n0 cd, .slice a7 n7 c7] : Array Value).getD i undef)) := by
        show World.rowIs _ _ _ _ _
        rw [hWy]
        exact (RZ.out.set 1 _).congr (fun i hi => by rcases (show i = 0 ∨ i = 1 by omega) with rfl | rfl <;> rfl)
      replace hWy := Lib.hid hWy
      have r0y := XY.out.cq r0z (fun h => hq1 h.symm)
      have r1y := XY.out.cq r1z (fun h => hq1 h.symm)
      have r2y := XY.out.cq r2z (fun h => hq1 h.symm)
      have r3y := XY.out.cq r3z (fun h => hq1 h.symm)
      have r4y := XY.out.cq r4z (fun h => hq1 h.symm)
      refine hK.out _ _ ⟨r0y, r1y, r2y, r3y, r4y⟩ (fun hHeld => ?_)
      clear hK K
      try go_frame
      refine wpAnyH_done (by kernel_rfl) ?_ _
      rotate_left
      go_simp
      go_at_call 54
      refine (cloneInts al nl cl (rtAt rs j).lent _ Y1 (QL.out.k KYY1.out).toInts (by omega)).mono ?_
      rintro e Y2 ⟨vp, rfl, hvp, kY2⟩
      have r0Y2 := kY2.cq r0Y1 (fun h => h)
      have r1Y2 := kY2.cq r1Y1 (fun h => h)
      have r2Y2 := kY2.cq r2Y1 (fun h => h)
      have r3Y2 := kY2.cq r3Y1 (fun h => h)
      have r4Y2 := kY2.cq r4Y1 (fun h => h)
      have z1Y2 := kY2.cq z1Y1 (fun h => h)
      obtain ⟨p1, e1, e9, hc9, _⟩ := hvp.slice
      obtain ⟨m1, hn9⟩ : ∃ m, (rtAt rs j).lent.length = m := ⟨_, rfl⟩
      rw [hn9] at e9
      subst e9
      have OV1 := Lib.hid (((hvp.owns (by omega)).lt).mono (D' := fun k => Y1.heap.size ≤ k ∧ k < Y2.heap.size) (fun k hk => ⟨(hvp.lt k hk.1).1, hk.2⟩))
      clear hvp hc9 hn9
      have KYY2 := Lib.hid (KYY1.out.trans kY2)
      have OV0 := Lib.hid (OV0.out.ext kY2 (fun _ _ h => h))
      have HZ1 : Hid (Y1.heap.size ≤ Y2.heap.size) := kY2.size
      refine hK.out _ _ ⟨r0Y2, r1Y2, r2Y2, r3Y2, r4Y2⟩ (fun hHeld => ?_)
      clear hK K
      try go_frame
      refine wpAnyH_ready (rs := [1, 14]) (by kernel_rfl) (by simp) ?_
      refine allReadyH_consL rfl (by rfl) (fun K hK => ?_) (allReadyH_consL rfl (by rfl) (fun K hK => ?_) (AllReadyH.nil))
      go_simp
      refine hK.out _ _ ⟨r0Y2, r1Y2, r2Y2, r3Y2, r4Y2⟩ (fun hHeld => ?_)
      clear hK K
      try go_frame
      refine wO 14 (fun K hK => ?_)
      go_simp
      go_at_call 40
      refine (implPlainBody (rtAt rs j).body.steps (rtAt rs j).body.result PB.out _ _ _ _ _ a3 n3 c3 _ Y2 (QS.out.k KYY2.out)).mono ?_
      rintro e Y3 ⟨az, ns, cs, rfl, ob, kY3⟩
      have r0Y3 := kY3.cq r0Y2 (fun h => h)
      have r1Y3 := kY3.cq r1Y2 (fun h => h)
      have r2Y3 := kY3.cq r2Y2 (fun h => h)
      have r3Y3 := kY3.cq r3Y2 (fun h => h)
      have r4Y3 := kY3.cq r4Y2 (fun h => h)
      have z1Y3 := kY3.cq z1Y2 (fun h => h)
      have OS := Lib.hid (ob.lt.mono (D' := fun k => Y2.heap.size ≤ k ∧ k < Y3.heap.size) (fun k hk => hk))
      have KYY3 := Lib.hid (KYY2.out.trans kY3)
      have OV0 := Lib.hid (OV0.out.ext kY3 (fun _ _ h => h))
      have OV1 := Lib.hid (OV1.out.ext kY3 (fun _ _ h => h))
      have HZ2 : Hid (Y2.heap.size ≤ Y3.heap.size) := kY3.size
      clear ob
      refine hK.out _ _ ⟨r0Y3, r1Y3, r2Y3, r3Y3, r4Y3⟩ (fun hHeld => ?_)
      clear hK K
      try go_frame
      refine wT 15 hHeld ?_
      try go_frame
      refine wO 16 (fun K hK => ?_)
      go_simp
      obtain ⟨Y4, hWY4⟩ : ∃ yW : World, yW = (Y3.alloc (.cells #[.slice p0 m0 e0, .slice p1 m1 e1, .int .i64 (rtAt rs j).result, .slice az ns cs, .int .i64 (rtAt rs j).body.result] 71)) := ⟨_, rfl⟩
      rw [← hWY4]
      have kY4 : Keep Y3 Y4 := by rw [hWY4]; exact Keep.al Y3 (.cells #[.slice p0 m0 e0, .slice p1 m1 e1, .int .i64 (rtAt rs j).result, .slice az ns cs, .int .i64 (rtAt rs j).body.result] 71)
      have hzY4 : Hid (Y4.heap.size = Y3.heap.size + 1) := by show _ = _; rw [hWY4]; exact World.size_alloc _ _
      have r0Y4 := kY4.cq r0Y3 (fun h => h)
      have r1Y4 := kY4.cq r1Y3 (fun h => h)
      have r2Y4 := kY4.cq r2Y3 (fun h => h)
      have r3Y4 := kY4.cq r3Y3 (fun h => h)
      have r4Y4 := kY4.cq r4Y3 (fun h => h)
      have z1Y4 := kY4.cq z1Y3 (fun h => h)
      have HCL : Hid (∀ j' u, [(.slice p0 m0 e0 : Value), .slice p1 m1 e1, .int .i64 (rtAt rs j).result, .slice az ns cs, .int .i64 (rtAt rs j).body.result][j']? = some u → Y4.cell? ⟨Y3.heap.size, j', none⟩ = some u) := by show ∀ _ _, _; rw [hWY4]; exact cells_lit Y3 _ _
      have KV := Lib.hid (KYY3.out.trans kY4)
      have OA2 := Lib.hid (OV0.out.ext kY4 (fun _ _ h => h))
      have OB2 := Lib.hid (OV1.out.ext kY4 (fun _ _ h => h))
      have OS2 := Lib.hid (OS.out.ext kY4 (fun _ _ h => h))
      have HZ3 : Hid (Y3.heap.size ≤ Y4.heap.size) := kY4.size
      replace hWY4 := Lib.hid hWY4
      refine hK.out _ _ ⟨r0Y4, r1Y4, r2Y4, r3Y4, r4Y4⟩ (fun hHeld => ?_)
      clear hK K
      try go_frame
      refine wO 17 (fun K hK => ?_)
      refine wp_of_step (ops := #[]) (by rfl) (step_addRt (by rfl) (.tmp 20) (.tmp 35) (by rfl) wl.heap.size ok _ (by rfl) (HAX.out.keep KV.out) _ 1 ⟨(rtAt rs j).params, (rtAt rs j).lent, (rtAt rs j).result, .mk (plSs (rtAt rs j).body.steps) (rtAt rs j).body.result⟩ (.slice p0 m0 e0) (.slice p1 m1 e1) (.slice az ns cs) _ _ _ (by rfl) HCL.out OA2.out OB2.out OS2.out (fun k hk => ?_) (fun k h1 h2 => by have h3 := h1.2; have h4 := h2.1; omega) (fun k h1 h2 => by have h3 := h1.2; have h4 := h2.1; have h5 := HZ1.out; omega) (fun k h1 h2 => by have h3 := h1.2; have h4 := h2.1; omega) (by have := HLR.out; omega) (by have h1 := KV.out.size; omega) ?_)
      · have hge : wx.heap.size ≤ k := by
          have h5 := HZ0.out
          have h6 := HZ1.out
          rcases hk with hk | hk | hk
          · exact hk.1
          · have := hk.1; omega
          · have := hk.1; omega
        exact ⟨fun h => by have := (HD.out k h).2; omega, fun h => by have := hob.out k h; omega⟩
      intro a7 n7 c7 wz hA7 x7 s7 b7
      have A7 := Lib.hid hA7
      have X7 := Lib.hid x7
      have B7 := Lib.hid b7
      clear hA7 x7 s7 b7
      have r0z := X7.out.cq r0Y4 (fun e => by have h1 := hob.out _ e; have h2 := HRB.out; change kb < _ at h1; omega)
      have r1z := X7.out.cq r1Y4 (fun e => by have h1 := hob.out _ e; have h2 := HRB.out; change kb < _ at h1; omega)
      have r2z := X7.out.cq r2Y4 (fun e => by have h1 := hob.out _ e; have h2 := HRB.out; change kb < _ at h1; omega)
      have r3z := X7.out.cq r3Y4 (fun e => by have h1 := hob.out _ e; have h2 := HRB.out; change kb < _ at h1; omega)
      have r4z := X7.out.cq r4Y4 (fun e => by have h1 := hob.out _ e; have h2 := HRB.out; change kb < _ at h1; omega)
      refine hK.out _ _ ⟨r0z, r1z, r2z, r3z, r4z⟩ (fun hHeld => ?_)
      clear hK K
      try go_frame
      refine wT 18 hHeld ?_
      try go_frame
      refine wO 19 (fun K hK => ?_)
      have RZ := Lib.hid (row_ext (row_ext RX.out KV.out (fun h => h)) X7.out (HNO.out _ hsw))
      have g1 : wz.cell? ⟨ob, 1, none⟩ = some ok := RZ.out.cell (i := 1) (by omega)
      have g2 := RZ.out.frozen 1
      have hq1 : ob ≠ kb := by have := HRB.out; omega
      go_simp
      obtain ⟨wy, hWy⟩ : ∃ y : World, y = wz.setCell ⟨ob, 1, none⟩ (.slice a7 n7 c7) := ⟨_, rfl⟩
      rw [← hWy]
      have XY : Hid (Ext (fun k => k = ob) wz wy) := by show Ext _ _ _; rw [hWy]; exact (Ext.refl (fun k => k = ob) wz).setCell (p := ⟨ob, 1, none⟩) (.inr rfl) _
      have RY : Hid (wy.rowIs ob 30 2 (fun i => (#[.slice ad n0 cd, .slice a7 n7 c7] : Array Value).getD i undef)) := by
        show World.rowIs _ _ _ _ _
        rw [hWy]
        exact (RZ.out.set 1 _).congr (fun i hi => by rcases (show i = 0 ∨ i = 1 by omega) with rfl | rfl <;> rfl)
      replace hWy := Lib.hid hWy
      have r0y := XY.out.cq r0z (fun h => hq1 h.symm)
      have r1y := XY.out.cq r1z (fun h => hq1 h.symm)
      have r2y := XY.out.cq r2z (fun h => hq1 h.symm)
      have r3y := XY.out.cq r3z (fun h => hq1 h.symm)
      have r4y := XY.out.cq r4z (fun h => hq1 h.symm)
      refine hK.out _ _ ⟨r0y, r1y, r2y, r3y, r4y⟩ (fun hHeld => ?_)
      clear hK K
      try go_frame
      refine wpAnyH_done (by kernel_rfl) ?_ _
      rotate_left
      go_simp
      go_at_call 40
      refine (implPlainBody (rtAt rs j).body.steps (rtAt rs j).body.result PB.out _ _ _ _ _ a3 n3 c3 _ Y2 (QS.out.k KYY2.out)).mono ?_
      rintro e Y3 ⟨az, ns, cs, rfl, ob, kY3⟩
      have r0Y3 := kY3.cq r0Y2 (fun h => h)
      have r1Y3 := kY3.cq r1Y2 (fun h => h)
      have r2Y3 := kY3.cq r2Y2 (fun h => h)
      have r3Y3 := kY3.cq r3Y2 (fun h => h)
      have r4Y3 := kY3.cq r4Y2 (fun h => h)
      have z1Y3 := kY3.cq z1Y2 (fun h => h)
      have OS := Lib.hid (ob.lt.mono (D' := fun k => Y2.heap.size ≤ k ∧ k < Y3.heap.size) (fun k hk => hk))
      have KYY3 := Lib.hid (KYY2.out.trans kY3)
      have OV0 := Lib.hid (OV0.out.ext kY3 (fun _ _ h => h))
      have OV1 := Lib.hid (OV1.out.ext kY3 (fun _ _ h => h))
      have HZ2 : Hid (Y2.heap.size ≤ Y3.heap.size) := kY3.size
      clear ob
      refine hK.out _ _ ⟨r0Y3, r1Y3, r2Y3, r3Y3, r4Y3⟩ (fun hHeld => ?_)
      clear hK K
      try go_frame
      refine wT 15 hHeld ?_
      try go_frame
      refine wpAnyH_ready (rs := [1, 16]) (by kernel_rfl) (by simp) ?_
      refine allReadyH_consL rfl (by rfl) (fun K hK => ?_) (allReadyH_consL rfl (by rfl) (fun K hK => ?_) (AllReadyH.nil))
      go_simp
      refine hK.out _ _ ⟨r0Y3, r1Y3, r2Y3, r3Y3, r4Y3⟩ (fun hHeld => ?_)
      clear hK K
      try go_frame
      refine wO 16 (fun K hK => ?_)
      go_simp
      obtain ⟨Y4, hWY4⟩ : ∃ yW : World, yW = (Y3.alloc (.cells #[.slice p0 m0 e0, .slice p1 m1 e1, .int .i64 (rtAt rs j).result, .slice az ns cs, .int .i64 (rtAt rs j).body.result] 71)) := ⟨_, rfl⟩
      rw [← hWY4]
      have kY4 : Keep Y3 Y4 := by rw [hWY4]; exact Keep.al Y3 (.cells #[.slice p0 m0 e0, .slice p1 m1 e1, .int .i64 (rtAt rs j).result, .slice az ns cs, .int .i64 (rtAt rs j).body.result] 71)
      have hzY4 : Hid (Y4.heap.size = Y3.heap.size + 1) := by show _ = _; rw [hWY4]; exact World.size_alloc _ _
      have r0Y4 := kY4.cq r0Y3 (fun h => h)
      have r1Y4 := kY4.cq r1Y3 (fun h => h)
      have r2Y4 := kY4.cq r2Y3 (fun h => h)
      have r3Y4 := kY4.cq r3Y3 (fun h => h)
      have r4Y4 := kY4.cq r4Y3 (fun h => h)
      have z1Y4 := kY4.cq z1Y3 (fun h => h)
      have HCL : Hid (∀ j' u, [(.slice p0 m0 e0 : Value), .slice p1 m1 e1, .int .i64 (rtAt rs j).result, .slice az ns cs, .int .i64 (rtAt rs j).body.result][j']? = some u → Y4.cell? ⟨Y3.heap.size, j', none⟩ = some u) := by show ∀ _ _, _; rw [hWY4]; exact cells_lit Y3 _ _
      have KV := Lib.hid (KYY3.out.trans kY4)
      have OA2 := Lib.hid (OV0.out.ext kY4 (fun _ _ h => h))
      have OB2 := Lib.hid (OV1.out.ext kY4 (fun _ _ h => h))
      have OS2 := Lib.hid (OS.out.ext kY4 (fun _ _ h => h))
      have HZ3 : Hid (Y3.heap.size ≤ Y4.heap.size) := kY4.size
      replace hWY4 := Lib.hid hWY4
      refine hK.out _ _ ⟨r0Y4, r1Y4, r2Y4, r3Y4, r4Y4⟩ (fun hHeld => ?_)
      clear hK K
      try go_frame
      refine wO 17 (fun K hK => ?_)
      refine wp_of_step (ops := #[]) (by rfl) (step_addRt (by rfl) (.tmp 20) (.tmp 35) (by rfl) wl.heap.size ok _ (by rfl) (HAX.out.keep KV.out) _ 1 ⟨(rtAt rs j).params, (rtAt rs j).lent, (rtAt rs j).result, .mk (plSs (rtAt rs j).body.steps) (rtAt rs j).body.result⟩ (.slice p0 m0 e0) (.slice p1 m1 e1) (.slice az ns cs) _ _ _ (by rfl) HCL.out OA2.out OB2.out OS2.out (fun k hk => ?_) (fun k h1 h2 => by have h3 := h1.2; have h4 := h2.1; omega) (fun k h1 h2 => by have h3 := h1.2; have h4 := h2.1; have h5 := HZ1.out; omega) (fun k h1 h2 => by have h3 := h1.2; have h4 := h2.1; omega) (by have := HLR.out; omega) (by have h1 := KV.out.size; omega) ?_)
      · have hge : wx.heap.size ≤ k := by
          have h5 := HZ0.out
          have h6 := HZ1.out
          rcases hk with hk | hk | hk
          · exact hk.1
          · have := hk.1; omega
          · have := hk.1; omega
        exact ⟨fun h => by have := (HD.out k h).2; omega, fun h => by have := hob.out k h; omega⟩
      intro a7 n7 c7 wz hA7 x7 s7 b7
      have A7 := Lib.hid hA7
      have X7 := Lib.hid x7
      have B7 := Lib.hid b7
      clear hA7 x7 s7 b7
      have r0z := X7.out.cq r0Y4 (fun e => by have h1 := hob.out _ e; have h2 := HRB.out; change kb < _ at h1; omega)
      have r1z := X7.out.cq r1Y4 (fun e => by have h1 := hob.out _ e; have h2 := HRB.out; change kb < _ at h1; omega)
      have r2z := X7.out.cq r2Y4 (fun e => by have h1 := hob.out _ e; have h2 := HRB.out; change kb < _ at h1; omega)
      have r3z := X7.out.cq r3Y4 (fun e => by have h1 := hob.out _ e; have h2 := HRB.out; change kb < _ at h1; omega)
      have r4z := X7.out.cq r4Y4 (fun e => by have h1 := hob.out _ e; have h2 := HRB.out; change kb < _ at h1; omega)
      refine hK.out _ _ ⟨r0z, r1z, r2z, r3z, r4z⟩ (fun hHeld => ?_)
      clear hK K
      try go_frame
      refine wT 18 hHeld ?_
      try go_frame
      refine wO 19 (fun K hK => ?_)
      have RZ := Lib.hid (row_ext (row_ext RX.out KV.out (fun h => h)) X7.out (HNO.out _ hsw))
      have g1 : wz.cell? ⟨ob, 1, none⟩ = some ok := RZ.out.cell (i := 1) (by omega)
      have g2 := RZ.out.frozen 1
      have hq1 : ob ≠ kb := by have := HRB.out; omega
      go_simp
      obtain ⟨wy, hWy⟩ : ∃ y : World, y = wz.setCell ⟨ob, 1, none⟩ (.slice a7 n7 c7) := ⟨_, rfl⟩
      rw [← hWy]
      have XY : Hid (Ext (fun k => k = ob) wz wy) := by show Ext _ _ _; rw [hWy]; exact (Ext.refl (fun k => k = ob) wz).setCell (p := ⟨ob, 1, none⟩) (.inr rfl) _
      have RY : Hid (wy.rowIs ob 30 2 (fun i => (#[.slice ad n0 cd, .slice a7 n7 c7] : Array Value).getD i undef)) := by
        show World.rowIs _ _ _ _ _
        rw [hWy]
        exact (RZ.out.set 1 _).congr (fun i hi => by rcases (show i = 0 ∨ i = 1 by omega) with rfl | rfl <;> rfl)
      replace hWy := Lib.hid hWy
      have r0y := XY.out.cq r0z (fun h => hq1 h.symm)
      have r1y := XY.out.cq r1z (fun h => hq1 h.symm)
      have r2y := XY.out.cq r2z (fun h => hq1 h.symm)
      have r3y := XY.out.cq r3z (fun h => hq1 h.symm)
      have r4y := XY.out.cq r4z (fun h => hq1 h.symm)
      refine hK.out _ _ ⟨r0y, r1y, r2y, r3y, r4y⟩ (fun hHeld => ?_)
      clear hK K
      try go_frame
      refine wpAnyH_done (by kernel_rfl) ?_ _
      rotate_left
      go_simp
      obtain ⟨Y4, hWY4⟩ : ∃ yW : World, yW = (Y3.alloc (.cells #[.slice p0 m0 e0, .slice p1 m1 e1, .int .i64 (rtAt rs j).result, .slice az ns cs, .int .i64 (rtAt rs j).body.result] 71)) := ⟨_, rfl⟩
      rw [← hWY4]
      have kY4 : Keep Y3 Y4 := by rw [hWY4]; exact Keep.al Y3 (.cells #[.slice p0 m0 e0, .slice p1 m1 e1, .int .i64 (rtAt rs j).result, .slice az ns cs, .int .i64 (rtAt rs j).body.result] 71)
      have hzY4 : Hid (Y4.heap.size = Y3.heap.size + 1) := by show _ = _; rw [hWY4]; exact World.size_alloc _ _
      have r0Y4 := kY4.cq r0Y3 (fun h => h)
      have r1Y4 := kY4.cq r1Y3 (fun h => h)
      have r2Y4 := kY4.cq r2Y3 (fun h => h)
      have r3Y4 := kY4.cq r3Y3 (fun h => h)
      have r4Y4 := kY4.cq r4Y3 (fun h => h)
      have z1Y4 := kY4.cq z1Y3 (fun h => h)
      have HCL : Hid (∀ j' u, [(.slice p0 m0 e0 : Value), .slice p1 m1 e1, .int .i64 (rtAt rs j).result, .slice az ns cs, .int .i64 (rtAt rs j).body.result][j']? = some u → Y4.cell? ⟨Y3.heap.size, j', none⟩ = some u) := by show ∀ _ _, _; rw [hWY4]; exact cells_lit Y3 _ _
      have KV := Lib.hid (KYY3.out.trans kY4)
      have OA2 := Lib.hid (OV0.out.ext kY4 (fun _ _ h => h))
      have OB2 := Lib.hid (OV1.out.ext kY4 (fun _ _ h => h))
      have OS2 := Lib.hid (OS.out.ext kY4 (fun _ _ h => h))
      have HZ3 : Hid (Y3.heap.size ≤ Y4.heap.size) := kY4.size
      replace hWY4 := Lib.hid hWY4
      refine hK.out _ _ ⟨r0Y4, r1Y4, r2Y4, r3Y4, r4Y4⟩ (fun hHeld => ?_)
      clear hK K
      try go_frame
      refine wO 1 (fun K hK => ?_)
      go_simp
      refine hK.out _ _ ⟨r0Y4, r1Y4, r2Y4, r3Y4, r4Y4⟩ (fun hHeld => ?_)
      clear hK K
      try go_frame
      refine wO 17 (fun K hK => ?_)
      refine wp_of_step (ops := #[]) (by rfl) (step_addRt (by rfl) (.tmp 20) (.tmp 35) (by rfl) wl.heap.size ok _ (by rfl) (HAX.out.keep KV.out) _ 1 ⟨(rtAt rs j).params, (rtAt rs j).lent, (rtAt rs j).result, .mk (plSs (rtAt rs j).body.steps) (rtAt rs j).body.result⟩ (.slice p0 m0 e0) (.slice p1 m1 e1) (.slice az ns cs) _ _ _ (by rfl) HCL.out OA2.out OB2.out OS2.out (fun k hk => ?_) (fun k h1 h2 => by have h3 := h1.2; have h4 := h2.1; omega) (fun k h1 h2 => by have h3 := h1.2; have h4 := h2.1; have h5 := HZ1.out; omega) (fun k h1 h2 => by have h3 := h1.2; have h4 := h2.1; omega) (by have := HLR.out; omega) (by have h1 := KV.out.size; omega) ?_)
      · have hge : wx.heap.size ≤ k := by
          have h5 := HZ0.out
          have h6 := HZ1.out
          rcases hk with hk | hk | hk
          · exact hk.1
          · have := hk.1; omega
          · have := hk.1; omega
        exact ⟨fun h => by have := (HD.out k h).2; omega, fun h => by have := hob.out k h; omega⟩
      intro a7 n7 c7 wz hA7 x7 s7 b7
      have A7 := Lib.hid hA7
      have X7 := Lib.hid x7
      have B7 := Lib.hid b7
      clear hA7 x7 s7 b7
      have r0z := X7.out.cq r0Y4 (fun e => by have h1 := hob.out _ e; have h2 := HRB.out; change kb < _ at h1; omega)
      have r1z := X7.out.cq r1Y4 (fun e => by have h1 := hob.out _ e; have h2 := HRB.out; change kb < _ at h1; omega)
      have r2z := X7.out.cq r2Y4 (fun e => by have h1 := hob.out _ e; have h2 := HRB.out; change kb < _ at h1; omega)
      have r3z := X7.out.cq r3Y4 (fun e => by have h1 := hob.out _ e; have h2 := HRB.out; change kb < _ at h1; omega)
      have r4z := X7.out.cq r4Y4 (fun e => by have h1 := hob.out _ e; have h2 := HRB.out; change kb < _ at h1; omega)
      refine hK.out _ _ ⟨r0z, r1z, r2z, r3z, r4z⟩ (fun hHeld => ?_)
      clear hK K
      try go_frame
      refine wT 18 hHeld ?_
      try go_frame
      refine wO 19 (fun K hK => ?_)
      have RZ := Lib.hid (row_ext (row_ext RX.out KV.out (fun h => h)) X7.out (HNO.out _ hsw))
      have g1 : wz.cell? ⟨ob, 1, none⟩ = some ok := RZ.out.cell (i := 1) (by omega)
      have g2 := RZ.out.frozen 1
      have hq1 : ob ≠ kb := by have := HRB.out; omega
      go_simp
      obtain ⟨wy, hWy⟩ : ∃ y : World, y = wz.setCell ⟨ob, 1, none⟩ (.slice a7 n7 c7) := ⟨_, rfl⟩
      rw [← hWy]
      have XY : Hid (Ext (fun k => k = ob) wz wy) := by show Ext _ _ _; rw [hWy]; exact (Ext.refl (fun k => k = ob) wz).setCell (p := ⟨ob, 1, none⟩) (.inr rfl) _
      have RY : Hid (wy.rowIs ob 30 2 (fun i => (#[.slice ad n0 cd, .slice a7 n7 c7] : Array Value).getD i undef)) := by
        show World.rowIs _ _ _ _ _
        rw [hWy]
        exact (RZ.out.set 1 _).congr (fun i hi => by rcases (show i = 0 ∨ i = 1 by omega) with rfl | rfl <;> rfl)
      replace hWy := Lib.hid hWy
      have r0y := XY.out.cq r0z (fun h => hq1 h.symm)
      have r1y := XY.out.cq r1z (fun h => hq1 h.symm)
      have r2y := XY.out.cq r2z (fun h => hq1 h.symm)
      have r3y := XY.out.cq r3z (fun h => hq1 h.symm)
      have r4y := XY.out.cq r4z (fun h => hq1 h.symm)
      refine hK.out _ _ ⟨r0y, r1y, r2y, r3y, r4y⟩ (fun hHeld => ?_)
      clear hK K
      try go_frame
      refine wpAnyH_done (by kernel_rfl) ?_ _
      rotate_left
      all_goals
        have KR := Lib.hid ((((HK.out.trans (Keep.to KXO.out)).trans (Keep.to KV.out)).then_ X7.out (fun i hi h => absurd h (HNO.out i hi))).trans XY.out)
        have hx7 := X7.out.size
        have hk2 := KV.out.size
        have hxy := XY.out.size
        have hz1 := HZ1.out
        have hz2 := HZ2.out
        have hz3 := HZ3.out
        have hz0 := HZ0.out
        go_wp2
        go_roundw
        case rel => exact ⟨j + 1, _, .slice a7 n7 c7, by omega, by go_num, RY.out, (by
          show Acc _ _ _ _ _ _ _
          rw [HTK.out, HPR.out]
          refine A7.out.extO XY.out (fun k hk hd e => ?_) (fun k hk e => ?_)
          · rcases hd with hd | hd
            · have := (HD.out k hd).1; omega
            · rcases hd.1 with h | h | h
              · have := h.1; omega
              · have := h.1; omega
              · have := h.1; omega
          · rcases B7.out k hk with h | h
            · exact HNO.out k (by omega) h
            · omega), (fun k hk => by
          rcases hk with hk | hk
          · have := HD.out k hk; omega
          · have h2 := hk.2
            rcases hk.1 with h | h | h
            · have := h.1; omega
            · have := h.1; omega
            · have := h.1; omega), KR.out⟩
        case measure => simp [intOf]; omega
    · have hjn : j = n1 := by omega
      subst hjn
      have HJ : Hid (rs.take j = rs) := by show _ = _; rw [List.take_of_length_le (by have := HL.out; omega)]
      rw [HJ.out] at HA
      obtain ⟨ar, cr, e9, hcr, hor⟩ := HA.out.own (by omega) (by rw [List.length_map]; omega)
      obtain ⟨nr9, hnr9⟩ : ∃ m, (rs.map (fun f => rowR (plR f))).length = m := ⟨_, rfl⟩
      rw [hnr9] at e9
      subst e9
      have RT := row_ext RZ2.out HK.out (fun h => by omega)
      have t0 : wo.cell? ⟨w.heap.size + 1, 0, none⟩ = some (.slice none 0 0) := RT.cell (i := 0) (by simp)
      have t1 : wo.cell? ⟨w.heap.size + 1, 1, none⟩ = some (.slice none 0 0) := RT.cell (i := 1) (by simp)
      have t2 := RT.frozen 0
      have t3 := RT.frozen 1
      have z0 : wo.cell? ⟨ob, 0, none⟩ = some (.slice ad n0 cd) := RSJ.out.cell (i := 0) (by omega)
      have z1 : wo.cell? ⟨ob, 1, none⟩ = some (.slice ar nr9 cr) := RSJ.out.cell (i := 1) (by omega)
      have X := (((Ext.refl (fun k => k = w.heap.size + 1) wo).setCell (p := ⟨w.heap.size + 1, 0, none⟩) (.inr rfl) (.slice ad n0 cd)).setCell (p := ⟨w.heap.size + 1, 1, none⟩) (.inr rfl) (.slice ar nr9 cr))
      have hol := HOB.out
      have hsl := SL.out
      have KF := Lib.hid ((K2.out.then_ HK.out (fun i hi e => by omega)).then_ X (fun i hi e => by omega))
      have hxs := X.size
      have OD2 := Lib.hid ((OD.out.ext HK.out (fun k hk e => by omega)).ext X (fun k hk e => by omega))
      have OR2 := Lib.hid (((hor.lt.mono (D' := fun k => w2.heap.size ≤ k ∧ k < wo.heap.size) (fun k hk => ⟨by rcases hk.1 with h | h; have := (HD.out k h).1; omega; omega, hk.2⟩)).ext X (fun k hk e => by omega)).mono (D' := fun k => w2.heap.size ≤ k ∧ k < ((wo.setCell ⟨w.heap.size + 1, 0, none⟩ (.slice ad n0 cd)).setCell ⟨w.heap.size + 1, 1, none⟩ (.slice ar nr9 cr)).heap.size) (fun k hk => by omega))
      have HRT : Hid ((rs.map (fun f => rowR (plR f))) = (rs.map plR).map rowR) := by show _ = _; rw [List.map_map]; rfl
      clear RT X hor hnr9 hol hsl
      go_wp2_with fail
      exact bodyPost_ret (v := .agg #[.slice ad n0 cd, .slice ar nr9 cr]) (by simp [results, Tryz.results39, go_sem, t0, t1]) rfl (fin_ hQ ⟨ad, cd, ar, nr9, cr, w2.heap.size, rfl, hw2, OD2.out, by rw [encRouts, ← HRT.out]; exact OR2.out, KF.out⟩)

set_option maxRecDepth 100000 in
set_option maxHeartbeats 1000000 in
theorem implPlainOf (ds : List DeclL) (rs : List RoutL) (hor : okRs rs) (a0 : Option Addr) (n0 c0 : Nat) (a1 : Option Addr) (n1 c1 : Nat) (D0 D1 : Nat → Prop) (w : World) (r0 : Rd w D0 (encDecls ds) (.slice a0 n0 c0)) (r1 : Rd w D1 (encRouts rs) (.slice a1 n1 c1)) :
    Calls Tryz.prog 10 #[.agg #[.slice a0 n0 c0, .slice a1 n1 c1]] w fun e w' => ∃ ad nd cd ar nr cr, e = .returned (.tuple #[.agg #[.slice ad nd cd, .slice ar nr cr], .bool (normOk ds rs)]) ∧ ToS w.heap.size w'.heap.size w' [encDecls (ploD ds rs), encRouts (ploR ds rs)] [.slice ad nd cd, .slice ar nr cr] ∧ Keep w w' := by
  refine calls_k fun Q hQ => ?_
  have HOR := Lib.hid hor
  have K0 := (Keep.al w (.cells #[.slice a0 n0 c0, .slice a1 n1 c1] 30)).trans (Keep.al _ (.cells #[.slice none 0 0, .slice none 0 0] 30))
  have RZ0 := rowOf (w.alloc (.cells #[.slice a0 n0 c0, .slice a1 n1 c1] 30)) #[.slice none 0 0, .slice none 0 0] 30
  have R0 := (rowOf w #[.slice a0 n0 c0, .slice a1 n1 c1] 30).alloc (.cells #[.slice none 0 0, .slice none 0 0] 30)
  simp only [World.size_alloc] at RZ0
  have q0 := Lib.hid (r0.k K0)
  have q1 := Lib.hid (r1.k K0)
  clear hor r0 r1
  cases hp : normOk ds rs
  · have HP := Lib.hid hp
    have E1 : Hid (ploD ds rs = []) := by show _ = _; rw [ploD, hp]; rfl
    have E2 : Hid (ploR ds rs = []) := by show _ = _; rw [ploR, hp]; rfl
    rw [hp, E1.out, E2.out] at hQ
    have KW := Lib.hid K0
    have RZ := Lib.hid RZ0
    clear hp K0 RZ0
    go_enter Tryz.func10, Tryz.ntmps10
    go_wp2_with fail
    refine (implValidNormal _ _ _ _ _ _ _ _ _ _ _ q0.out q1.out HOR.out).mono ?_
    rw [HP.out]
    rintro e w1 ⟨rfl, p1⟩
    have RT := row_ext RZ.out p1 (fun h => h)
    have t0 : w1.cell? ⟨w.heap.size + 1, 0, none⟩ = some (.slice none 0 0) := RT.cell (i := 0) (by simp)
    have t1 : w1.cell? ⟨w.heap.size + 1, 1, none⟩ = some (.slice none 0 0) := RT.cell (i := 1) (by simp)
    have t2 := RT.frozen 0
    have t3 := RT.frozen 1
    have KF := Lib.hid ((KW.out.trans p1).then_ (((Ext.refl (fun k => k = w.heap.size + 1) w1).setCell (p := ⟨w.heap.size + 1, 0, none⟩) (.inr rfl) (.slice none 0 0)).setCell (p := ⟨w.heap.size + 1, 1, none⟩) (.inr rfl) (.slice none 0 0)) (fun i hi e => by omega))
    clear RT q0 q1 R0 p1
    go_wp2_with fail
    exact bodyPost_ret (v := .tuple #[.agg #[.slice none 0 0, .slice none 0 0], .bool false]) (by simp [results, Tryz.results10, go_sem, t0, t1]) rfl (fin_ hQ ⟨none, 0, 0, none, 0, 0, rfl, ToS.mk2 (E0 := fun _ => False) (E1 := fun _ => False) (fun _ h => h.elim) (fun _ h => h.elim) (fun _ h => h.elim) (.nil _ _ _ _) (.nil _ _ _ _), KF.out⟩)
  · have HP := Lib.hid hp
    have E1 : Hid (ploD ds rs = ds) := by show _ = _; rw [ploD, if_pos hp]
    have E2 : Hid (ploR ds rs = rs.map plR) := by show _ = _; rw [ploR, if_pos hp]
    rw [hp, E1.out, E2.out] at hQ
    have KW := Lib.hid K0
    have RZ := Lib.hid RZ0
    have RP := Lib.hid R0
    clear hp K0 RZ0 R0
    go_enter Tryz.func10, Tryz.ntmps10
    go_wp2_with fail
    refine (implValidNormal _ _ _ _ _ _ _ _ _ _ _ q0.out q1.out HOR.out).mono ?_
    rw [HP.out]
    rintro e w1 ⟨rfl, p1⟩
    replace q0 := Lib.hid (q0.out.k p1)
    replace q1 := Lib.hid (q1.out.k p1)
    have RP1 := row_ext RP.out p1 (fun h => h)
    have x0 : w1.cell? ⟨w.heap.size, 0, none⟩ = some (.slice a0 n0 c0) := RP1.cell (i := 0) (by simp)
    have x1 : w1.cell? ⟨w.heap.size, 1, none⟩ = some (.slice a1 n1 c1) := RP1.cell (i := 1) (by simp)
    have K1 := Lib.hid (KW.out.trans p1)
    have RZ1 := Lib.hid (row_ext RZ.out p1 (fun h => h))
    have hs : w.heap.size + 2 ≤ w1.heap.size := by have := p1.size; simp only [World.size_alloc] at this; omega
    clear RP1 p1
    go_wp2_with fail
    refine (implMapBodies ds rs HP.out HOR.out _ _ _ _ _ _ _ _ _ q0.out q1.out).mono ?_
    rintro e w2 ⟨ad, cd, ar, nr, cr, m, rfl, hm, od, oR, p2⟩
    have RT := row_ext RZ1.out p2 (fun h => h)
    have t0 : w2.cell? ⟨w.heap.size + 1, 0, none⟩ = some (.slice none 0 0) := RT.cell (i := 0) (by simp)
    have t1 : w2.cell? ⟨w.heap.size + 1, 1, none⟩ = some (.slice none 0 0) := RT.cell (i := 1) (by simp)
    have t2 := RT.frozen 0
    have t3 := RT.frozen 1
    have X := (((Ext.refl (fun k => k = w.heap.size + 1) w2).setCell (p := ⟨w.heap.size + 1, 0, none⟩) (.inr rfl) (.slice ad n0 cd)).setCell (p := ⟨w.heap.size + 1, 1, none⟩) (.inr rfl) (.slice ar nr cr))
    have KF := Lib.hid ((K1.out.trans p2).then_ X (fun i hi e => by omega))
    have hx := X.size
    have hmle : ∀ k, m ≤ k ∧ k < w2.heap.size → k < ((w2.setCell ⟨w.heap.size + 1, 0, none⟩ (.slice ad n0 cd)).setCell ⟨w.heap.size + 1, 1, none⟩ (.slice ar nr cr)).heap.size := fun k hk => by omega
    have TF : Hid (ToS w.heap.size (((w2.setCell ⟨w.heap.size + 1, 0, none⟩ (.slice ad n0 cd)).setCell ⟨w.heap.size + 1, 1, none⟩ (.slice ar nr cr))).heap.size ((w2.setCell ⟨w.heap.size + 1, 0, none⟩ (.slice ad n0 cd)).setCell ⟨w.heap.size + 1, 1, none⟩ (.slice ar nr cr)) [encDecls ds, encRouts (rs.map plR)] [.slice ad n0 cd, .slice ar nr cr]) :=
      ToS.mk2 (E0 := fun k => (w1.heap.size + 2 ≤ k ∧ k < m) ∧ k < w2.heap.size) (E1 := fun k => m ≤ k ∧ k < w2.heap.size) (fun k hk => ⟨by omega, by omega⟩) (fun k hk => ⟨by omega, by omega⟩) (fun k h1 h2 => by omega) (od.lt.ext X (fun k hk e => by omega)) (oR.ext X (fun k hk e => by omega))
    clear RT X od oR p2 q0 q1 hmle
    go_wp2_with fail
    exact bodyPost_ret (v := .tuple #[.agg #[.slice ad n0 cd, .slice ar nr cr], .bool true]) (by simp [results, Tryz.results10, go_sem, t0, t1]) rfl (fin_ hQ ⟨ad, n0, cd, ar, nr, cr, rfl, TF.out, KF.out⟩)
end Go.Proofs.YtkapldpmjkdmcaaGreat
/- How many integers data have, against how many elements. -/
namespace Go.Proofs.YtkapldpmjkdmcaaGreat
open Go.RowKit

theorem cnt_map {α : Type} (f : α → List Dat) (l : List α) (h : ∀ x ∈ l, cntR (f x) ≤ 3 + 3 * szR (f x)) : cntRR (l.map f) ≤ 3 * (l.length + szRR (l.map f)) := by
  induction l with
  | nil => simp [cntRR]
  | cons x xs ih =>
    have h1 := h x (by simp)
    have h2 := ih (fun y hy => h y (by simp [hy]))
    simp only [List.map_cons, cntRR, szRR, List.length_cons]
    omega
theorem cnt_arr {α : Type} (s : Nat) (f : α → List Dat) (l : List α) (h : ∀ x ∈ l, cntR (f x) ≤ 3 + 3 * szR (f x)) : cntD (.arr s (l.map f)) ≤ 3 * szD (.arr s (l.map f)) := by
  have := cnt_map f l h
  simp only [cntD, szD, List.length_map]
  exact this
theorem cnt_ints (xs : List Int) : cntD (encInts xs) ≤ 3 * szD (encInts xs) := cnt_arr 1 rowI xs (fun x _ => by simp only [rowI, cntR, cntD]; omega)
theorem cnt_cons (xs : List (List Int)) : cntD (encCons xs) ≤ 3 * szD (encCons xs) := cnt_arr 1 rowC xs (fun x _ => by
  have := cnt_ints x
  simp only [rowC, cntR, szR]; omega)
theorem cnt_decls (xs : List DeclL) : cntD (encDecls xs) ≤ 3 * szD (encDecls xs) := cnt_arr 3 rowD xs (fun x _ => by
  have := cnt_cons x.cons
  simp only [rowD, cntR, szR, cntD, szD]; omega)
mutual
theorem cnt_rowE : ∀ e : ExprL, cntR (rowE e) ≤ 3 + 3 * szR (rowE e)
  | .mk op num ks => by
    have := cnt_rowsE ks
    have hl : (rowsE ks).length = ks.length := by rw [rowsE_map]; simp
    simp only [rowE, cntR, szR, cntD, szD, hl]; omega
theorem cnt_rowsE : ∀ es : List ExprL, cntRR (rowsE es) ≤ 3 * (es.length + szRR (rowsE es))
  | [] => by simp [rowsE, cntRR]
  | e :: es => by
    have h1 := cnt_rowE e
    have h2 := cnt_rowsE es
    simp only [rowsE, cntRR, szRR, List.length_cons]; omega
end
mutual
theorem cnt_rowS : ∀ e : StepL, cntR (rowS e) ≤ 3 + 3 * szR (rowS e)
  | .mk op num into args ks => by
    have := cnt_rowsB ks
    have := cnt_ints args
    have hl : (rowsB ks).length = ks.length := by rw [rowsB_map]; simp
    simp only [rowS, cntR, szR, cntD, szD, hl]; omega
theorem cnt_rowB : ∀ e : BlockL, cntR (rowB e) ≤ 3 + 3 * szR (rowB e)
  | .mk ss r => by
    have := cnt_rowsS ss
    have hl : (rowsS ss).length = ss.length := by rw [rowsS_map]; simp
    simp only [rowB, cntR, szR, cntD, szD, hl]; omega
theorem cnt_rowsS : ∀ es : List StepL, cntRR (rowsS es) ≤ 3 * (es.length + szRR (rowsS es))
  | [] => by simp [rowsS, cntRR]
  | e :: es => by
    have h1 := cnt_rowS e
    have h2 := cnt_rowsS es
    simp only [rowsS, cntRR, szRR, List.length_cons]; omega
theorem cnt_rowsB : ∀ es : List BlockL, cntRR (rowsB es) ≤ 3 * (es.length + szRR (rowsB es))
  | [] => by simp [rowsB, cntRR]
  | e :: es => by
    have h1 := cnt_rowB e
    have h2 := cnt_rowsB es
    simp only [rowsB, cntRR, szRR, List.length_cons]; omega
end
theorem cnt_steps (xs : List StepL) : cntD (encSteps xs) ≤ 3 * szD (encSteps xs) := by
  have := cnt_rowsS xs
  have hl : (rowsS xs).length = xs.length := by rw [rowsS_map]; simp
  simp only [encSteps, cntD, szD, hl]; exact this
theorem cnt_routs (xs : List RoutL) : cntD (encRouts xs) ≤ 3 * szD (encRouts xs) := cnt_arr 5 rowR xs (fun x _ => by
  have := cnt_ints x.params
  have := cnt_ints x.lent
  have := cnt_steps x.body.steps
  simp only [rowR, cntR, szR, cntD, szD]; omega)
end Go.Proofs.YtkapldpmjkdmcaaGreat
/- How many integers what PlainOf returns holds. -/
namespace Go.Proofs.YtkapldpmjkdmcaaGreat
open Go.RowKit

theorem ploD_cnt (ds : List DeclL) (rs : List RoutL) : cntD (encDecls (ploD ds rs)) ≤ cntD (encDecls ds) := by
  unfold ploD
  split
  · exact Nat.le_refl _
  · rw [encDecls, cntD]; exact Nat.zero_le _
theorem ploR_cnt (ds : List DeclL) (rs : List RoutL) : cntD (encRouts (ploR ds rs)) ≤ cntD (encRouts rs) := by
  unfold ploR
  split
  · exact plRs_cnt rs
  · rw [encRouts, cntD]; exact Nat.zero_le _
end Go.Proofs.YtkapldpmjkdmcaaGreat
