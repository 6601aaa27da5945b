/- build of the program: choices by a number. -/
import Derived.Test.YtkapldpmjkdmcaaGreatSAL
import Derived.Test.YtkapldpmjkdmcaaGreatSAD
import Derived.Test.YtkapldpmjkdmcaaGreatSAI
import Derived.Test.YtkapldpmjkdmcaaGreatSAB
namespace Go.Proofs.YtkapldpmjkdmcaaGreat
open Go.RowKit

theorem ty_choice2 {ds : List DeclL} {sg : List SigL} {num op : Int} {ks : List ExprL} {vars : List Int} (ho : op = 7 ∨ op = 8) (h : 0 ≤ tyE ds sg vars (.mk op num ks)) : 2 ≤ ks.length := by
  obtain ⟨h1, _, _⟩ := ty_choice ho h
  rw [tyE, if_neg (by omega), if_neg (by omega)] at h
  rcases ho with rfl | rfl
  · rw [h1]; simp [kidsF]
  · rw [if_neg (by decide), if_pos rfl] at h
    split at h
    · next h2 => have := h2.1; have := h2.2.1; omega
    · omega

section
variable (ds : List DeclL) (sg : List SigL) (hok : sigsOk ds sg = true)
include hok
set_option maxRecDepth 100000 in
set_option maxHeartbeats 4000000 in
theorem implLow_7 (num : Int) (ks : List ExprL) (IH0 : ∀ j, j < ks.length → LwI ds sg (eAt ks j)) : LwI ds sg (.mk 7 num ks) := by
  intro vars env n N q base D D1 v rows a0 n0 c0 av nv cv a m c w hL hN r0 rv re hAs hty hlen hB1 hB2 hB3
  refine calls_k fun Q hQ => ?_
  change Rd w D1 (encExprs ks) _ at re
  simp only [ExprL.op, ExprL.num]
  rw [nE] at hB1 hB2 hB3
  have K0 := Keep.al w (.cells #[.int .i64 7, .int .i64 num, .slice a m c] 58)
  have R1 := rowOf w #[.int .i64 7, .int .i64 num, .slice a m c] 58
  have hq := hL.qlt
  have hv := hL.own
  have HE : Hid (∀ k, AsideI D1 w k → k ≠ q ∧ v.ownBlock ≠ some k) := by
    intro k hk
    rcases hk with hk | rfl
    · exact hAs k hk.1
    · exact ⟨by omega, fun e => by have := hv _ e; omega⟩
  have rd0 := Lib.hid (((r0.lt).mono (D' := AsideI D1 w) (fun k hk => .inl hk)).k K0)
  have rdv := Lib.hid (((rv.lt).mono (D' := AsideI D1 w) (fun k hk => .inl hk)).k K0)
  have rde := Lib.hid (((re.lt).mono (D' := AsideI D1 w) (fun k hk => .inl hk)).k K0)
  have LW := Lib.hid (hL.k K0)
  have KW := Lib.hid K0
  have sW : ((w.alloc (.cells #[.int .i64 7, .int .i64 num, .slice a m c] 58))).heap.size = w.heap.size + 1 := by simp
  have HDL := Lib.hid hL.lt
  clear hAs hL r0 rv re
  obtain ⟨t1, t2, t3⟩ := ty_choice (.inl rfl) hty
  have t4 := ty_choice2 (.inl rfl) hty
  have hDlt : ∀ k, D k → k < w.heap.size := HDL.out
  have hf := Few.of_ok (sigsOk_parts hok).1
  have HF := Lib.hid hf
  have HFL := Lib.hid (kidsF_le (ds := ds) hok 7 num)
  have TY2 := Lib.hid t2
  have TY3 := Lib.hid t3
  have HKL := Lib.hid t1
  have IH := Lib.hid IH0
  have IB := Lib.hid (fun (j : Nat) (hj : j < ks.length) => implKid_of ds sg _ (IH0 j hj))
  have HTW := Lib.hid (fun (j : Nat) (hj : j + 1 < ks.length) => nE_two0 ks hj)
  have hq0 := nE_le ks (j := 0) (by omega)
  have VL := Lib.hid (lowE_choice (num := num) (ks := ks) ds env n (op := 7) (.inl rfl) (by omega))
  rw [VL.out] at hQ
  obtain ⟨s1, hs1⟩ : ∃ s, (lowE ds (eAt ks 0) env n).1 = s := ⟨_, rfl⟩
  obtain ⟨y1, hy1⟩ : ∃ s, (lowE ds (eAt ks 0) env n).2 = s := ⟨_, rfl⟩
  have hsl : s1.length ≤ nE (eAt ks 0) := by rw [← hs1]; exact lowE_len ds _ _ _
  rw [hs1, hy1] at hQ
  have HS1 := Lib.hid hs1
  have HY1 := Lib.hid hy1
  obtain ⟨N1, hN1⟩ : ∃ N1 : Int, N1 = ((n + s1.length : Nat) : Int) := ⟨_, rfl⟩
  have HN1 := Lib.hid hN1
  obtain ⟨e1, hnc, hnm, hat⟩ := exprs_at rde.out
  have HAT := Lib.hid hat
  have HM := Lib.hid e1
  obtain ⟨b, o, rfl, hb0, ak, nk, ck, d0, d1, d2, rk⟩ := hat 0 (by omega)
  simp only [Nat.zero_mul, Nat.add_zero] at d0 d1 d2
  have HN := Lib.hid hN
  have enl : env.length ≤ 4000 := by omega
  have hm1 : 2 ≤ m := by omega
  have hc2 : ¬ c = 1 := by omega
  have hm2 : (0 : Int) < (m : Int) := by omega
  have hm3 : 0 < m := by omega
  have u0 : ((w.alloc (.cells #[.int .i64 7, .int .i64 num, .slice (some ⟨b, o, none⟩) m c] 58))).cell? ⟨w.heap.size, 0, none⟩ = some (.int .i64 7) := R1.cell (i := 0) (by simp)
  have u1 : ((w.alloc (.cells #[.int .i64 7, .int .i64 num, .slice (some ⟨b, o, none⟩) m c] 58))).cell? ⟨w.heap.size, 1, none⟩ = some (.int .i64 num) := R1.cell (i := 1) (by simp)
  have u2 : ((w.alloc (.cells #[.int .i64 7, .int .i64 num, .slice (some ⟨b, o, none⟩) m c] 58))).cell? ⟨w.heap.size, 2, none⟩ = some (.slice (some ⟨b, o, none⟩) m c) := R1.cell (i := 2) (by simp)
  have RK := Lib.hid rk
  have hv5 : env.length = nv := (ints_at rdv.out).1
  clear hat VL hs1 hy1 t1 t2 t3 t4 IH0 hty rk R1 hN K0 e1 hf hN1 HDL
  go_enter Tryz.func53, Tryz.ntmps53
  go_upto_region 9 with fail
  have hW2 := Lib.hid sW
  generalize hW : (w.alloc (.cells #[.int .i64 7, .int .i64 num, .slice (some ⟨b, o, none⟩) m c] 58)) = W at *
  clear hW sW
  have hbW : b < W.heap.size := by rcases hb0 with h | h <;> (have := hW2.out; omega)
  go_wp2_with fail
  refine wp_region_held_drew (S := fun w' => w'.cell? ⟨w.heap.size, 0, none⟩ = some (.int .i64 7) ∧ w'.cell? ⟨w.heap.size, 1, none⟩ = some (.int .i64 num) ∧ w'.cell? ⟨w.heap.size, 2, none⟩ = some (.slice (some ⟨b, o, none⟩) m c) ∧ w'.cell? ⟨b, o, none⟩ = some (.int .i64 (eAt ks 0).op) ∧ w'.cell? ⟨b, o + 1, none⟩ = some (.int .i64 (eAt ks 0).num) ∧ w'.cell? ⟨b, o + 2, none⟩ = some (.slice ak nk ck)) (by kernel_rfl) ⟨u0, u1, u2, d0, d1, d2⟩ (fun hHeld => ?_)
  refine wT 0 hHeld ?_
  try go_frame
  refine wT 1 hHeld ?_
  try go_frame
  refine wT 2 hHeld ?_
  try go_frame
  refine wT 3 hHeld ?_
  try go_frame
  refine wT 4 hHeld ?_
  try go_frame
  refine wT 5 hHeld ?_
  try go_frame
  refine wT 6 hHeld ?_
  try go_frame
  refine wT 7 hHeld ?_
  try go_frame
  refine wT 8 hHeld ?_
  try go_frame
  refine wT 9 hHeld ?_
  try go_frame
  refine wpAnyH_ready (rs := [10, 13]) (by kernel_rfl) (by simp) ?_
  refine allReadyH_consL rfl (by rfl) (fun K hK => ?_) (allReadyH_consL rfl (by rfl) (fun K hK => ?_) (AllReadyH.nil))
  go_simp
  go_at_call 53
  refine (IH.out 0 (by have := HM.out; omega) vars env n N q base D (AsideI D1 w) v rows _ _ _ _ _ _ _ _ _ W.drew (LW.out.k (Ext.refl (fun _ => False) W).drew) HN.out (rd0.out.k (Ext.refl (fun _ => False) W).drew) (rdv.out.k (Ext.refl (fun _ => False) W).drew) (RK.out.k (Ext.refl (fun _ => False) W).drew) HE.out TY2.out hlen (by omega) (by omega) (by omega)).mono ?_
  rw [HS1.out, HY1.out]
  rintro e w5 ⟨v1, D2, rfl, L5, T5⟩
  have L5' : Hid (LowSt w5 base q 91 #[.slice a0 n0 c0, .int .i64 N1, v1] D2 v1 (rows ++ rowsS s1)) := by show LowSt _ _ _ _ _ _ _ _; rw [HN1.out]; exact L5
  have T5' := Lib.hid (LowTo.pre (Ext.refl (fun _ => False) W).drew T5)
  have HZ5 : Hid (W.heap.size ≤ w5.heap.size) := T5'.out.ext.size
  have u0w := at_low T5'.out HE.out u0 (.inr rfl)
  have u1w := at_low T5'.out HE.out u1 (.inr rfl)
  have u2w := at_low T5'.out HE.out u2 (.inr rfl)
  have d0w := at_low T5'.out HE.out d0 hb0
  have d1w := at_low T5'.out HE.out d1 hb0
  have d2w := at_low T5'.out HE.out d2 hb0
  clear L5 T5
  refine hK.out _ _ ⟨u0w, u1w, u2w, d0w, d1w, d2w⟩ (fun hHeld => ?_)
  clear hK K
  try go_frame
  refine wpAnyH_ready (rs := [11, 13]) (by kernel_rfl) (by simp) ?_
  refine allReadyH_consL rfl (by rfl) (fun K hK => ?_) (allReadyH_consL rfl (by rfl) (fun K hK => ?_) (AllReadyH.nil))
  go_simp
  obtain ⟨Y1, hWY1⟩ : ∃ yW : World, yW = (w5.alloc (.cells #[.int .i64 y1] 3)) := ⟨_, rfl⟩
  rw [← hWY1]
  have kY1 : Keep w5 Y1 := by rw [hWY1]; exact Keep.al w5 (.cells #[.int .i64 y1] 3)
  have hzY1 : Hid (Y1.heap.size = w5.heap.size + 1) := by show _ = _; rw [hWY1]; exact World.size_alloc _ _
  have u0Y1 := kY1.cq u0w (fun h => h)
  have u1Y1 := kY1.cq u1w (fun h => h)
  have u2Y1 := kY1.cq u2w (fun h => h)
  have d0Y1 := kY1.cq d0w (fun h => h)
  have d1Y1 := kY1.cq d1w (fun h => h)
  have d2Y1 := kY1.cq d2w (fun h => h)
  have OAY1 : Hid (Own Y1 (fun k => k = w5.heap.size) (encInts [y1]) (.slice (some ⟨w5.heap.size, 0, none⟩) 1 1)) := by show Own _ _ _ _; rw [hWY1]; exact ownLit1 w5 y1
  replace hWY1 := Lib.hid hWY1
  have LY1 := Lib.hid (L5'.out.k kY1)
  have TY1 := Lib.hid (T5'.out.post kY1)
  have hgHAB5 : w5.heap.size ≤ w5.heap.size := Nat.le_refl _
  have HAB5 : Hid (¬ D2 w5.heap.size ∧ v1.ownBlock ≠ some w5.heap.size ∧ w5.heap.size ≠ q ∧ W.heap.size ≤ w5.heap.size) := ⟨fun h => by have := L5'.out.lt _ h; have := hgHAB5; omega, fun h => by have := (L5'.out.own _ h).2; have := hgHAB5; omega, by have := L5'.out.qlt; have := hgHAB5; omega, by have := HZ5.out; have := hgHAB5; omega⟩
  refine hK.out _ _ ⟨u0Y1, u1Y1, u2Y1, d0Y1, d1Y1, d2Y1⟩ (fun hHeld => ?_)
  clear hK K
  try go_frame
  refine wT 12 hHeld ?_
  try go_frame
  refine wO 13 (fun K hK => ?_)
  go_simp
  obtain ⟨Y2, hWY2⟩ : ∃ yW : World, yW = (Y1.alloc (.cells #[.int .i64 0, .int .i64 0, .int .i64 0, .slice none 0 0, .slice none 0 0] 136)) := ⟨_, rfl⟩
  rw [← hWY2]
  have kY2 : Keep Y1 Y2 := by rw [hWY2]; exact Keep.al Y1 (.cells #[.int .i64 0, .int .i64 0, .int .i64 0, .slice none 0 0, .slice none 0 0] 136)
  have hzY2 : Hid (Y2.heap.size = Y1.heap.size + 1) := by show _ = _; rw [hWY2]; exact World.size_alloc _ _
  have u0Y2 := kY2.cq u0Y1 (fun h => h)
  have u1Y2 := kY2.cq u1Y1 (fun h => h)
  have u2Y2 := kY2.cq u2Y1 (fun h => h)
  have d0Y2 := kY2.cq d0Y1 (fun h => h)
  have d1Y2 := kY2.cq d1Y1 (fun h => h)
  have d2Y2 := kY2.cq d2Y1 (fun h => h)
  have RBY2 : Hid (Y2.rowIs Y1.heap.size 136 5 (fun i => (#[.int .i64 0, .int .i64 0, .int .i64 0, .slice none 0 0, .slice none 0 0] : Array Value).getD i undef)) := by show World.rowIs _ _ _ _ _; rw [hWY2]; exact rowOf Y1 #[.int .i64 0, .int .i64 0, .int .i64 0, .slice none 0 0, .slice none 0 0] 136
  replace hWY2 := Lib.hid hWY2
  have LY2 := Lib.hid (LY1.out.k kY2)
  have TY2 := Lib.hid (TY1.out.post kY2)
  have OAY2 := Lib.hid (OAY1.out.ext kY2 (fun _ _ h => h))
  have hgHSB5 : w5.heap.size ≤ Y1.heap.size := kY1.size
  have HSB5 : Hid (¬ D2 Y1.heap.size ∧ v1.ownBlock ≠ some Y1.heap.size ∧ Y1.heap.size ≠ q ∧ W.heap.size ≤ Y1.heap.size) := ⟨fun h => by have := L5'.out.lt _ h; have := hgHSB5; omega, fun h => by have := (L5'.out.own _ h).2; have := hgHSB5; omega, by have := L5'.out.qlt; have := hgHSB5; omega, by have := HZ5.out; have := hgHSB5; omega⟩
  refine hK.out _ _ ⟨u0Y2, u1Y2, u2Y2, d0Y2, d1Y2, d2Y2⟩ (fun hHeld => ?_)
  clear hK K
  try go_frame
  refine wO 14 (fun K hK => ?_)
  obtain ⟨sb, hsb⟩ : ∃ g, g = Y1.heap.size := ⟨_, rfl⟩
  obtain ⟨ab, hab⟩ : ∃ g, g = w5.heap.size := ⟨_, rfl⟩
  have RS0 : Hid (Y2.rowIs sb 136 5 (fun i => (#[.int .i64 0, .int .i64 0, .int .i64 0, .slice none 0 0, .slice none 0 0] : Array Value).getD i undef)) := by show World.rowIs _ _ _ _ _; rw [hsb]; exact RBY2.out
  have HSB : Hid (¬ D2 sb ∧ v1.ownBlock ≠ some sb ∧ sb ≠ q ∧ W.heap.size ≤ sb) := by show _ ∧ _; rw [hsb]; exact HSB5.out
  have HAB : Hid (¬ D2 ab ∧ v1.ownBlock ≠ some ab ∧ ab ≠ q ∧ W.heap.size ≤ ab) := by show _ ∧ _; rw [hab]; exact HAB5.out
  have HNE : Hid (sb ≠ ab) := by show _ ≠ _; rw [hsb, hab]; have h1 := hzY1.out; omega
  have OAX : Hid (Own Y2 (fun k => k = ab) (encInts [y1]) (.slice (some ⟨ab, 0, none⟩) 1 1)) := by show Own _ _ _ _; rw [hab]; exact OAY2.out
  rw [← hsb, ← hab]
  clear hsb hab
  have v0 : Y2.cell? ⟨sb, 0, none⟩ = some (.int .i64 0) := RS0.out.cell (i := 0) (by omega)
  have v1' : Y2.cell? ⟨sb, 1, none⟩ = some (.int .i64 0) := RS0.out.cell (i := 1) (by omega)
  have v2 : Y2.cell? ⟨sb, 2, none⟩ = some (.int .i64 0) := RS0.out.cell (i := 2) (by omega)
  have v3 : Y2.cell? ⟨sb, 3, none⟩ = some (.slice none 0 0) := RS0.out.cell (i := 3) (by omega)
  have v4 : Y2.cell? ⟨sb, 4, none⟩ = some (.slice none 0 0) := RS0.out.cell (i := 4) (by omega)
  have f0 := RS0.out.frozen 0
  have f1 := RS0.out.frozen 1
  have f2 := RS0.out.frozen 2
  have f3 := RS0.out.frozen 3
  have f4 := RS0.out.frozen 4
  go_simp
  obtain ⟨wi, hWi⟩ : ∃ yW : World, yW = ((((Y2.setCell ⟨sb, 0, none⟩ (.int .i64 7)).setCell ⟨sb, 1, none⟩ (.int .i64 num)).setCell ⟨sb, 2, none⟩ (.int .i64 0)).setCell ⟨sb, 3, none⟩ (.slice (some ⟨ab, 0, none⟩) 1 1)).setCell ⟨sb, 4, none⟩ (.slice none 0 0) := ⟨_, rfl⟩
  rw [← hWi]
  have XI : Hid (Ext (fun k => k = sb) Y2 wi) := by show Ext _ _ _; rw [hWi]; exact (((((Ext.refl (fun k => k = sb) Y2).setCell (p := ⟨sb, 0, none⟩) (.inr rfl) _).setCell (p := ⟨sb, 1, none⟩) (.inr rfl) _).setCell (p := ⟨sb, 2, none⟩) (.inr rfl) _).setCell (p := ⟨sb, 3, none⟩) (.inr rfl) _).setCell (p := ⟨sb, 4, none⟩) (.inr rfl) _
  have RS : Hid (wi.rowIs sb 136 5 (fun i => (#[.int .i64 7, .int .i64 num, .int .i64 0, .slice (some ⟨ab, 0, none⟩) 1 1, .slice none 0 0] : Array Value).getD i undef)) := by
    show World.rowIs _ _ _ _ _
    rw [hWi]
    exact (((((RS0.out.set 0 _).set 1 _).set 2 _).set 3 _).set 4 _).congr (fun i hi => by rcases (show i = 0 ∨ i = 1 ∨ i = 2 ∨ i = 3 ∨ i = 4 by omega) with rfl | rfl | rfl | rfl | rfl <;> rfl)
  have LF := Lib.hid (LY2.out.ext XI.out (fun h => HSB.out.2.2.1 h.symm) (fun k hk h => HSB.out.1 (h ▸ hk)) (fun k hk h => HSB.out.2.1 (h ▸ hk)))
  have TF := Lib.hid (TY2.out.aside XI.out (fun k hk => by have := HSB.out.2.2.2; omega))
  have OA := Lib.hid (OAX.out.ext XI.out (fun k hk h => HNE.out (by rw [← h, hk])))
  clear hWi v0 v1' v2 v3 v4 f0 f1 f2 f3 f4 RS0 OAX
  have u0i := XI.out.cq u0Y2 (fun h => by have h1 := HSB.out.2.2.2; have h2 := hW2.out; change w.heap.size = sb at h; omega)
  have u1i := XI.out.cq u1Y2 (fun h => by have h1 := HSB.out.2.2.2; have h2 := hW2.out; change w.heap.size = sb at h; omega)
  have u2i := XI.out.cq u2Y2 (fun h => by have h1 := HSB.out.2.2.2; have h2 := hW2.out; change w.heap.size = sb at h; omega)
  have d0i := XI.out.cq d0Y2 (fun h => by have h1 := HSB.out.2.2.2; have h2 := hW2.out; have h3 := hbW; change b = sb at h; omega)
  have d1i := XI.out.cq d1Y2 (fun h => by have h1 := HSB.out.2.2.2; have h2 := hW2.out; have h3 := hbW; change b = sb at h; omega)
  have d2i := XI.out.cq d2Y2 (fun h => by have h1 := HSB.out.2.2.2; have h2 := hW2.out; have h3 := hbW; change b = sb at h; omega)
  refine hK.out _ _ ⟨u0i, u1i, u2i, d0i, d1i, d2i⟩ (fun hHeld => ?_)
  clear hK K
  try go_frame
  refine wpAnyH_done (by kernel_rfl) ?_ _
  rotate_left
  go_simp
  obtain ⟨Y1, hWY1⟩ : ∃ yW : World, yW = (w5.alloc (.cells #[.int .i64 0, .int .i64 0, .int .i64 0, .slice none 0 0, .slice none 0 0] 136)) := ⟨_, rfl⟩
  rw [← hWY1]
  have kY1 : Keep w5 Y1 := by rw [hWY1]; exact Keep.al w5 (.cells #[.int .i64 0, .int .i64 0, .int .i64 0, .slice none 0 0, .slice none 0 0] 136)
  have hzY1 : Hid (Y1.heap.size = w5.heap.size + 1) := by show _ = _; rw [hWY1]; exact World.size_alloc _ _
  have u0Y1 := kY1.cq u0w (fun h => h)
  have u1Y1 := kY1.cq u1w (fun h => h)
  have u2Y1 := kY1.cq u2w (fun h => h)
  have d0Y1 := kY1.cq d0w (fun h => h)
  have d1Y1 := kY1.cq d1w (fun h => h)
  have d2Y1 := kY1.cq d2w (fun h => h)
  have RBY1 : Hid (Y1.rowIs w5.heap.size 136 5 (fun i => (#[.int .i64 0, .int .i64 0, .int .i64 0, .slice none 0 0, .slice none 0 0] : Array Value).getD i undef)) := by show World.rowIs _ _ _ _ _; rw [hWY1]; exact rowOf w5 #[.int .i64 0, .int .i64 0, .int .i64 0, .slice none 0 0, .slice none 0 0] 136
  replace hWY1 := Lib.hid hWY1
  have LY1 := Lib.hid (L5'.out.k kY1)
  have TY1 := Lib.hid (T5'.out.post kY1)
  have hgHSB5 : w5.heap.size ≤ w5.heap.size := Nat.le_refl _
  have HSB5 : Hid (¬ D2 w5.heap.size ∧ v1.ownBlock ≠ some w5.heap.size ∧ w5.heap.size ≠ q ∧ W.heap.size ≤ w5.heap.size) := ⟨fun h => by have := L5'.out.lt _ h; have := hgHSB5; omega, fun h => by have := (L5'.out.own _ h).2; have := hgHSB5; omega, by have := L5'.out.qlt; have := hgHSB5; omega, by have := HZ5.out; have := hgHSB5; omega⟩
  refine hK.out _ _ ⟨u0Y1, u1Y1, u2Y1, d0Y1, d1Y1, d2Y1⟩ (fun hHeld => ?_)
  clear hK K
  try go_frame
  refine wO 11 (fun K hK => ?_)
  go_simp
  obtain ⟨Y2, hWY2⟩ : ∃ yW : World, yW = (Y1.alloc (.cells #[.int .i64 y1] 3)) := ⟨_, rfl⟩
  rw [← hWY2]
  have kY2 : Keep Y1 Y2 := by rw [hWY2]; exact Keep.al Y1 (.cells #[.int .i64 y1] 3)
  have hzY2 : Hid (Y2.heap.size = Y1.heap.size + 1) := by show _ = _; rw [hWY2]; exact World.size_alloc _ _
  have u0Y2 := kY2.cq u0Y1 (fun h => h)
  have u1Y2 := kY2.cq u1Y1 (fun h => h)
  have u2Y2 := kY2.cq u2Y1 (fun h => h)
  have d0Y2 := kY2.cq d0Y1 (fun h => h)
  have d1Y2 := kY2.cq d1Y1 (fun h => h)
  have d2Y2 := kY2.cq d2Y1 (fun h => h)
  have OAY2 : Hid (Own Y2 (fun k => k = Y1.heap.size) (encInts [y1]) (.slice (some ⟨Y1.heap.size, 0, none⟩) 1 1)) := by show Own _ _ _ _; rw [hWY2]; exact ownLit1 Y1 y1
  replace hWY2 := Lib.hid hWY2
  have LY2 := Lib.hid (LY1.out.k kY2)
  have TY2 := Lib.hid (TY1.out.post kY2)
  have RBY2 := Lib.hid (row_ext RBY1.out kY2 (fun h => h))
  have hgHAB5 : w5.heap.size ≤ Y1.heap.size := kY1.size
  have HAB5 : Hid (¬ D2 Y1.heap.size ∧ v1.ownBlock ≠ some Y1.heap.size ∧ Y1.heap.size ≠ q ∧ W.heap.size ≤ Y1.heap.size) := ⟨fun h => by have := L5'.out.lt _ h; have := hgHAB5; omega, fun h => by have := (L5'.out.own _ h).2; have := hgHAB5; omega, by have := L5'.out.qlt; have := hgHAB5; omega, by have := HZ5.out; have := hgHAB5; omega⟩
  refine hK.out _ _ ⟨u0Y2, u1Y2, u2Y2, d0Y2, d1Y2, d2Y2⟩ (fun hHeld => ?_)
  clear hK K
  try go_frame
  refine wT 12 hHeld ?_
  try go_frame
  refine wO 14 (fun K hK => ?_)
  obtain ⟨sb, hsb⟩ : ∃ g, g = w5.heap.size := ⟨_, rfl⟩
  obtain ⟨ab, hab⟩ : ∃ g, g = Y1.heap.size := ⟨_, rfl⟩
  have RS0 : Hid (Y2.rowIs sb 136 5 (fun i => (#[.int .i64 0, .int .i64 0, .int .i64 0, .slice none 0 0, .slice none 0 0] : Array Value).getD i undef)) := by show World.rowIs _ _ _ _ _; rw [hsb]; exact RBY2.out
  have HSB : Hid (¬ D2 sb ∧ v1.ownBlock ≠ some sb ∧ sb ≠ q ∧ W.heap.size ≤ sb) := by show _ ∧ _; rw [hsb]; exact HSB5.out
  have HAB : Hid (¬ D2 ab ∧ v1.ownBlock ≠ some ab ∧ ab ≠ q ∧ W.heap.size ≤ ab) := by show _ ∧ _; rw [hab]; exact HAB5.out
  have HNE : Hid (sb ≠ ab) := by show _ ≠ _; rw [hsb, hab]; have h1 := hzY1.out; omega
  have OAX : Hid (Own Y2 (fun k => k = ab) (encInts [y1]) (.slice (some ⟨ab, 0, none⟩) 1 1)) := by show Own _ _ _ _; rw [hab]; exact OAY2.out
  rw [← hsb, ← hab]
  clear hsb hab
  have v0 : Y2.cell? ⟨sb, 0, none⟩ = some (.int .i64 0) := RS0.out.cell (i := 0) (by omega)
  have v1' : Y2.cell? ⟨sb, 1, none⟩ = some (.int .i64 0) := RS0.out.cell (i := 1) (by omega)
  have v2 : Y2.cell? ⟨sb, 2, none⟩ = some (.int .i64 0) := RS0.out.cell (i := 2) (by omega)
  have v3 : Y2.cell? ⟨sb, 3, none⟩ = some (.slice none 0 0) := RS0.out.cell (i := 3) (by omega)
  have v4 : Y2.cell? ⟨sb, 4, none⟩ = some (.slice none 0 0) := RS0.out.cell (i := 4) (by omega)
  have f0 := RS0.out.frozen 0
  have f1 := RS0.out.frozen 1
  have f2 := RS0.out.frozen 2
  have f3 := RS0.out.frozen 3
  have f4 := RS0.out.frozen 4
  go_simp
  obtain ⟨wi, hWi⟩ : ∃ yW : World, yW = ((((Y2.setCell ⟨sb, 0, none⟩ (.int .i64 7)).setCell ⟨sb, 1, none⟩ (.int .i64 num)).setCell ⟨sb, 2, none⟩ (.int .i64 0)).setCell ⟨sb, 3, none⟩ (.slice (some ⟨ab, 0, none⟩) 1 1)).setCell ⟨sb, 4, none⟩ (.slice none 0 0) := ⟨_, rfl⟩
  rw [← hWi]
  have XI : Hid (Ext (fun k => k = sb) Y2 wi) := by show Ext _ _ _; rw [hWi]; exact (((((Ext.refl (fun k => k = sb) Y2).setCell (p := ⟨sb, 0, none⟩) (.inr rfl) _).setCell (p := ⟨sb, 1, none⟩) (.inr rfl) _).setCell (p := ⟨sb, 2, none⟩) (.inr rfl) _).setCell (p := ⟨sb, 3, none⟩) (.inr rfl) _).setCell (p := ⟨sb, 4, none⟩) (.inr rfl) _
  have RS : Hid (wi.rowIs sb 136 5 (fun i => (#[.int .i64 7, .int .i64 num, .int .i64 0, .slice (some ⟨ab, 0, none⟩) 1 1, .slice none 0 0] : Array Value).getD i undef)) := by
    show World.rowIs _ _ _ _ _
    rw [hWi]
    exact (((((RS0.out.set 0 _).set 1 _).set 2 _).set 3 _).set 4 _).congr (fun i hi => by rcases (show i = 0 ∨ i = 1 ∨ i = 2 ∨ i = 3 ∨ i = 4 by omega) with rfl | rfl | rfl | rfl | rfl <;> rfl)
  have LF := Lib.hid (LY2.out.ext XI.out (fun h => HSB.out.2.2.1 h.symm) (fun k hk h => HSB.out.1 (h ▸ hk)) (fun k hk h => HSB.out.2.1 (h ▸ hk)))
  have TF := Lib.hid (TY2.out.aside XI.out (fun k hk => by have := HSB.out.2.2.2; omega))
  have OA := Lib.hid (OAX.out.ext XI.out (fun k hk h => HNE.out (by rw [← h, hk])))
  clear hWi v0 v1' v2 v3 v4 f0 f1 f2 f3 f4 RS0 OAX
  have u0i := XI.out.cq u0Y2 (fun h => by have h1 := HSB.out.2.2.2; have h2 := hW2.out; change w.heap.size = sb at h; omega)
  have u1i := XI.out.cq u1Y2 (fun h => by have h1 := HSB.out.2.2.2; have h2 := hW2.out; change w.heap.size = sb at h; omega)
  have u2i := XI.out.cq u2Y2 (fun h => by have h1 := HSB.out.2.2.2; have h2 := hW2.out; change w.heap.size = sb at h; omega)
  have d0i := XI.out.cq d0Y2 (fun h => by have h1 := HSB.out.2.2.2; have h2 := hW2.out; have h3 := hbW; change b = sb at h; omega)
  have d1i := XI.out.cq d1Y2 (fun h => by have h1 := HSB.out.2.2.2; have h2 := hW2.out; have h3 := hbW; change b = sb at h; omega)
  have d2i := XI.out.cq d2Y2 (fun h => by have h1 := HSB.out.2.2.2; have h2 := hW2.out; have h3 := hbW; change b = sb at h; omega)
  refine hK.out _ _ ⟨u0i, u1i, u2i, d0i, d1i, d2i⟩ (fun hHeld => ?_)
  clear hK K
  try go_frame
  refine wpAnyH_done (by kernel_rfl) ?_ _
  rotate_left
  go_simp
  obtain ⟨Y1, hWY1⟩ : ∃ yW : World, yW = (W.alloc (.cells #[.int .i64 0, .int .i64 0, .int .i64 0, .slice none 0 0, .slice none 0 0] 136)).drew := ⟨_, rfl⟩
  rw [← hWY1]
  have kY1 : Keep W.drew Y1 := by rw [hWY1]; exact Keep.al W.drew (.cells #[.int .i64 0, .int .i64 0, .int .i64 0, .slice none 0 0, .slice none 0 0] 136)
  have hzY1 : Hid (Y1.heap.size = W.heap.size + 1) := by show _ = _; rw [hWY1]; exact World.size_alloc _ _
  have u0Y1 := Keep.at kY1 u0
  have u1Y1 := Keep.at kY1 u1
  have u2Y1 := Keep.at kY1 u2
  have d0Y1 := Keep.at kY1 d0
  have d1Y1 := Keep.at kY1 d1
  have d2Y1 := Keep.at kY1 d2
  have RBY1 : Hid (Y1.rowIs W.heap.size 136 5 (fun i => (#[.int .i64 0, .int .i64 0, .int .i64 0, .slice none 0 0, .slice none 0 0] : Array Value).getD i undef)) := by show World.rowIs _ _ _ _ _; rw [hWY1]; exact rowOf W.drew #[.int .i64 0, .int .i64 0, .int .i64 0, .slice none 0 0, .slice none 0 0] 136
  replace hWY1 := Lib.hid hWY1
  have KP0 := Lib.hid (Keep.dt kY1)
  have RB := RBY1
  refine hK.out _ _ ⟨u0Y1, u1Y1, u2Y1, d0Y1, d1Y1, d2Y1⟩ (fun hHeld => ?_)
  clear hK K
  try go_frame
  refine wO 10 (fun K hK => ?_)
  go_simp
  go_at_call 53
  refine (IH.out 0 (by have := HM.out; omega) vars env n N q base D (AsideI D1 w) v rows _ _ _ _ _ _ _ _ _ Y1 (LW.out.k KP0.out) HN.out (rd0.out.k KP0.out) (rdv.out.k KP0.out) (RK.out.k KP0.out) HE.out TY2.out hlen (by omega) (by omega) (by omega)).mono ?_
  rw [HS1.out, HY1.out]
  rintro e w5 ⟨v1, D2, rfl, L5, T5⟩
  have L5' : Hid (LowSt w5 base q 91 #[.slice a0 n0 c0, .int .i64 N1, v1] D2 v1 (rows ++ rowsS s1)) := by show LowSt _ _ _ _ _ _ _ _; rw [HN1.out]; exact L5
  have T5' := Lib.hid (LowTo.pre KP0.out T5)
  have HZ5 : Hid (W.heap.size ≤ w5.heap.size) := T5'.out.ext.size
  have u0w := at_low T5 HE.out u0Y1 (.inr rfl)
  have u1w := at_low T5 HE.out u1Y1 (.inr rfl)
  have u2w := at_low T5 HE.out u2Y1 (.inr rfl)
  have d0w := at_low T5 HE.out d0Y1 hb0
  have d1w := at_low T5 HE.out d1Y1 hb0
  have d2w := at_low T5 HE.out d2Y1 hb0
  have HSB5 : Hid (¬ D2 W.heap.size ∧ v1.ownBlock ≠ some W.heap.size ∧ W.heap.size ≠ q ∧ W.heap.size ≤ W.heap.size) := ⟨fun h => by
    rcases T5.sub _ h with h | h
    · have := hDlt _ h; have := hW2.out; omega
    · have := hzY1.out; omega, fun h => by
    rcases T5.blk _ h with h | h
    · have := (hv _ h).2; have := hW2.out; omega
    · have := hzY1.out; omega, by have := hW2.out; omega, Nat.le_refl _⟩
  have RB5 := Lib.hid (row_ext RB.out T5.ext (fun e => by
    rcases e with e | e
    · have := hW2.out; omega
    · have := (hv _ e).2; have := hW2.out; omega))
  have HZ6 : Hid (W.heap.size < w5.heap.size) := by have h1 := T5.ext.size; have h2 := hzY1.out; show _ < _; omega
  clear L5 T5
  refine hK.out _ _ ⟨u0w, u1w, u2w, d0w, d1w, d2w⟩ (fun hHeld => ?_)
  clear hK K
  try go_frame
  refine wO 11 (fun K hK => ?_)
  go_simp
  obtain ⟨Y2, hWY2⟩ : ∃ yW : World, yW = (w5.alloc (.cells #[.int .i64 y1] 3)) := ⟨_, rfl⟩
  rw [← hWY2]
  have kY2 : Keep w5 Y2 := by rw [hWY2]; exact Keep.al w5 (.cells #[.int .i64 y1] 3)
  have hzY2 : Hid (Y2.heap.size = w5.heap.size + 1) := by show _ = _; rw [hWY2]; exact World.size_alloc _ _
  have u0Y2 := kY2.cq u0w (fun h => h)
  have u1Y2 := kY2.cq u1w (fun h => h)
  have u2Y2 := kY2.cq u2w (fun h => h)
  have d0Y2 := kY2.cq d0w (fun h => h)
  have d1Y2 := kY2.cq d1w (fun h => h)
  have d2Y2 := kY2.cq d2w (fun h => h)
  have OAY2 : Hid (Own Y2 (fun k => k = w5.heap.size) (encInts [y1]) (.slice (some ⟨w5.heap.size, 0, none⟩) 1 1)) := by show Own _ _ _ _; rw [hWY2]; exact ownLit1 w5 y1
  replace hWY2 := Lib.hid hWY2
  have LY2 := Lib.hid (L5'.out.k kY2)
  have TY2 := Lib.hid (T5'.out.post kY2)
  have RBY2 := Lib.hid (row_ext RB5.out kY2 (fun h => h))
  have hgHAB5 : w5.heap.size ≤ w5.heap.size := Nat.le_refl _
  have HAB5 : Hid (¬ D2 w5.heap.size ∧ v1.ownBlock ≠ some w5.heap.size ∧ w5.heap.size ≠ q ∧ W.heap.size ≤ w5.heap.size) := ⟨fun h => by have := L5'.out.lt _ h; have := hgHAB5; omega, fun h => by have := (L5'.out.own _ h).2; have := hgHAB5; omega, by have := L5'.out.qlt; have := hgHAB5; omega, by have := HZ5.out; have := hgHAB5; omega⟩
  refine hK.out _ _ ⟨u0Y2, u1Y2, u2Y2, d0Y2, d1Y2, d2Y2⟩ (fun hHeld => ?_)
  clear hK K
  try go_frame
  refine wT 12 hHeld ?_
  try go_frame
  refine wO 14 (fun K hK => ?_)
  obtain ⟨sb, hsb⟩ : ∃ g, g = W.heap.size := ⟨_, rfl⟩
  obtain ⟨ab, hab⟩ : ∃ g, g = w5.heap.size := ⟨_, rfl⟩
  have RS0 : Hid (Y2.rowIs sb 136 5 (fun i => (#[.int .i64 0, .int .i64 0, .int .i64 0, .slice none 0 0, .slice none 0 0] : Array Value).getD i undef)) := by show World.rowIs _ _ _ _ _; rw [hsb]; exact RBY2.out
  have HSB : Hid (¬ D2 sb ∧ v1.ownBlock ≠ some sb ∧ sb ≠ q ∧ W.heap.size ≤ sb) := by show _ ∧ _; rw [hsb]; exact HSB5.out
  have HAB : Hid (¬ D2 ab ∧ v1.ownBlock ≠ some ab ∧ ab ≠ q ∧ W.heap.size ≤ ab) := by show _ ∧ _; rw [hab]; exact HAB5.out
  have HNE : Hid (sb ≠ ab) := by show _ ≠ _; rw [hsb, hab]; have h1 := HZ6.out; omega
  have OAX : Hid (Own Y2 (fun k => k = ab) (encInts [y1]) (.slice (some ⟨ab, 0, none⟩) 1 1)) := by show Own _ _ _ _; rw [hab]; exact OAY2.out
  rw [← hsb, ← hab]
  clear hsb hab
  have v0 : Y2.cell? ⟨sb, 0, none⟩ = some (.int .i64 0) := RS0.out.cell (i := 0) (by omega)
  have v1' : Y2.cell? ⟨sb, 1, none⟩ = some (.int .i64 0) := RS0.out.cell (i := 1) (by omega)
  have v2 : Y2.cell? ⟨sb, 2, none⟩ = some (.int .i64 0) := RS0.out.cell (i := 2) (by omega)
  have v3 : Y2.cell? ⟨sb, 3, none⟩ = some (.slice none 0 0) := RS0.out.cell (i := 3) (by omega)
  have v4 : Y2.cell? ⟨sb, 4, none⟩ = some (.slice none 0 0) := RS0.out.cell (i := 4) (by omega)
  have f0 := RS0.out.frozen 0
  have f1 := RS0.out.frozen 1
  have f2 := RS0.out.frozen 2
  have f3 := RS0.out.frozen 3
  have f4 := RS0.out.frozen 4
  go_simp
  obtain ⟨wi, hWi⟩ : ∃ yW : World, yW = ((((Y2.setCell ⟨sb, 0, none⟩ (.int .i64 7)).setCell ⟨sb, 1, none⟩ (.int .i64 num)).setCell ⟨sb, 2, none⟩ (.int .i64 0)).setCell ⟨sb, 3, none⟩ (.slice (some ⟨ab, 0, none⟩) 1 1)).setCell ⟨sb, 4, none⟩ (.slice none 0 0) := ⟨_, rfl⟩
  rw [← hWi]
  have XI : Hid (Ext (fun k => k = sb) Y2 wi) := by show Ext _ _ _; rw [hWi]; exact (((((Ext.refl (fun k => k = sb) Y2).setCell (p := ⟨sb, 0, none⟩) (.inr rfl) _).setCell (p := ⟨sb, 1, none⟩) (.inr rfl) _).setCell (p := ⟨sb, 2, none⟩) (.inr rfl) _).setCell (p := ⟨sb, 3, none⟩) (.inr rfl) _).setCell (p := ⟨sb, 4, none⟩) (.inr rfl) _
  have RS : Hid (wi.rowIs sb 136 5 (fun i => (#[.int .i64 7, .int .i64 num, .int .i64 0, .slice (some ⟨ab, 0, none⟩) 1 1, .slice none 0 0] : Array Value).getD i undef)) := by
    show World.rowIs _ _ _ _ _
    rw [hWi]
    exact (((((RS0.out.set 0 _).set 1 _).set 2 _).set 3 _).set 4 _).congr (fun i hi => by rcases (show i = 0 ∨ i = 1 ∨ i = 2 ∨ i = 3 ∨ i = 4 by omega) with rfl | rfl | rfl | rfl | rfl <;> rfl)
  have LF := Lib.hid (LY2.out.ext XI.out (fun h => HSB.out.2.2.1 h.symm) (fun k hk h => HSB.out.1 (h ▸ hk)) (fun k hk h => HSB.out.2.1 (h ▸ hk)))
  have TF := Lib.hid (TY2.out.aside XI.out (fun k hk => by have := HSB.out.2.2.2; omega))
  have OA := Lib.hid (OAX.out.ext XI.out (fun k hk h => HNE.out (by rw [← h, hk])))
  clear hWi v0 v1' v2 v3 v4 f0 f1 f2 f3 f4 RS0 OAX
  have u0i := XI.out.cq u0Y2 (fun h => by have h1 := HSB.out.2.2.2; have h2 := hW2.out; change w.heap.size = sb at h; omega)
  have u1i := XI.out.cq u1Y2 (fun h => by have h1 := HSB.out.2.2.2; have h2 := hW2.out; change w.heap.size = sb at h; omega)
  have u2i := XI.out.cq u2Y2 (fun h => by have h1 := HSB.out.2.2.2; have h2 := hW2.out; change w.heap.size = sb at h; omega)
  have d0i := XI.out.cq d0Y2 (fun h => by have h1 := HSB.out.2.2.2; have h2 := hW2.out; have h3 := hbW; change b = sb at h; omega)
  have d1i := XI.out.cq d1Y2 (fun h => by have h1 := HSB.out.2.2.2; have h2 := hW2.out; have h3 := hbW; change b = sb at h; omega)
  have d2i := XI.out.cq d2Y2 (fun h => by have h1 := HSB.out.2.2.2; have h2 := hW2.out; have h3 := hbW; change b = sb at h; omega)
  refine hK.out _ _ ⟨u0i, u1i, u2i, d0i, d1i, d2i⟩ (fun hHeld => ?_)
  clear hK K
  try go_frame
  refine wpAnyH_done (by kernel_rfl) ?_ _
  rotate_left
  all_goals
    have HEI := Lib.hid (asideI_next HE.out (by have := hW2.out; omega) TF.out)
    have hwi := TF.out.ext.size
    have qd := Lib.hid (rd0.out.low HE.out TF.out)
    have qv := Lib.hid (rdv.out.low HE.out TF.out)
    have qk : Hid (∀ (i : Nat), i < m → ∃ b' o', (some (⟨b, o, none⟩ : Addr)) = some ⟨b', o', none⟩ ∧ b' < W.heap.size ∧ ∃ a2 n2 c2, wi.cell? ⟨b', o' + i * 3, none⟩ = some (.int .i64 (eAt ks i).op) ∧ wi.cell? ⟨b', o' + i * 3 + 1, none⟩ = some (.int .i64 (eAt ks i).num) ∧ wi.cell? ⟨b', o' + i * 3 + 2, none⟩ = some (.slice a2 n2 c2) ∧ Rd wi (AsideI D1 w) (encExprs (eAt ks i).kids) (.slice a2 n2 c2)) := by
      intro i hi
      obtain ⟨b', o', e', hb', a2, n2, c2, h0, h1, h2, r⟩ := HAT.out i hi
      exact ⟨b', o', e', by rcases hb' with h | h <;> (have := hW2.out; omega), a2, n2, c2, at_low TF.out HE.out h0 hb', at_low TF.out HE.out h1 hb', at_low TF.out HE.out h2 hb', r.low HE.out TF.out⟩
    have y0 : wi.cell? ⟨q, 0, none⟩ = some (.slice a0 n0 c0) := LF.out.row.cell (i := 0) (by simp)
    have hdc := (decls_at qd.out).2.1
    have HDC := Lib.hid hdc
    have U2 := Lib.hid u2i
    have U1 := Lib.hid u1i
    have U0 := Lib.hid u0i
    have HWI := Lib.hid hwi
    clear d0 d1 d2 d0i d1i d2i hdc u0 u1 u2 rd0 rdv rde RK
    go_wp2_with fail
    go_still_tail 6, (by kernel_rfl)
    change wpList _ _ _ _ _ wi.drew
    go_wp2_with fail
    refine (implConsOf0 _ _ _ ds _ _ _ (Rd.toDecls qd.out.kd) HDC.out HF.out).mono ?_
    rintro e w2 ⟨ac, mc, cc, rfl, hmc, oc, p2⟩
    have K2 := Lib.hid (Keep.dt p2)
    have OC := Lib.hid oc
    have hw2 := K2.out.size
    have HW2 := Lib.hid hw2
    have u0 := K2.out.cq U0.out (fun h => h)
    have u1 := K2.out.cq U1.out (fun h => h)
    have u2 := K2.out.cq U2.out (fun h => h)
    have V0 := Lib.hid u0
    have V1 := Lib.hid u1
    have V2 := Lib.hid u2
    have RS2 := Lib.hid (row_ext RS.out K2.out (fun h => h))
    have L2 := Lib.hid (LF.out.k K2.out)
    have T2 := Lib.hid (TF.out.post K2.out)
    have OA2 := Lib.hid (OA.out.ext K2.out (fun _ _ h => h))
    have A0 : Hid (Acc w2 w2.heap.size (fun _ => False) 69 2 (.slice none 0 0) (rowsB ((lowK ds (ks.drop 1) (kidsF ds 7 num) env (n + s1.length)).take 0))) := by show Acc _ _ _ _ _ _ _; rw [List.take_zero]; exact Acc.nil _ _ _ _ _
    have E0 : Hid (Ext (fun k => k = sb) w2 w2) := Ext.refl _ _
    have hsw : sb < w2.heap.size := RS2.out.lt
    clear oc p2 u0 u1 u0i u1i u2i
    go_wp2_with fail
    go_loopw [72] (fun iv wr => ∃ (j : Nat) (DK : Nat → Prop) (ov : Value), j + 1 ≤ m ∧ iv = .int .i64 j ∧ Hid (wr.rowIs sb 136 5 (fun i => (#[.int .i64 7, .int .i64 num, .int .i64 0, .slice (some ⟨ab, 0, none⟩) 1 1, ov] : Array Value).getD i undef)) ∧ Hid (Acc wr w2.heap.size DK 69 2 ov (rowsB ((lowK ds (ks.drop 1) (kidsF ds 7 num) env (n + s1.length)).take j))) ∧ Hid (∀ k, DK k → w2.heap.size ≤ k ∧ k < wr.heap.size) ∧ Hid (Ext (fun k => k = sb) w2 wr)) (fun iv _ => m - (intOf iv).toNat)
    case atStart => exact ⟨0, fun _ => False, _, by omega, rfl, RS2, A0, fun _ h => h.elim, E0⟩
    case round =>
      clear A0 E0
      obtain ⟨j, DK, ov, hj, rfl, RSJ, HA, HD, HK⟩ := hrel
      obtain ⟨wo, rfl⟩ : ∃ wo : World, wo = wr := ⟨_, rfl⟩
      have hwo := HK.out.size
      have hll := lowK_len ds env (n + s1.length) (ks.drop 1) (kidsF ds 7 num)
      rw [List.length_drop] at hll
      have hlk : ((lowK ds (ks.drop 1) (kidsF ds 7 num) env (n + s1.length)).take j).length = j := by rw [List.length_take, hll]; have := HM.out; omega
      have HLK : Hid ((rowsB ((lowK ds (ks.drop 1) (kidsF ds 7 num) env (n + s1.length)).take j)).length = j) := by show _ = _; rw [rowsB_map, List.length_map]; exact hlk
      have LO := Lib.hid (L2.out.ext HK.out (fun h => HSB.out.2.2.1 h.symm) (fun k hk h => HSB.out.1 (h ▸ hk)) (fun k hk h => HSB.out.2.1 (h ▸ hk)))
      by_cases hlt : j < m - 1
      · have hjk : j + 1 < ks.length := by have := HM.out; omega
        have hj9 : j ≤ 4000 := by have := nEs_len ks; omega
        have HJD : Hid (j < (ks.drop 1).length) := by show _ < _; rw [List.length_drop]; omega
        have HLA := Lib.hid (lowK_take ds env (n + s1.length) (fs := kidsF ds 7 num) HJD.out)
        obtain ⟨b', o', e', hb', aj, nj, cj, d0, d1, d2, rk⟩ := qk.out (j + 1) (by omega)
        injection e' with e'
        injection e' with e' e''
        subst e' e''
        have eo : o + (j + 1) * 3 = o + 3 + j * 3 := by omega
        rw [eo] at d0 d1 d2
        have KX := (Keep.to K2.out).trans HK.out
        have hnb : b ≠ sb := by have := HSB.out.2.2.2; omega
        have d0 := KX.cq d0 hnb
        have d1 := KX.cq d1 hnb
        have d2 := KX.cq d2 hnb
        have hns : ∀ k, AsideI D1 w k → k ≠ sb := by
          intro k hk
          have h1 := HSB.out.2.2.2
          have h2 := hW2.out
          rcases hk with hk | hk <;> omega
        have hnw : w.heap.size ≠ sb := by have h1 := HSB.out.2.2.2; have h2 := hW2.out; omega
        have u0 := HK.out.cq V0.out hnw
        have KB := Keep.al wo (.cells #[.int .i64 (eAt ks (j + 1)).op, .int .i64 (eAt ks (j + 1)).num, .slice aj nj cj] 58)
        have RKB := rowOf wo #[.int .i64 (eAt ks (j + 1)).op, .int .i64 (eAt ks (j + 1)).num, .slice aj nj cj] 58
        have Qk := Lib.hid ((rk.ext KX hns).k KB)
        have Qd := Lib.hid ((qd.out.ext KX hns).k KB)
        have Qv := Lib.hid ((qv.out.ext KX hns).k KB)
        have LX := Lib.hid (LO.out.k KB)
        have RX := row_ext RSJ.out KB (fun h => h)
        obtain ⟨fj, hfj⟩ : ∃ f, (cAt (kidsF ds 7 num) j).length = f := ⟨_, rfl⟩
        have HFJ := Lib.hid hfj
        have hf3 : fj ≤ 3 := by rw [← hfj]; exact HFL.out j
        have TYJ := Lib.hid (TY3.out j hjk)
        have hn2 := HTW.out j hjk
        have HL2 : Hid ((vars ++ cAt (kidsF ds 7 num) j).length = env.length + fj) := by show _ = _; rw [List.length_append, hfj, hlen]
        have HL3 : Hid (env.length + fj + 4 * nE (eAt ks (j + 1)) ≤ 4000) := by show _ ≤ _; omega
        have HL4 : Hid (n + s1.length + fj + 4 * nE (eAt ks (j + 1)) ≤ 4000) := by show _ ≤ _; omega
        obtain ⟨rb, hr⟩ : ∃ s, (lowE ds (eAt ks (j + 1)) (env ++ numsL (n + s1.length) fj) (n + s1.length + fj)).2 = s := ⟨_, rfl⟩
        obtain ⟨sk, hsk⟩ : ∃ s, (lowE ds (eAt ks (j + 1)) (env ++ numsL (n + s1.length) fj) (n + s1.length + fj)).1 = s := ⟨_, rfl⟩
        have HR := Lib.hid hr
        have HSK := Lib.hid hsk
        have u0b := KB.cq u0 (fun h => h)
        have sX : (wo.alloc (.cells #[.int .i64 (eAt ks (j + 1)).op, .int .i64 (eAt ks (j + 1)).num, .slice aj nj cj] 58)).heap.size = wo.heap.size + 1 := by simp
        have KB' := Lib.hid KB
        have HFM : Hid ((0 : Int) = (fj : Int)) := by
          show _ = _
          have h2 := HFJ.out
          rw [kidsF, if_neg (by decide)] at h2
          rcases j with _ | _ | j <;> simp [cAt] at h2 <;> omega
        clear hfj rk KX hr hsk hn2 hns KB hll hlk eo u0
        go_wp2_with fail
        obtain ⟨kb, hkb⟩ : ∃ g, g = wo.heap.size := ⟨_, rfl⟩
        have HKB := Lib.hid hkb
        rw [← hkb] at RKB
        rw [← hkb]
        obtain ⟨wx, hwx⟩ : ∃ y : World, y = wo.alloc (.cells #[.int .i64 (eAt ks (j + 1)).op, .int .i64 (eAt ks (j + 1)).num, .slice aj nj cj] 58) := ⟨_, rfl⟩
        rw [← hwx] at RKB RX Qk Qd Qv LX KB'
        rw [← hwx]
        clear hwx hkb u0b
        have k0 : wx.cell? ⟨kb, 0, none⟩ = some (.int .i64 (eAt ks (j + 1)).op) := RKB.cell (i := 0) (by simp)
        have k1 : wx.cell? ⟨kb, 1, none⟩ = some (.int .i64 (eAt ks (j + 1)).num) := RKB.cell (i := 1) (by simp)
        have k2 : wx.cell? ⟨kb, 2, none⟩ = some (.slice aj nj cj) := RKB.cell (i := 2) (by simp)
        have z4 : wx.cell? ⟨sb, 4, none⟩ = some ov := RX.cell (i := 4) (by omega)
        have RX := Lib.hid RX
        have HAX := Lib.hid (HA.out.keep KB'.out)
        have hwx := KB'.out.size
        have hkw : kb < wx.heap.size := RKB.lt
        have hno : ∀ k, k < w2.heap.size → ¬ ov.ownBlock = some k := fun k hk e => by have := (HA.out.bound k e).1; omega
        have HNO := Lib.hid hno
        have hob := Lib.hid (fun k hk => (HA.out.bound k hk).2)
        clear RKB d0 d1 d2 hno
        refine wp_region_held_drew (S := fun w' => w'.cell? ⟨kb, 0, none⟩ = some (.int .i64 (eAt ks (j + 1)).op) ∧ w'.cell? ⟨kb, 1, none⟩ = some (.int .i64 (eAt ks (j + 1)).num) ∧ w'.cell? ⟨kb, 2, none⟩ = some (.slice aj nj cj)) (by kernel_rfl) ⟨k0, k1, k2⟩ (fun hHeld => ?_)
        refine wT 0 hHeld ?_
        try go_frame
        refine wT 2 hHeld ?_
        try go_frame
        refine wT 3 hHeld ?_
        try go_frame
        refine wT 4 hHeld ?_
        try go_frame
        refine wT 5 hHeld ?_
        try go_frame
        refine wpAnyH_ready (rs := [1, 6]) (by kernel_rfl) (by simp) ?_
        refine allReadyH_consL rfl (by rfl) (fun K hK => ?_) (allReadyH_consL rfl (by rfl) (fun K hK => ?_) (AllReadyH.nil))
        go_simp
        refine hK.out _ _ ⟨k0, k1, k2⟩ (fun hHeld => ?_)
        clear hK K
        try go_frame
        refine wO 6 (fun K hK => ?_)
        go_simp
        go_at_call 108
        refine (IB.out (j + 1) hjk (vars ++ cAt (kidsF ds 7 num) j) env (n + s1.length) fj N1 0 q base D2 v1 (rows ++ rowsS s1) _ _ _ _ _ _ _ _ _ wx.drew (LX.out.k (Ext.refl (fun _ => False) wx).drew) HN1.out HFM.out hf3 Qd.out.kd.t Qv.out.kd.t Qk.out.kd.t TYJ.out HL2.out HL3.out HL4.out).mono ?_
        rw [HR.out, HSK.out]
        rintro e Y1 ⟨abk, nbk, cbk, rfl, ob, kY1⟩
        have k0Y1 := Keep.at kY1 k0
        have k1Y1 := Keep.at kY1 k1
        have k2Y1 := Keep.at kY1 k2
        have z4Y1 := Keep.at kY1 z4
        have OBK := Lib.hid (ob.lt.mono (D' := fun k => wx.heap.size ≤ k ∧ k < Y1.heap.size) (fun k hk => hk))
        have KY := Lib.hid (Keep.dt kY1)
        have HWC : Hid (Y1.heap.size ≤ Y1.heap.size) := Nat.le_refl _
        clear ob
        refine hK.out _ _ ⟨k0Y1, k1Y1, k2Y1⟩ (fun hHeld => ?_)
        clear hK K
        try go_frame
        refine wO 7 (fun K hK => ?_)
        go_simp
        obtain ⟨Y2, hWY2⟩ : ∃ yW : World, yW = (Y1.alloc (.cells #[.slice abk nbk cbk, .int .i64 rb] 69)) := ⟨_, rfl⟩
        rw [← hWY2]
        have kY2 : Keep Y1 Y2 := by rw [hWY2]; exact Keep.al Y1 (.cells #[.slice abk nbk cbk, .int .i64 rb] 69)
        have hzY2 : Hid (Y2.heap.size = Y1.heap.size + 1) := by show _ = _; rw [hWY2]; exact World.size_alloc _ _
        have k0Y2 := kY2.cq k0Y1 (fun h => h)
        have k1Y2 := kY2.cq k1Y1 (fun h => h)
        have k2Y2 := kY2.cq k2Y1 (fun h => h)
        have z4Y2 := kY2.cq z4Y1 (fun h => h)
        have HCL : Hid (∀ j u, [(.slice abk nbk cbk : Value), .int .i64 rb][j]? = some u → Y2.cell? ⟨Y1.heap.size, j, none⟩ = some u) := by show ∀ _ _, _; rw [hWY2]; exact cells_lit Y1 _ _
        have KY2 := Lib.hid (KY.out.trans kY2)
        have OBK2 : Hid (Own Y2 (fun k => wx.heap.size ≤ k ∧ k < Y1.heap.size) (encSteps sk) (.slice abk nbk cbk)) := OBK.out.ext kY2 (fun _ _ h => h)
        replace hWY2 := Lib.hid hWY2
        refine hK.out _ _ ⟨k0Y2, k1Y2, k2Y2⟩ (fun hHeld => ?_)
        clear hK K
        try go_frame
        refine wO 8 (fun K hK => ?_)
        refine wp_of_step (ops := #[]) (by rfl) (step_addB (by rfl) (.tmp 91) (.tmp 97) (by rfl) w2.heap.size ov _ (by rfl) (HAX.out.keep KY2.out) _ 1 sk rb (.slice abk nbk cbk) _ (by rfl) HCL.out OBK2.out (fun k hk => ⟨fun h => by have h1 := (HD.out k h).2; have h2 := hk.1; omega, fun h => by have h1 := hob.out k h; have h2 := hk.1; omega⟩) (by rw [HLK.out]; omega) (by have h1 := KY2.out.size; omega) ?_)
        intro a7 n7 c7 wz hA7 x7 s7 b7
        have A7 := Lib.hid hA7
        have X7 := Lib.hid x7
        have B7 := Lib.hid b7
        clear hA7 x7 s7 b7
        have k0z := X7.out.cq k0Y2 (fun e => by have h1 := hob.out _ e; have h2 := HKB.out; change kb < _ at h1; omega)
        have k1z := X7.out.cq k1Y2 (fun e => by have h1 := hob.out _ e; have h2 := HKB.out; change kb < _ at h1; omega)
        have k2z := X7.out.cq k2Y2 (fun e => by have h1 := hob.out _ e; have h2 := HKB.out; change kb < _ at h1; omega)
        refine hK.out _ _ ⟨k0z, k1z, k2z⟩ (fun hHeld => ?_)
        clear hK K
        try go_frame
        refine wT 9 hHeld ?_
        try go_frame
        refine wO 10 (fun K hK => ?_)
        have RZ := Lib.hid (row_ext (row_ext RX.out KY2.out (fun h => h)) X7.out (HNO.out _ hsw))
        have g1 : wz.cell? ⟨sb, 4, none⟩ = some ov := RZ.out.cell (i := 4) (by omega)
        have g2 := RZ.out.frozen 4
        have hq1 : sb ≠ kb := by have := HKB.out; omega
        go_simp
        obtain ⟨wy, hWy⟩ : ∃ y : World, y = wz.setCell ⟨sb, 4, none⟩ (.slice a7 n7 c7) := ⟨_, rfl⟩
        rw [← hWy]
        have XY : Hid (Ext (fun k => k = sb) wz wy) := by show Ext _ _ _; rw [hWy]; exact (Ext.refl (fun k => k = sb) wz).setCell (p := ⟨sb, 4, none⟩) (.inr rfl) _
        have RY : Hid (wy.rowIs sb 136 5 (fun i => (#[.int .i64 7, .int .i64 num, .int .i64 0, .slice (some ⟨ab, 0, none⟩) 1 1, .slice a7 n7 c7] : Array Value).getD i undef)) := by
          show World.rowIs _ _ _ _ _
          rw [hWy]
          exact (RZ.out.set 4 _).congr (fun i hi => by rcases (show i = 0 ∨ i = 1 ∨ i = 2 ∨ i = 3 ∨ i = 4 by omega) with rfl | rfl | rfl | rfl | rfl <;> rfl)
        replace hWy := Lib.hid hWy
        have k0y := XY.out.cq k0z (fun h => hq1 h.symm)
        have k1y := XY.out.cq k1z (fun h => hq1 h.symm)
        have k2y := XY.out.cq k2z (fun h => hq1 h.symm)
        refine hK.out _ _ ⟨k0y, k1y, k2y⟩ (fun hHeld => ?_)
        clear hK K
        try go_frame
        refine wpAnyH_done (by kernel_rfl) ?_ _
        rotate_left
        go_simp
        go_at_call 108
        refine (IB.out (j + 1) hjk (vars ++ cAt (kidsF ds 7 num) j) env (n + s1.length) fj N1 0 q base D2 v1 (rows ++ rowsS s1) _ _ _ _ _ _ _ _ _ wx.drew (LX.out.k (Ext.refl (fun _ => False) wx).drew) HN1.out HFM.out hf3 Qd.out.kd.t Qv.out.kd.t Qk.out.kd.t TYJ.out HL2.out HL3.out HL4.out).mono ?_
        rw [HR.out, HSK.out]
        rintro e Y1 ⟨abk, nbk, cbk, rfl, ob, kY1⟩
        have k0Y1 := Keep.at kY1 k0
        have k1Y1 := Keep.at kY1 k1
        have k2Y1 := Keep.at kY1 k2
        have z4Y1 := Keep.at kY1 z4
        have OBK := Lib.hid (ob.lt.mono (D' := fun k => wx.heap.size ≤ k ∧ k < Y1.heap.size) (fun k hk => hk))
        have KY := Lib.hid (Keep.dt kY1)
        have HWC : Hid (Y1.heap.size ≤ Y1.heap.size) := Nat.le_refl _
        clear ob
        refine hK.out _ _ ⟨k0Y1, k1Y1, k2Y1⟩ (fun hHeld => ?_)
        clear hK K
        try go_frame
        refine wpAnyH_ready (rs := [1, 7]) (by kernel_rfl) (by simp) ?_
        refine allReadyH_consL rfl (by rfl) (fun K hK => ?_) (allReadyH_consL rfl (by rfl) (fun K hK => ?_) (AllReadyH.nil))
        go_simp
        refine hK.out _ _ ⟨k0Y1, k1Y1, k2Y1⟩ (fun hHeld => ?_)
        clear hK K
        try go_frame
        refine wO 7 (fun K hK => ?_)
        go_simp
        obtain ⟨Y2, hWY2⟩ : ∃ yW : World, yW = (Y1.alloc (.cells #[.slice abk nbk cbk, .int .i64 rb] 69)) := ⟨_, rfl⟩
        rw [← hWY2]
        have kY2 : Keep Y1 Y2 := by rw [hWY2]; exact Keep.al Y1 (.cells #[.slice abk nbk cbk, .int .i64 rb] 69)
        have hzY2 : Hid (Y2.heap.size = Y1.heap.size + 1) := by show _ = _; rw [hWY2]; exact World.size_alloc _ _
        have k0Y2 := kY2.cq k0Y1 (fun h => h)
        have k1Y2 := kY2.cq k1Y1 (fun h => h)
        have k2Y2 := kY2.cq k2Y1 (fun h => h)
        have z4Y2 := kY2.cq z4Y1 (fun h => h)
        have HCL : Hid (∀ j u, [(.slice abk nbk cbk : Value), .int .i64 rb][j]? = some u → Y2.cell? ⟨Y1.heap.size, j, none⟩ = some u) := by show ∀ _ _, _; rw [hWY2]; exact cells_lit Y1 _ _
        have KY2 := Lib.hid (KY.out.trans kY2)
        have OBK2 : Hid (Own Y2 (fun k => wx.heap.size ≤ k ∧ k < Y1.heap.size) (encSteps sk) (.slice abk nbk cbk)) := OBK.out.ext kY2 (fun _ _ h => h)
        replace hWY2 := Lib.hid hWY2
        refine hK.out _ _ ⟨k0Y2, k1Y2, k2Y2⟩ (fun hHeld => ?_)
        clear hK K
        try go_frame
        refine wO 8 (fun K hK => ?_)
        refine wp_of_step (ops := #[]) (by rfl) (step_addB (by rfl) (.tmp 91) (.tmp 97) (by rfl) w2.heap.size ov _ (by rfl) (HAX.out.keep KY2.out) _ 1 sk rb (.slice abk nbk cbk) _ (by rfl) HCL.out OBK2.out (fun k hk => ⟨fun h => by have h1 := (HD.out k h).2; have h2 := hk.1; omega, fun h => by have h1 := hob.out k h; have h2 := hk.1; omega⟩) (by rw [HLK.out]; omega) (by have h1 := KY2.out.size; omega) ?_)
        intro a7 n7 c7 wz hA7 x7 s7 b7
        have A7 := Lib.hid hA7
        have X7 := Lib.hid x7
        have B7 := Lib.hid b7
        clear hA7 x7 s7 b7
        have k0z := X7.out.cq k0Y2 (fun e => by have h1 := hob.out _ e; have h2 := HKB.out; change kb < _ at h1; omega)
        have k1z := X7.out.cq k1Y2 (fun e => by have h1 := hob.out _ e; have h2 := HKB.out; change kb < _ at h1; omega)
        have k2z := X7.out.cq k2Y2 (fun e => by have h1 := hob.out _ e; have h2 := HKB.out; change kb < _ at h1; omega)
        refine hK.out _ _ ⟨k0z, k1z, k2z⟩ (fun hHeld => ?_)
        clear hK K
        try go_frame
        refine wT 9 hHeld ?_
        try go_frame
        refine wO 10 (fun K hK => ?_)
        have RZ := Lib.hid (row_ext (row_ext RX.out KY2.out (fun h => h)) X7.out (HNO.out _ hsw))
        have g1 : wz.cell? ⟨sb, 4, none⟩ = some ov := RZ.out.cell (i := 4) (by omega)
        have g2 := RZ.out.frozen 4
        have hq1 : sb ≠ kb := by have := HKB.out; omega
        go_simp
        obtain ⟨wy, hWy⟩ : ∃ y : World, y = wz.setCell ⟨sb, 4, none⟩ (.slice a7 n7 c7) := ⟨_, rfl⟩
        rw [← hWy]
        have XY : Hid (Ext (fun k => k = sb) wz wy) := by show Ext _ _ _; rw [hWy]; exact (Ext.refl (fun k => k = sb) wz).setCell (p := ⟨sb, 4, none⟩) (.inr rfl) _
        have RY : Hid (wy.rowIs sb 136 5 (fun i => (#[.int .i64 7, .int .i64 num, .int .i64 0, .slice (some ⟨ab, 0, none⟩) 1 1, .slice a7 n7 c7] : Array Value).getD i undef)) := by
          show World.rowIs _ _ _ _ _
          rw [hWy]
          exact (RZ.out.set 4 _).congr (fun i hi => by rcases (show i = 0 ∨ i = 1 ∨ i = 2 ∨ i = 3 ∨ i = 4 by omega) with rfl | rfl | rfl | rfl | rfl <;> rfl)
        replace hWy := Lib.hid hWy
        have k0y := XY.out.cq k0z (fun h => hq1 h.symm)
        have k1y := XY.out.cq k1z (fun h => hq1 h.symm)
        have k2y := XY.out.cq k2z (fun h => hq1 h.symm)
        refine hK.out _ _ ⟨k0y, k1y, k2y⟩ (fun hHeld => ?_)
        clear hK K
        try go_frame
        refine wpAnyH_done (by kernel_rfl) ?_ _
        rotate_left
        go_simp
        obtain ⟨Y2, hWY2⟩ : ∃ yW : World, yW = (Y1.alloc (.cells #[.slice abk nbk cbk, .int .i64 rb] 69)) := ⟨_, rfl⟩
        rw [← hWY2]
        have kY2 : Keep Y1 Y2 := by rw [hWY2]; exact Keep.al Y1 (.cells #[.slice abk nbk cbk, .int .i64 rb] 69)
        have hzY2 : Hid (Y2.heap.size = Y1.heap.size + 1) := by show _ = _; rw [hWY2]; exact World.size_alloc _ _
        have k0Y2 := kY2.cq k0Y1 (fun h => h)
        have k1Y2 := kY2.cq k1Y1 (fun h => h)
        have k2Y2 := kY2.cq k2Y1 (fun h => h)
        have z4Y2 := kY2.cq z4Y1 (fun h => h)
        have HCL : Hid (∀ j u, [(.slice abk nbk cbk : Value), .int .i64 rb][j]? = some u → Y2.cell? ⟨Y1.heap.size, j, none⟩ = some u) := by show ∀ _ _, _; rw [hWY2]; exact cells_lit Y1 _ _
        have KY2 := Lib.hid (KY.out.trans kY2)
        have OBK2 : Hid (Own Y2 (fun k => wx.heap.size ≤ k ∧ k < Y1.heap.size) (encSteps sk) (.slice abk nbk cbk)) := OBK.out.ext kY2 (fun _ _ h => h)
        replace hWY2 := Lib.hid hWY2
        refine hK.out _ _ ⟨k0Y2, k1Y2, k2Y2⟩ (fun hHeld => ?_)
        clear hK K
        try go_frame
        refine wO 1 (fun K hK => ?_)
        go_simp
        refine hK.out _ _ ⟨k0Y2, k1Y2, k2Y2⟩ (fun hHeld => ?_)
        clear hK K
        try go_frame
        refine wO 8 (fun K hK => ?_)
        refine wp_of_step (ops := #[]) (by rfl) (step_addB (by rfl) (.tmp 91) (.tmp 97) (by rfl) w2.heap.size ov _ (by rfl) (HAX.out.keep KY2.out) _ 1 sk rb (.slice abk nbk cbk) _ (by rfl) HCL.out OBK2.out (fun k hk => ⟨fun h => by have h1 := (HD.out k h).2; have h2 := hk.1; omega, fun h => by have h1 := hob.out k h; have h2 := hk.1; omega⟩) (by rw [HLK.out]; omega) (by have h1 := KY2.out.size; omega) ?_)
        intro a7 n7 c7 wz hA7 x7 s7 b7
        have A7 := Lib.hid hA7
        have X7 := Lib.hid x7
        have B7 := Lib.hid b7
        clear hA7 x7 s7 b7
        have k0z := X7.out.cq k0Y2 (fun e => by have h1 := hob.out _ e; have h2 := HKB.out; change kb < _ at h1; omega)
        have k1z := X7.out.cq k1Y2 (fun e => by have h1 := hob.out _ e; have h2 := HKB.out; change kb < _ at h1; omega)
        have k2z := X7.out.cq k2Y2 (fun e => by have h1 := hob.out _ e; have h2 := HKB.out; change kb < _ at h1; omega)
        refine hK.out _ _ ⟨k0z, k1z, k2z⟩ (fun hHeld => ?_)
        clear hK K
        try go_frame
        refine wT 9 hHeld ?_
        try go_frame
        refine wO 10 (fun K hK => ?_)
        have RZ := Lib.hid (row_ext (row_ext RX.out KY2.out (fun h => h)) X7.out (HNO.out _ hsw))
        have g1 : wz.cell? ⟨sb, 4, none⟩ = some ov := RZ.out.cell (i := 4) (by omega)
        have g2 := RZ.out.frozen 4
        have hq1 : sb ≠ kb := by have := HKB.out; omega
        go_simp
        obtain ⟨wy, hWy⟩ : ∃ y : World, y = wz.setCell ⟨sb, 4, none⟩ (.slice a7 n7 c7) := ⟨_, rfl⟩
        rw [← hWy]
        have XY : Hid (Ext (fun k => k = sb) wz wy) := by show Ext _ _ _; rw [hWy]; exact (Ext.refl (fun k => k = sb) wz).setCell (p := ⟨sb, 4, none⟩) (.inr rfl) _
        have RY : Hid (wy.rowIs sb 136 5 (fun i => (#[.int .i64 7, .int .i64 num, .int .i64 0, .slice (some ⟨ab, 0, none⟩) 1 1, .slice a7 n7 c7] : Array Value).getD i undef)) := by
          show World.rowIs _ _ _ _ _
          rw [hWy]
          exact (RZ.out.set 4 _).congr (fun i hi => by rcases (show i = 0 ∨ i = 1 ∨ i = 2 ∨ i = 3 ∨ i = 4 by omega) with rfl | rfl | rfl | rfl | rfl <;> rfl)
        replace hWy := Lib.hid hWy
        have k0y := XY.out.cq k0z (fun h => hq1 h.symm)
        have k1y := XY.out.cq k1z (fun h => hq1 h.symm)
        have k2y := XY.out.cq k2z (fun h => hq1 h.symm)
        refine hK.out _ _ ⟨k0y, k1y, k2y⟩ (fun hHeld => ?_)
        clear hK K
        try go_frame
        refine wpAnyH_done (by kernel_rfl) ?_ _
        rotate_left
        all_goals
          have KR := Lib.hid ((((HK.out.trans (Keep.to KB'.out)).trans (Keep.to KY2.out)).then_ X7.out (fun i hi h => absurd h (HNO.out i hi))).trans XY.out)
          have hx7 := X7.out.size
          have hk2 := KY2.out.size
          go_wp2
          go_roundw
          case rel => exact ⟨j + 1, _, .slice a7 n7 c7, by omega, by go_num, RY.out, (by
            show Acc _ _ _ _ _ _ _
            rw [HLA.out, rowsB_map, List.map_append, ← rowsB_map, List.map_singleton, kidB, HFJ.out, eAt_drop1, HSK.out, HR.out]
            refine A7.out.extO XY.out (fun k hk hd e => ?_) (fun k hk e => ?_)
            · rcases hd with hd | hd
              · have := (HD.out k hd).1; omega
              · have := hd.1.1; omega
            · rcases B7.out k hk with h | h
              · exact HNO.out k (by omega) h
              · omega), (fun k hk => by
            have h1 := XY.out.size
            rcases hk with hk | hk
            · have := HD.out k hk; omega
            · have h2 := hk.1; have h3 := hk.2; omega), KR.out⟩
          case measure => simp [intOf]; omega
      · have hjm : j + 1 = m := by omega
        have HTK : Hid ((lowK ds (ks.drop 1) (kidsF ds 7 num) env (n + s1.length)).take j = lowK ds (ks.drop 1) (kidsF ds 7 num) env (n + s1.length)) := by show _ = _; rw [List.take_of_length_le (by rw [hll]; have := HM.out; omega)]
        rw [HTK.out] at HA HLK
        obtain ⟨aO, cO, e9, hcO, hoO⟩ := HA.out.own (by omega) (by rw [HLK.out]; omega)
        rw [HLK.out] at e9
        subst e9
        have OB : Hid (Own wo (fun k => w2.heap.size ≤ k ∧ k < wo.heap.size) (encBlocks (lowK ds (ks.drop 1) (kidsF ds 7 num) env (n + s1.length))) (.slice aO j cO)) := hoO.lt.mono (D' := fun k => w2.heap.size ≤ k ∧ k < wo.heap.size) (fun k hk => ⟨by rcases hk.1 with h | h; exact (HD.out k h).1; exact h, hk.2⟩)
        have OA3 := Lib.hid (OA2.out.ext HK.out (fun k hk h => HNE.out (by rw [← h, hk])))
        have HTT := Lib.hid (T2.out.aside HK.out (fun k hk => by have := HSB.out.2.2.2; omega))
        have s0 : wo.cell? ⟨sb, 0, none⟩ = some (.int .i64 7) := RSJ.out.cell (i := 0) (by omega)
        have s1' : wo.cell? ⟨sb, 1, none⟩ = some (.int .i64 num) := RSJ.out.cell (i := 1) (by omega)
        have s2 : wo.cell? ⟨sb, 2, none⟩ = some (.int .i64 0) := RSJ.out.cell (i := 2) (by omega)
        have s3 : wo.cell? ⟨sb, 3, none⟩ = some (.slice (some ⟨ab, 0, none⟩) 1 1) := RSJ.out.cell (i := 3) (by omega)
        have s4 : wo.cell? ⟨sb, 4, none⟩ = some (.slice aO j cO) := RSJ.out.cell (i := 4) (by omega)
        have HEA : Hid (∀ k, (k = ab) ∨ (w2.heap.size ≤ k ∧ k < wo.heap.size) → ¬ D2 k ∧ k ≠ q ∧ v1.ownBlock ≠ some k) := by
          intro k hk
          rcases hk with rfl | hk
          · exact ⟨HAB.out.1, HAB.out.2.2.1, HAB.out.2.1⟩
          · exact ⟨fun h => by have := L2.out.lt k h; omega, fun h => by have := L2.out.qlt; omega, fun h => by have := L2.out.own k h; omega⟩
        have hab2 : ab < w2.heap.size := by
          have h0 := OA2.out.lt
          cases h0 with
          | arr D E s rows b c T N f hD => exact hD.2
        have HDA : Hid (∀ k, k = ab → ¬ (w2.heap.size ≤ k ∧ k < wo.heap.size)) := fun k h1 h2 => by omega
        have HRL : Hid ((rows ++ rowsS s1).length ≤ 100000) := by show _ ≤ _; rw [List.length_append, rowsS_map, List.length_map]; omega
        have hnz : 0 ≤ N1 := by have := HN1.out; omega
        have hny : N1 ≤ 100000 := by have := HN1.out; omega
        clear hoO hll hlk
        go_wp2_with fail
        have C := implAdd base q (.slice a0 n0 c0) v1 N1 D2 (rows ++ rowsS s1) 7 num 0 [y1] (lowK ds (ks.drop 1) (kidsF ds 7 num) env (n + s1.length)) (some ⟨ab, 0, none⟩) 1 1 aO j cO (fun k => k = ab) (fun k => w2.heap.size ≤ k ∧ k < wo.heap.size) wo LO.out OA3.out OB.out HEA.out HDA.out HRL.out hnz hny
        refine C.mono ?_
        clear C
        rintro e w5 ⟨rfl, v5, D5, L5, S5, X5, B5⟩
        have L5' := Lib.hid L5
        have T5 := Lib.hid (HTT.out.add (Ext.refl _ _) X5 S5 (fun k hk => by
          change k = ab ∨ (w2.heap.size ≤ k ∧ k < wo.heap.size) at hk
          have h1 := HAB.out.2.2.2
          rcases hk with rfl | hk <;> omega) B5)
        clear L5 S5 X5 B5
        go_wp2_with fail
        refine fin_ hQ ⟨v5, D5, ret_i HN1.out, ?_, (LowTo.keep KW.out).trans T5.out⟩
        refine lowSt_cast L5'.out (by rw [HN1.out, List.length_append, List.length_singleton]; rfl) (by rw [rowsS_app, rowsS_one, List.append_assoc])
end
end Go.Proofs.YtkapldpmjkdmcaaGreat
/- build of the program: choices by a value. -/
namespace Go.Proofs.YtkapldpmjkdmcaaGreat
open Go.RowKit

section
variable (ds : List DeclL) (sg : List SigL) (hok : sigsOk ds sg = true)
include hok
set_option maxRecDepth 100000 in
set_option maxHeartbeats 4000000 in
theorem implLow_8 (num : Int) (ks : List ExprL) (IH0 : ∀ j, j < ks.length → LwI ds sg (eAt ks j)) : LwI ds sg (.mk 8 num ks) := by
  intro vars env n N q base D D1 v rows a0 n0 c0 av nv cv a m c w hL hN r0 rv re hAs hty hlen hB1 hB2 hB3
  refine calls_k fun Q hQ => ?_
  change Rd w D1 (encExprs ks) _ at re
  simp only [ExprL.op, ExprL.num]
  rw [nE] at hB1 hB2 hB3
  have K0 := Keep.al w (.cells #[.int .i64 8, .int .i64 num, .slice a m c] 58)
  have R1 := rowOf w #[.int .i64 8, .int .i64 num, .slice a m c] 58
  have hq := hL.qlt
  have hv := hL.own
  have HE : Hid (∀ k, AsideI D1 w k → k ≠ q ∧ v.ownBlock ≠ some k) := by
    intro k hk
    rcases hk with hk | rfl
    · exact hAs k hk.1
    · exact ⟨by omega, fun e => by have := hv _ e; omega⟩
  have rd0 := Lib.hid (((r0.lt).mono (D' := AsideI D1 w) (fun k hk => .inl hk)).k K0)
  have rdv := Lib.hid (((rv.lt).mono (D' := AsideI D1 w) (fun k hk => .inl hk)).k K0)
  have rde := Lib.hid (((re.lt).mono (D' := AsideI D1 w) (fun k hk => .inl hk)).k K0)
  have LW := Lib.hid (hL.k K0)
  have KW := Lib.hid K0
  have sW : ((w.alloc (.cells #[.int .i64 8, .int .i64 num, .slice a m c] 58))).heap.size = w.heap.size + 1 := by simp
  have HDL := Lib.hid hL.lt
  clear hAs hL r0 rv re
  obtain ⟨t1, t2, t3⟩ := ty_choice (.inr rfl) hty
  have t4 := ty_choice2 (.inr rfl) hty
  have hDlt : ∀ k, D k → k < w.heap.size := HDL.out
  have hf := Few.of_ok (sigsOk_parts hok).1
  have HF := Lib.hid hf
  have HFL := Lib.hid (kidsF_le (ds := ds) hok 8 num)
  have TY2 := Lib.hid t2
  have TY3 := Lib.hid t3
  have HKL := Lib.hid t1
  have IH := Lib.hid IH0
  have IB := Lib.hid (fun (j : Nat) (hj : j < ks.length) => implKid_of ds sg _ (IH0 j hj))
  have HTW := Lib.hid (fun (j : Nat) (hj : j + 1 < ks.length) => nE_two0 ks hj)
  have hq0 := nE_le ks (j := 0) (by omega)
  have VL := Lib.hid (lowE_choice (num := num) (ks := ks) ds env n (op := 8) (.inr rfl) (by omega))
  rw [VL.out] at hQ
  obtain ⟨s1, hs1⟩ : ∃ s, (lowE ds (eAt ks 0) env n).1 = s := ⟨_, rfl⟩
  obtain ⟨y1, hy1⟩ : ∃ s, (lowE ds (eAt ks 0) env n).2 = s := ⟨_, rfl⟩
  have hsl : s1.length ≤ nE (eAt ks 0) := by rw [← hs1]; exact lowE_len ds _ _ _
  rw [hs1, hy1] at hQ
  have HS1 := Lib.hid hs1
  have HY1 := Lib.hid hy1
  obtain ⟨N1, hN1⟩ : ∃ N1 : Int, N1 = ((n + s1.length : Nat) : Int) := ⟨_, rfl⟩
  have HN1 := Lib.hid hN1
  obtain ⟨e1, hnc, hnm, hat⟩ := exprs_at rde.out
  have HAT := Lib.hid hat
  have HM := Lib.hid e1
  obtain ⟨b, o, rfl, hb0, ak, nk, ck, d0, d1, d2, rk⟩ := hat 0 (by omega)
  simp only [Nat.zero_mul, Nat.add_zero] at d0 d1 d2
  have HN := Lib.hid hN
  have enl : env.length ≤ 4000 := by omega
  have hm1 : 2 ≤ m := by omega
  have hc2 : ¬ c = 1 := by omega
  have hm2 : (0 : Int) < (m : Int) := by omega
  have hm3 : 0 < m := by omega
  have u0 : ((w.alloc (.cells #[.int .i64 8, .int .i64 num, .slice (some ⟨b, o, none⟩) m c] 58))).cell? ⟨w.heap.size, 0, none⟩ = some (.int .i64 8) := R1.cell (i := 0) (by simp)
  have u1 : ((w.alloc (.cells #[.int .i64 8, .int .i64 num, .slice (some ⟨b, o, none⟩) m c] 58))).cell? ⟨w.heap.size, 1, none⟩ = some (.int .i64 num) := R1.cell (i := 1) (by simp)
  have u2 : ((w.alloc (.cells #[.int .i64 8, .int .i64 num, .slice (some ⟨b, o, none⟩) m c] 58))).cell? ⟨w.heap.size, 2, none⟩ = some (.slice (some ⟨b, o, none⟩) m c) := R1.cell (i := 2) (by simp)
  have RK := Lib.hid rk
  have hv5 : env.length = nv := (ints_at rdv.out).1
  clear hat VL hs1 hy1 t1 t2 t3 t4 IH0 hty rk R1 hN K0 e1 hf hN1 HDL
  go_enter Tryz.func53, Tryz.ntmps53
  go_upto_region 9 with fail
  have hW2 := Lib.hid sW
  generalize hW : (w.alloc (.cells #[.int .i64 8, .int .i64 num, .slice (some ⟨b, o, none⟩) m c] 58)) = W at *
  clear hW sW
  have hbW : b < W.heap.size := by rcases hb0 with h | h <;> (have := hW2.out; omega)
  go_wp2_with fail
  refine wp_region_held_drew (S := fun w' => w'.cell? ⟨w.heap.size, 0, none⟩ = some (.int .i64 8) ∧ w'.cell? ⟨w.heap.size, 1, none⟩ = some (.int .i64 num) ∧ w'.cell? ⟨w.heap.size, 2, none⟩ = some (.slice (some ⟨b, o, none⟩) m c) ∧ w'.cell? ⟨b, o, none⟩ = some (.int .i64 (eAt ks 0).op) ∧ w'.cell? ⟨b, o + 1, none⟩ = some (.int .i64 (eAt ks 0).num) ∧ w'.cell? ⟨b, o + 2, none⟩ = some (.slice ak nk ck)) (by kernel_rfl) ⟨u0, u1, u2, d0, d1, d2⟩ (fun hHeld => ?_)
  refine wT 0 hHeld ?_
  try go_frame
  refine wT 1 hHeld ?_
  try go_frame
  refine wT 2 hHeld ?_
  try go_frame
  refine wT 3 hHeld ?_
  try go_frame
  refine wT 4 hHeld ?_
  try go_frame
  refine wT 5 hHeld ?_
  try go_frame
  refine wT 6 hHeld ?_
  try go_frame
  refine wT 7 hHeld ?_
  try go_frame
  refine wT 8 hHeld ?_
  try go_frame
  refine wT 9 hHeld ?_
  try go_frame
  refine wpAnyH_ready (rs := [10, 13]) (by kernel_rfl) (by simp) ?_
  refine allReadyH_consL rfl (by rfl) (fun K hK => ?_) (allReadyH_consL rfl (by rfl) (fun K hK => ?_) (AllReadyH.nil))
  go_simp
  go_at_call 53
  refine (IH.out 0 (by have := HM.out; omega) vars env n N q base D (AsideI D1 w) v rows _ _ _ _ _ _ _ _ _ W.drew (LW.out.k (Ext.refl (fun _ => False) W).drew) HN.out (rd0.out.k (Ext.refl (fun _ => False) W).drew) (rdv.out.k (Ext.refl (fun _ => False) W).drew) (RK.out.k (Ext.refl (fun _ => False) W).drew) HE.out TY2.out hlen (by omega) (by omega) (by omega)).mono ?_
  rw [HS1.out, HY1.out]
  rintro e w5 ⟨v1, D2, rfl, L5, T5⟩
  have L5' : Hid (LowSt w5 base q 91 #[.slice a0 n0 c0, .int .i64 N1, v1] D2 v1 (rows ++ rowsS s1)) := by show LowSt _ _ _ _ _ _ _ _; rw [HN1.out]; exact L5
  have T5' := Lib.hid (LowTo.pre (Ext.refl (fun _ => False) W).drew T5)
  have HZ5 : Hid (W.heap.size ≤ w5.heap.size) := T5'.out.ext.size
  have u0w := at_low T5'.out HE.out u0 (.inr rfl)
  have u1w := at_low T5'.out HE.out u1 (.inr rfl)
  have u2w := at_low T5'.out HE.out u2 (.inr rfl)
  have d0w := at_low T5'.out HE.out d0 hb0
  have d1w := at_low T5'.out HE.out d1 hb0
  have d2w := at_low T5'.out HE.out d2 hb0
  clear L5 T5
  refine hK.out _ _ ⟨u0w, u1w, u2w, d0w, d1w, d2w⟩ (fun hHeld => ?_)
  clear hK K
  try go_frame
  refine wpAnyH_ready (rs := [11, 13]) (by kernel_rfl) (by simp) ?_
  refine allReadyH_consL rfl (by rfl) (fun K hK => ?_) (allReadyH_consL rfl (by rfl) (fun K hK => ?_) (AllReadyH.nil))
  go_simp
  obtain ⟨Y1, hWY1⟩ : ∃ yW : World, yW = (w5.alloc (.cells #[.int .i64 y1] 3)) := ⟨_, rfl⟩
  rw [← hWY1]
  have kY1 : Keep w5 Y1 := by rw [hWY1]; exact Keep.al w5 (.cells #[.int .i64 y1] 3)
  have hzY1 : Hid (Y1.heap.size = w5.heap.size + 1) := by show _ = _; rw [hWY1]; exact World.size_alloc _ _
  have u0Y1 := kY1.cq u0w (fun h => h)
  have u1Y1 := kY1.cq u1w (fun h => h)
  have u2Y1 := kY1.cq u2w (fun h => h)
  have d0Y1 := kY1.cq d0w (fun h => h)
  have d1Y1 := kY1.cq d1w (fun h => h)
  have d2Y1 := kY1.cq d2w (fun h => h)
  have OAY1 : Hid (Own Y1 (fun k => k = w5.heap.size) (encInts [y1]) (.slice (some ⟨w5.heap.size, 0, none⟩) 1 1)) := by show Own _ _ _ _; rw [hWY1]; exact ownLit1 w5 y1
  replace hWY1 := Lib.hid hWY1
  have LY1 := Lib.hid (L5'.out.k kY1)
  have TY1 := Lib.hid (T5'.out.post kY1)
  have hgHAB5 : w5.heap.size ≤ w5.heap.size := Nat.le_refl _
  have HAB5 : Hid (¬ D2 w5.heap.size ∧ v1.ownBlock ≠ some w5.heap.size ∧ w5.heap.size ≠ q ∧ W.heap.size ≤ w5.heap.size) := ⟨fun h => by have := L5'.out.lt _ h; have := hgHAB5; omega, fun h => by have := (L5'.out.own _ h).2; have := hgHAB5; omega, by have := L5'.out.qlt; have := hgHAB5; omega, by have := HZ5.out; have := hgHAB5; omega⟩
  refine hK.out _ _ ⟨u0Y1, u1Y1, u2Y1, d0Y1, d1Y1, d2Y1⟩ (fun hHeld => ?_)
  clear hK K
  try go_frame
  refine wT 12 hHeld ?_
  try go_frame
  refine wO 13 (fun K hK => ?_)
  go_simp
  obtain ⟨Y2, hWY2⟩ : ∃ yW : World, yW = (Y1.alloc (.cells #[.int .i64 0, .int .i64 0, .int .i64 0, .slice none 0 0, .slice none 0 0] 136)) := ⟨_, rfl⟩
  rw [← hWY2]
  have kY2 : Keep Y1 Y2 := by rw [hWY2]; exact Keep.al Y1 (.cells #[.int .i64 0, .int .i64 0, .int .i64 0, .slice none 0 0, .slice none 0 0] 136)
  have hzY2 : Hid (Y2.heap.size = Y1.heap.size + 1) := by show _ = _; rw [hWY2]; exact World.size_alloc _ _
  have u0Y2 := kY2.cq u0Y1 (fun h => h)
  have u1Y2 := kY2.cq u1Y1 (fun h => h)
  have u2Y2 := kY2.cq u2Y1 (fun h => h)
  have d0Y2 := kY2.cq d0Y1 (fun h => h)
  have d1Y2 := kY2.cq d1Y1 (fun h => h)
  have d2Y2 := kY2.cq d2Y1 (fun h => h)
  have RBY2 : Hid (Y2.rowIs Y1.heap.size 136 5 (fun i => (#[.int .i64 0, .int .i64 0, .int .i64 0, .slice none 0 0, .slice none 0 0] : Array Value).getD i undef)) := by show World.rowIs _ _ _ _ _; rw [hWY2]; exact rowOf Y1 #[.int .i64 0, .int .i64 0, .int .i64 0, .slice none 0 0, .slice none 0 0] 136
  replace hWY2 := Lib.hid hWY2
  have LY2 := Lib.hid (LY1.out.k kY2)
  have TY2 := Lib.hid (TY1.out.post kY2)
  have OAY2 := Lib.hid (OAY1.out.ext kY2 (fun _ _ h => h))
  have hgHSB5 : w5.heap.size ≤ Y1.heap.size := kY1.size
  have HSB5 : Hid (¬ D2 Y1.heap.size ∧ v1.ownBlock ≠ some Y1.heap.size ∧ Y1.heap.size ≠ q ∧ W.heap.size ≤ Y1.heap.size) := ⟨fun h => by have := L5'.out.lt _ h; have := hgHSB5; omega, fun h => by have := (L5'.out.own _ h).2; have := hgHSB5; omega, by have := L5'.out.qlt; have := hgHSB5; omega, by have := HZ5.out; have := hgHSB5; omega⟩
  refine hK.out _ _ ⟨u0Y2, u1Y2, u2Y2, d0Y2, d1Y2, d2Y2⟩ (fun hHeld => ?_)
  clear hK K
  try go_frame
  refine wO 14 (fun K hK => ?_)
  obtain ⟨sb, hsb⟩ : ∃ g, g = Y1.heap.size := ⟨_, rfl⟩
  obtain ⟨ab, hab⟩ : ∃ g, g = w5.heap.size := ⟨_, rfl⟩
  have RS0 : Hid (Y2.rowIs sb 136 5 (fun i => (#[.int .i64 0, .int .i64 0, .int .i64 0, .slice none 0 0, .slice none 0 0] : Array Value).getD i undef)) := by show World.rowIs _ _ _ _ _; rw [hsb]; exact RBY2.out
  have HSB : Hid (¬ D2 sb ∧ v1.ownBlock ≠ some sb ∧ sb ≠ q ∧ W.heap.size ≤ sb) := by show _ ∧ _; rw [hsb]; exact HSB5.out
  have HAB : Hid (¬ D2 ab ∧ v1.ownBlock ≠ some ab ∧ ab ≠ q ∧ W.heap.size ≤ ab) := by show _ ∧ _; rw [hab]; exact HAB5.out
  have HNE : Hid (sb ≠ ab) := by show _ ≠ _; rw [hsb, hab]; have h1 := hzY1.out; omega
  have OAX : Hid (Own Y2 (fun k => k = ab) (encInts [y1]) (.slice (some ⟨ab, 0, none⟩) 1 1)) := by show Own _ _ _ _; rw [hab]; exact OAY2.out
  rw [← hsb, ← hab]
  clear hsb hab
  have v0 : Y2.cell? ⟨sb, 0, none⟩ = some (.int .i64 0) := RS0.out.cell (i := 0) (by omega)
  have v1' : Y2.cell? ⟨sb, 1, none⟩ = some (.int .i64 0) := RS0.out.cell (i := 1) (by omega)
  have v2 : Y2.cell? ⟨sb, 2, none⟩ = some (.int .i64 0) := RS0.out.cell (i := 2) (by omega)
  have v3 : Y2.cell? ⟨sb, 3, none⟩ = some (.slice none 0 0) := RS0.out.cell (i := 3) (by omega)
  have v4 : Y2.cell? ⟨sb, 4, none⟩ = some (.slice none 0 0) := RS0.out.cell (i := 4) (by omega)
  have f0 := RS0.out.frozen 0
  have f1 := RS0.out.frozen 1
  have f2 := RS0.out.frozen 2
  have f3 := RS0.out.frozen 3
  have f4 := RS0.out.frozen 4
  go_simp
  obtain ⟨wi, hWi⟩ : ∃ yW : World, yW = ((((Y2.setCell ⟨sb, 0, none⟩ (.int .i64 8)).setCell ⟨sb, 1, none⟩ (.int .i64 num)).setCell ⟨sb, 2, none⟩ (.int .i64 0)).setCell ⟨sb, 3, none⟩ (.slice (some ⟨ab, 0, none⟩) 1 1)).setCell ⟨sb, 4, none⟩ (.slice none 0 0) := ⟨_, rfl⟩
  rw [← hWi]
  have XI : Hid (Ext (fun k => k = sb) Y2 wi) := by show Ext _ _ _; rw [hWi]; exact (((((Ext.refl (fun k => k = sb) Y2).setCell (p := ⟨sb, 0, none⟩) (.inr rfl) _).setCell (p := ⟨sb, 1, none⟩) (.inr rfl) _).setCell (p := ⟨sb, 2, none⟩) (.inr rfl) _).setCell (p := ⟨sb, 3, none⟩) (.inr rfl) _).setCell (p := ⟨sb, 4, none⟩) (.inr rfl) _
  have RS : Hid (wi.rowIs sb 136 5 (fun i => (#[.int .i64 8, .int .i64 num, .int .i64 0, .slice (some ⟨ab, 0, none⟩) 1 1, .slice none 0 0] : Array Value).getD i undef)) := by
    show World.rowIs _ _ _ _ _
    rw [hWi]
    exact (((((RS0.out.set 0 _).set 1 _).set 2 _).set 3 _).set 4 _).congr (fun i hi => by rcases (show i = 0 ∨ i = 1 ∨ i = 2 ∨ i = 3 ∨ i = 4 by omega) with rfl | rfl | rfl | rfl | rfl <;> rfl)
  have LF := Lib.hid (LY2.out.ext XI.out (fun h => HSB.out.2.2.1 h.symm) (fun k hk h => HSB.out.1 (h ▸ hk)) (fun k hk h => HSB.out.2.1 (h ▸ hk)))
  have TF := Lib.hid (TY2.out.aside XI.out (fun k hk => by have := HSB.out.2.2.2; omega))
  have OA := Lib.hid (OAX.out.ext XI.out (fun k hk h => HNE.out (by rw [← h, hk])))
  clear hWi v0 v1' v2 v3 v4 f0 f1 f2 f3 f4 RS0 OAX
  have u0i := XI.out.cq u0Y2 (fun h => by have h1 := HSB.out.2.2.2; have h2 := hW2.out; change w.heap.size = sb at h; omega)
  have u1i := XI.out.cq u1Y2 (fun h => by have h1 := HSB.out.2.2.2; have h2 := hW2.out; change w.heap.size = sb at h; omega)
  have u2i := XI.out.cq u2Y2 (fun h => by have h1 := HSB.out.2.2.2; have h2 := hW2.out; change w.heap.size = sb at h; omega)
  have d0i := XI.out.cq d0Y2 (fun h => by have h1 := HSB.out.2.2.2; have h2 := hW2.out; have h3 := hbW; change b = sb at h; omega)
  have d1i := XI.out.cq d1Y2 (fun h => by have h1 := HSB.out.2.2.2; have h2 := hW2.out; have h3 := hbW; change b = sb at h; omega)
  have d2i := XI.out.cq d2Y2 (fun h => by have h1 := HSB.out.2.2.2; have h2 := hW2.out; have h3 := hbW; change b = sb at h; omega)
  refine hK.out _ _ ⟨u0i, u1i, u2i, d0i, d1i, d2i⟩ (fun hHeld => ?_)
  clear hK K
  try go_frame
  refine wpAnyH_done (by kernel_rfl) ?_ _
  rotate_left
  go_simp
  obtain ⟨Y1, hWY1⟩ : ∃ yW : World, yW = (w5.alloc (.cells #[.int .i64 0, .int .i64 0, .int .i64 0, .slice none 0 0, .slice none 0 0] 136)) := ⟨_, rfl⟩
  rw [← hWY1]
  have kY1 : Keep w5 Y1 := by rw [hWY1]; exact Keep.al w5 (.cells #[.int .i64 0, .int .i64 0, .int .i64 0, .slice none 0 0, .slice none 0 0] 136)
  have hzY1 : Hid (Y1.heap.size = w5.heap.size + 1) := by show _ = _; rw [hWY1]; exact World.size_alloc _ _
  have u0Y1 := kY1.cq u0w (fun h => h)
  have u1Y1 := kY1.cq u1w (fun h => h)
  have u2Y1 := kY1.cq u2w (fun h => h)
  have d0Y1 := kY1.cq d0w (fun h => h)
  have d1Y1 := kY1.cq d1w (fun h => h)
  have d2Y1 := kY1.cq d2w (fun h => h)
  have RBY1 : Hid (Y1.rowIs w5.heap.size 136 5 (fun i => (#[.int .i64 0, .int .i64 0, .int .i64 0, .slice none 0 0, .slice none 0 0] : Array Value).getD i undef)) := by show World.rowIs _ _ _ _ _; rw [hWY1]; exact rowOf w5 #[.int .i64 0, .int .i64 0, .int .i64 0, .slice none 0 0, .slice none 0 0] 136
  replace hWY1 := Lib.hid hWY1
  have LY1 := Lib.hid (L5'.out.k kY1)
  have TY1 := Lib.hid (T5'.out.post kY1)
  have hgHSB5 : w5.heap.size ≤ w5.heap.size := Nat.le_refl _
  have HSB5 : Hid (¬ D2 w5.heap.size ∧ v1.ownBlock ≠ some w5.heap.size ∧ w5.heap.size ≠ q ∧ W.heap.size ≤ w5.heap.size) := ⟨fun h => by have := L5'.out.lt _ h; have := hgHSB5; omega, fun h => by have := (L5'.out.own _ h).2; have := hgHSB5; omega, by have := L5'.out.qlt; have := hgHSB5; omega, by have := HZ5.out; have := hgHSB5; omega⟩
  refine hK.out _ _ ⟨u0Y1, u1Y1, u2Y1, d0Y1, d1Y1, d2Y1⟩ (fun hHeld => ?_)
  clear hK K
  try go_frame
  refine wO 11 (fun K hK => ?_)
  go_simp
  obtain ⟨Y2, hWY2⟩ : ∃ yW : World, yW = (Y1.alloc (.cells #[.int .i64 y1] 3)) := ⟨_, rfl⟩
  rw [← hWY2]
  have kY2 : Keep Y1 Y2 := by rw [hWY2]; exact Keep.al Y1 (.cells #[.int .i64 y1] 3)
  have hzY2 : Hid (Y2.heap.size = Y1.heap.size + 1) := by show _ = _; rw [hWY2]; exact World.size_alloc _ _
  have u0Y2 := kY2.cq u0Y1 (fun h => h)
  have u1Y2 := kY2.cq u1Y1 (fun h => h)
  have u2Y2 := kY2.cq u2Y1 (fun h => h)
  have d0Y2 := kY2.cq d0Y1 (fun h => h)
  have d1Y2 := kY2.cq d1Y1 (fun h => h)
  have d2Y2 := kY2.cq d2Y1 (fun h => h)
  have OAY2 : Hid (Own Y2 (fun k => k = Y1.heap.size) (encInts [y1]) (.slice (some ⟨Y1.heap.size, 0, none⟩) 1 1)) := by show Own _ _ _ _; rw [hWY2]; exact ownLit1 Y1 y1
  replace hWY2 := Lib.hid hWY2
  have LY2 := Lib.hid (LY1.out.k kY2)
  have TY2 := Lib.hid (TY1.out.post kY2)
  have RBY2 := Lib.hid (row_ext RBY1.out kY2 (fun h => h))
  have hgHAB5 : w5.heap.size ≤ Y1.heap.size := kY1.size
  have HAB5 : Hid (¬ D2 Y1.heap.size ∧ v1.ownBlock ≠ some Y1.heap.size ∧ Y1.heap.size ≠ q ∧ W.heap.size ≤ Y1.heap.size) := ⟨fun h => by have := L5'.out.lt _ h; have := hgHAB5; omega, fun h => by have := (L5'.out.own _ h).2; have := hgHAB5; omega, by have := L5'.out.qlt; have := hgHAB5; omega, by have := HZ5.out; have := hgHAB5; omega⟩
  refine hK.out _ _ ⟨u0Y2, u1Y2, u2Y2, d0Y2, d1Y2, d2Y2⟩ (fun hHeld => ?_)
  clear hK K
  try go_frame
  refine wT 12 hHeld ?_
  try go_frame
  refine wO 14 (fun K hK => ?_)
  obtain ⟨sb, hsb⟩ : ∃ g, g = w5.heap.size := ⟨_, rfl⟩
  obtain ⟨ab, hab⟩ : ∃ g, g = Y1.heap.size := ⟨_, rfl⟩
  have RS0 : Hid (Y2.rowIs sb 136 5 (fun i => (#[.int .i64 0, .int .i64 0, .int .i64 0, .slice none 0 0, .slice none 0 0] : Array Value).getD i undef)) := by show World.rowIs _ _ _ _ _; rw [hsb]; exact RBY2.out
  have HSB : Hid (¬ D2 sb ∧ v1.ownBlock ≠ some sb ∧ sb ≠ q ∧ W.heap.size ≤ sb) := by show _ ∧ _; rw [hsb]; exact HSB5.out
  have HAB : Hid (¬ D2 ab ∧ v1.ownBlock ≠ some ab ∧ ab ≠ q ∧ W.heap.size ≤ ab) := by show _ ∧ _; rw [hab]; exact HAB5.out
  have HNE : Hid (sb ≠ ab) := by show _ ≠ _; rw [hsb, hab]; have h1 := hzY1.out; omega
  have OAX : Hid (Own Y2 (fun k => k = ab) (encInts [y1]) (.slice (some ⟨ab, 0, none⟩) 1 1)) := by show Own _ _ _ _; rw [hab]; exact OAY2.out
  rw [← hsb, ← hab]
  clear hsb hab
  have v0 : Y2.cell? ⟨sb, 0, none⟩ = some (.int .i64 0) := RS0.out.cell (i := 0) (by omega)
  have v1' : Y2.cell? ⟨sb, 1, none⟩ = some (.int .i64 0) := RS0.out.cell (i := 1) (by omega)
  have v2 : Y2.cell? ⟨sb, 2, none⟩ = some (.int .i64 0) := RS0.out.cell (i := 2) (by omega)
  have v3 : Y2.cell? ⟨sb, 3, none⟩ = some (.slice none 0 0) := RS0.out.cell (i := 3) (by omega)
  have v4 : Y2.cell? ⟨sb, 4, none⟩ = some (.slice none 0 0) := RS0.out.cell (i := 4) (by omega)
  have f0 := RS0.out.frozen 0
  have f1 := RS0.out.frozen 1
  have f2 := RS0.out.frozen 2
  have f3 := RS0.out.frozen 3
  have f4 := RS0.out.frozen 4
  go_simp
  obtain ⟨wi, hWi⟩ : ∃ yW : World, yW = ((((Y2.setCell ⟨sb, 0, none⟩ (.int .i64 8)).setCell ⟨sb, 1, none⟩ (.int .i64 num)).setCell ⟨sb, 2, none⟩ (.int .i64 0)).setCell ⟨sb, 3, none⟩ (.slice (some ⟨ab, 0, none⟩) 1 1)).setCell ⟨sb, 4, none⟩ (.slice none 0 0) := ⟨_, rfl⟩
  rw [← hWi]
  have XI : Hid (Ext (fun k => k = sb) Y2 wi) := by show Ext _ _ _; rw [hWi]; exact (((((Ext.refl (fun k => k = sb) Y2).setCell (p := ⟨sb, 0, none⟩) (.inr rfl) _).setCell (p := ⟨sb, 1, none⟩) (.inr rfl) _).setCell (p := ⟨sb, 2, none⟩) (.inr rfl) _).setCell (p := ⟨sb, 3, none⟩) (.inr rfl) _).setCell (p := ⟨sb, 4, none⟩) (.inr rfl) _
  have RS : Hid (wi.rowIs sb 136 5 (fun i => (#[.int .i64 8, .int .i64 num, .int .i64 0, .slice (some ⟨ab, 0, none⟩) 1 1, .slice none 0 0] : Array Value).getD i undef)) := by
    show World.rowIs _ _ _ _ _
    rw [hWi]
    exact (((((RS0.out.set 0 _).set 1 _).set 2 _).set 3 _).set 4 _).congr (fun i hi => by rcases (show i = 0 ∨ i = 1 ∨ i = 2 ∨ i = 3 ∨ i = 4 by omega) with rfl | rfl | rfl | rfl | rfl <;> rfl)
  have LF := Lib.hid (LY2.out.ext XI.out (fun h => HSB.out.2.2.1 h.symm) (fun k hk h => HSB.out.1 (h ▸ hk)) (fun k hk h => HSB.out.2.1 (h ▸ hk)))
  have TF := Lib.hid (TY2.out.aside XI.out (fun k hk => by have := HSB.out.2.2.2; omega))
  have OA := Lib.hid (OAX.out.ext XI.out (fun k hk h => HNE.out (by rw [← h, hk])))
  clear hWi v0 v1' v2 v3 v4 f0 f1 f2 f3 f4 RS0 OAX
  have u0i := XI.out.cq u0Y2 (fun h => by have h1 := HSB.out.2.2.2; have h2 := hW2.out; change w.heap.size = sb at h; omega)
  have u1i := XI.out.cq u1Y2 (fun h => by have h1 := HSB.out.2.2.2; have h2 := hW2.out; change w.heap.size = sb at h; omega)
  have u2i := XI.out.cq u2Y2 (fun h => by have h1 := HSB.out.2.2.2; have h2 := hW2.out; change w.heap.size = sb at h; omega)
  have d0i := XI.out.cq d0Y2 (fun h => by have h1 := HSB.out.2.2.2; have h2 := hW2.out; have h3 := hbW; change b = sb at h; omega)
  have d1i := XI.out.cq d1Y2 (fun h => by have h1 := HSB.out.2.2.2; have h2 := hW2.out; have h3 := hbW; change b = sb at h; omega)
  have d2i := XI.out.cq d2Y2 (fun h => by have h1 := HSB.out.2.2.2; have h2 := hW2.out; have h3 := hbW; change b = sb at h; omega)
  refine hK.out _ _ ⟨u0i, u1i, u2i, d0i, d1i, d2i⟩ (fun hHeld => ?_)
  clear hK K
  try go_frame
  refine wpAnyH_done (by kernel_rfl) ?_ _
  rotate_left
  go_simp
  obtain ⟨Y1, hWY1⟩ : ∃ yW : World, yW = (W.alloc (.cells #[.int .i64 0, .int .i64 0, .int .i64 0, .slice none 0 0, .slice none 0 0] 136)).drew := ⟨_, rfl⟩
  rw [← hWY1]
  have kY1 : Keep W.drew Y1 := by rw [hWY1]; exact Keep.al W.drew (.cells #[.int .i64 0, .int .i64 0, .int .i64 0, .slice none 0 0, .slice none 0 0] 136)
  have hzY1 : Hid (Y1.heap.size = W.heap.size + 1) := by show _ = _; rw [hWY1]; exact World.size_alloc _ _
  have u0Y1 := Keep.at kY1 u0
  have u1Y1 := Keep.at kY1 u1
  have u2Y1 := Keep.at kY1 u2
  have d0Y1 := Keep.at kY1 d0
  have d1Y1 := Keep.at kY1 d1
  have d2Y1 := Keep.at kY1 d2
  have RBY1 : Hid (Y1.rowIs W.heap.size 136 5 (fun i => (#[.int .i64 0, .int .i64 0, .int .i64 0, .slice none 0 0, .slice none 0 0] : Array Value).getD i undef)) := by show World.rowIs _ _ _ _ _; rw [hWY1]; exact rowOf W.drew #[.int .i64 0, .int .i64 0, .int .i64 0, .slice none 0 0, .slice none 0 0] 136
  replace hWY1 := Lib.hid hWY1
  have KP0 := Lib.hid (Keep.dt kY1)
  have RB := RBY1
  refine hK.out _ _ ⟨u0Y1, u1Y1, u2Y1, d0Y1, d1Y1, d2Y1⟩ (fun hHeld => ?_)
  clear hK K
  try go_frame
  refine wO 10 (fun K hK => ?_)
  go_simp
  go_at_call 53
  refine (IH.out 0 (by have := HM.out; omega) vars env n N q base D (AsideI D1 w) v rows _ _ _ _ _ _ _ _ _ Y1 (LW.out.k KP0.out) HN.out (rd0.out.k KP0.out) (rdv.out.k KP0.out) (RK.out.k KP0.out) HE.out TY2.out hlen (by omega) (by omega) (by omega)).mono ?_
  rw [HS1.out, HY1.out]
  rintro e w5 ⟨v1, D2, rfl, L5, T5⟩
  have L5' : Hid (LowSt w5 base q 91 #[.slice a0 n0 c0, .int .i64 N1, v1] D2 v1 (rows ++ rowsS s1)) := by show LowSt _ _ _ _ _ _ _ _; rw [HN1.out]; exact L5
  have T5' := Lib.hid (LowTo.pre KP0.out T5)
  have HZ5 : Hid (W.heap.size ≤ w5.heap.size) := T5'.out.ext.size
  have u0w := at_low T5 HE.out u0Y1 (.inr rfl)
  have u1w := at_low T5 HE.out u1Y1 (.inr rfl)
  have u2w := at_low T5 HE.out u2Y1 (.inr rfl)
  have d0w := at_low T5 HE.out d0Y1 hb0
  have d1w := at_low T5 HE.out d1Y1 hb0
  have d2w := at_low T5 HE.out d2Y1 hb0
  have HSB5 : Hid (¬ D2 W.heap.size ∧ v1.ownBlock ≠ some W.heap.size ∧ W.heap.size ≠ q ∧ W.heap.size ≤ W.heap.size) := ⟨fun h => by
    rcases T5.sub _ h with h | h
    · have := hDlt _ h; have := hW2.out; omega
    · have := hzY1.out; omega, fun h => by
    rcases T5.blk _ h with h | h
    · have := (hv _ h).2; have := hW2.out; omega
    · have := hzY1.out; omega, by have := hW2.out; omega, Nat.le_refl _⟩
  have RB5 := Lib.hid (row_ext RB.out T5.ext (fun e => by
    rcases e with e | e
    · have := hW2.out; omega
    · have := (hv _ e).2; have := hW2.out; omega))
  have HZ6 : Hid (W.heap.size < w5.heap.size) := by have h1 := T5.ext.size; have h2 := hzY1.out; show _ < _; omega
  clear L5 T5
  refine hK.out _ _ ⟨u0w, u1w, u2w, d0w, d1w, d2w⟩ (fun hHeld => ?_)
  clear hK K
  try go_frame
  refine wO 11 (fun K hK => ?_)
  go_simp
  obtain ⟨Y2, hWY2⟩ : ∃ yW : World, yW = (w5.alloc (.cells #[.int .i64 y1] 3)) := ⟨_, rfl⟩
  rw [← hWY2]
  have kY2 : Keep w5 Y2 := by rw [hWY2]; exact Keep.al w5 (.cells #[.int .i64 y1] 3)
  have hzY2 : Hid (Y2.heap.size = w5.heap.size + 1) := by show _ = _; rw [hWY2]; exact World.size_alloc _ _
  have u0Y2 := kY2.cq u0w (fun h => h)
  have u1Y2 := kY2.cq u1w (fun h => h)
  have u2Y2 := kY2.cq u2w (fun h => h)
  have d0Y2 := kY2.cq d0w (fun h => h)
  have d1Y2 := kY2.cq d1w (fun h => h)
  have d2Y2 := kY2.cq d2w (fun h => h)
  have OAY2 : Hid (Own Y2 (fun k => k = w5.heap.size) (encInts [y1]) (.slice (some ⟨w5.heap.size, 0, none⟩) 1 1)) := by show Own _ _ _ _; rw [hWY2]; exact ownLit1 w5 y1
  replace hWY2 := Lib.hid hWY2
  have LY2 := Lib.hid (L5'.out.k kY2)
  have TY2 := Lib.hid (T5'.out.post kY2)
  have RBY2 := Lib.hid (row_ext RB5.out kY2 (fun h => h))
  have hgHAB5 : w5.heap.size ≤ w5.heap.size := Nat.le_refl _
  have HAB5 : Hid (¬ D2 w5.heap.size ∧ v1.ownBlock ≠ some w5.heap.size ∧ w5.heap.size ≠ q ∧ W.heap.size ≤ w5.heap.size) := ⟨fun h => by have := L5'.out.lt _ h; have := hgHAB5; omega, fun h => by have := (L5'.out.own _ h).2; have := hgHAB5; omega, by have := L5'.out.qlt; have := hgHAB5; omega, by have := HZ5.out; have := hgHAB5; omega⟩
  refine hK.out _ _ ⟨u0Y2, u1Y2, u2Y2, d0Y2, d1Y2, d2Y2⟩ (fun hHeld => ?_)
  clear hK K
  try go_frame
  refine wT 12 hHeld ?_
  try go_frame
  refine wO 14 (fun K hK => ?_)
  obtain ⟨sb, hsb⟩ : ∃ g, g = W.heap.size := ⟨_, rfl⟩
  obtain ⟨ab, hab⟩ : ∃ g, g = w5.heap.size := ⟨_, rfl⟩
  have RS0 : Hid (Y2.rowIs sb 136 5 (fun i => (#[.int .i64 0, .int .i64 0, .int .i64 0, .slice none 0 0, .slice none 0 0] : Array Value).getD i undef)) := by show World.rowIs _ _ _ _ _; rw [hsb]; exact RBY2.out
  have HSB : Hid (¬ D2 sb ∧ v1.ownBlock ≠ some sb ∧ sb ≠ q ∧ W.heap.size ≤ sb) := by show _ ∧ _; rw [hsb]; exact HSB5.out
  have HAB : Hid (¬ D2 ab ∧ v1.ownBlock ≠ some ab ∧ ab ≠ q ∧ W.heap.size ≤ ab) := by show _ ∧ _; rw [hab]; exact HAB5.out
  have HNE : Hid (sb ≠ ab) := by show _ ≠ _; rw [hsb, hab]; have h1 := HZ6.out; omega
  have OAX : Hid (Own Y2 (fun k => k = ab) (encInts [y1]) (.slice (some ⟨ab, 0, none⟩) 1 1)) := by show Own _ _ _ _; rw [hab]; exact OAY2.out
  rw [← hsb, ← hab]
  clear hsb hab
  have v0 : Y2.cell? ⟨sb, 0, none⟩ = some (.int .i64 0) := RS0.out.cell (i := 0) (by omega)
  have v1' : Y2.cell? ⟨sb, 1, none⟩ = some (.int .i64 0) := RS0.out.cell (i := 1) (by omega)
  have v2 : Y2.cell? ⟨sb, 2, none⟩ = some (.int .i64 0) := RS0.out.cell (i := 2) (by omega)
  have v3 : Y2.cell? ⟨sb, 3, none⟩ = some (.slice none 0 0) := RS0.out.cell (i := 3) (by omega)
  have v4 : Y2.cell? ⟨sb, 4, none⟩ = some (.slice none 0 0) := RS0.out.cell (i := 4) (by omega)
  have f0 := RS0.out.frozen 0
  have f1 := RS0.out.frozen 1
  have f2 := RS0.out.frozen 2
  have f3 := RS0.out.frozen 3
  have f4 := RS0.out.frozen 4
  go_simp
  obtain ⟨wi, hWi⟩ : ∃ yW : World, yW = ((((Y2.setCell ⟨sb, 0, none⟩ (.int .i64 8)).setCell ⟨sb, 1, none⟩ (.int .i64 num)).setCell ⟨sb, 2, none⟩ (.int .i64 0)).setCell ⟨sb, 3, none⟩ (.slice (some ⟨ab, 0, none⟩) 1 1)).setCell ⟨sb, 4, none⟩ (.slice none 0 0) := ⟨_, rfl⟩
  rw [← hWi]
  have XI : Hid (Ext (fun k => k = sb) Y2 wi) := by show Ext _ _ _; rw [hWi]; exact (((((Ext.refl (fun k => k = sb) Y2).setCell (p := ⟨sb, 0, none⟩) (.inr rfl) _).setCell (p := ⟨sb, 1, none⟩) (.inr rfl) _).setCell (p := ⟨sb, 2, none⟩) (.inr rfl) _).setCell (p := ⟨sb, 3, none⟩) (.inr rfl) _).setCell (p := ⟨sb, 4, none⟩) (.inr rfl) _
  have RS : Hid (wi.rowIs sb 136 5 (fun i => (#[.int .i64 8, .int .i64 num, .int .i64 0, .slice (some ⟨ab, 0, none⟩) 1 1, .slice none 0 0] : Array Value).getD i undef)) := by
    show World.rowIs _ _ _ _ _
    rw [hWi]
    exact (((((RS0.out.set 0 _).set 1 _).set 2 _).set 3 _).set 4 _).congr (fun i hi => by rcases (show i = 0 ∨ i = 1 ∨ i = 2 ∨ i = 3 ∨ i = 4 by omega) with rfl | rfl | rfl | rfl | rfl <;> rfl)
  have LF := Lib.hid (LY2.out.ext XI.out (fun h => HSB.out.2.2.1 h.symm) (fun k hk h => HSB.out.1 (h ▸ hk)) (fun k hk h => HSB.out.2.1 (h ▸ hk)))
  have TF := Lib.hid (TY2.out.aside XI.out (fun k hk => by have := HSB.out.2.2.2; omega))
  have OA := Lib.hid (OAX.out.ext XI.out (fun k hk h => HNE.out (by rw [← h, hk])))
  clear hWi v0 v1' v2 v3 v4 f0 f1 f2 f3 f4 RS0 OAX
  have u0i := XI.out.cq u0Y2 (fun h => by have h1 := HSB.out.2.2.2; have h2 := hW2.out; change w.heap.size = sb at h; omega)
  have u1i := XI.out.cq u1Y2 (fun h => by have h1 := HSB.out.2.2.2; have h2 := hW2.out; change w.heap.size = sb at h; omega)
  have u2i := XI.out.cq u2Y2 (fun h => by have h1 := HSB.out.2.2.2; have h2 := hW2.out; change w.heap.size = sb at h; omega)
  have d0i := XI.out.cq d0Y2 (fun h => by have h1 := HSB.out.2.2.2; have h2 := hW2.out; have h3 := hbW; change b = sb at h; omega)
  have d1i := XI.out.cq d1Y2 (fun h => by have h1 := HSB.out.2.2.2; have h2 := hW2.out; have h3 := hbW; change b = sb at h; omega)
  have d2i := XI.out.cq d2Y2 (fun h => by have h1 := HSB.out.2.2.2; have h2 := hW2.out; have h3 := hbW; change b = sb at h; omega)
  refine hK.out _ _ ⟨u0i, u1i, u2i, d0i, d1i, d2i⟩ (fun hHeld => ?_)
  clear hK K
  try go_frame
  refine wpAnyH_done (by kernel_rfl) ?_ _
  rotate_left
  all_goals
    have HEI := Lib.hid (asideI_next HE.out (by have := hW2.out; omega) TF.out)
    have hwi := TF.out.ext.size
    have qd := Lib.hid (rd0.out.low HE.out TF.out)
    have qv := Lib.hid (rdv.out.low HE.out TF.out)
    have qk : Hid (∀ (i : Nat), i < m → ∃ b' o', (some (⟨b, o, none⟩ : Addr)) = some ⟨b', o', none⟩ ∧ b' < W.heap.size ∧ ∃ a2 n2 c2, wi.cell? ⟨b', o' + i * 3, none⟩ = some (.int .i64 (eAt ks i).op) ∧ wi.cell? ⟨b', o' + i * 3 + 1, none⟩ = some (.int .i64 (eAt ks i).num) ∧ wi.cell? ⟨b', o' + i * 3 + 2, none⟩ = some (.slice a2 n2 c2) ∧ Rd wi (AsideI D1 w) (encExprs (eAt ks i).kids) (.slice a2 n2 c2)) := by
      intro i hi
      obtain ⟨b', o', e', hb', a2, n2, c2, h0, h1, h2, r⟩ := HAT.out i hi
      exact ⟨b', o', e', by rcases hb' with h | h <;> (have := hW2.out; omega), a2, n2, c2, at_low TF.out HE.out h0 hb', at_low TF.out HE.out h1 hb', at_low TF.out HE.out h2 hb', r.low HE.out TF.out⟩
    have y0 : wi.cell? ⟨q, 0, none⟩ = some (.slice a0 n0 c0) := LF.out.row.cell (i := 0) (by simp)
    have hdc := (decls_at qd.out).2.1
    have HDC := Lib.hid hdc
    have HKC : Hid (m = 1 + (consL ds num).length) := by show _ = _; rw [← HM.out, HKL.out, kidsF, if_pos rfl, armsL_len]
    have U2 := Lib.hid u2i
    have U1 := Lib.hid u1i
    have U0 := Lib.hid u0i
    have HWI := Lib.hid hwi
    clear d0 d1 d2 d0i d1i d2i hdc u0 u1 u2 rd0 rdv rde RK
    go_wp2_with fail
    go_still_tail 6, (by kernel_rfl)
    change wpList _ _ _ _ _ wi.drew
    go_wp2_with fail
    refine (implConsOf0 _ _ _ ds _ _ _ (Rd.toDecls qd.out.kd) HDC.out HF.out).mono ?_
    rintro e w2 ⟨ac, mc, cc, rfl, hmc, oc, p2⟩
    have K2 := Lib.hid (Keep.dt p2)
    have OC := Lib.hid oc
    have hw2 := K2.out.size
    have HW2 := Lib.hid hw2
    have u0 := K2.out.cq U0.out (fun h => h)
    have u1 := K2.out.cq U1.out (fun h => h)
    have u2 := K2.out.cq U2.out (fun h => h)
    have V0 := Lib.hid u0
    have V1 := Lib.hid u1
    have V2 := Lib.hid u2
    have RS2 := Lib.hid (row_ext RS.out K2.out (fun h => h))
    have L2 := Lib.hid (LF.out.k K2.out)
    have T2 := Lib.hid (TF.out.post K2.out)
    have OA2 := Lib.hid (OA.out.ext K2.out (fun _ _ h => h))
    have A0 : Hid (Acc w2 w2.heap.size (fun _ => False) 69 2 (.slice none 0 0) (rowsB ((lowK ds (ks.drop 1) (kidsF ds 8 num) env (n + s1.length)).take 0))) := by show Acc _ _ _ _ _ _ _; rw [List.take_zero]; exact Acc.nil _ _ _ _ _
    have E0 : Hid (Ext (fun k => k = sb) w2 w2) := Ext.refl _ _
    have hsw : sb < w2.heap.size := RS2.out.lt
    clear oc p2 u0 u1 u0i u1i u2i
    go_wp2_with fail
    go_loopw [72] (fun iv wr => ∃ (j : Nat) (DK : Nat → Prop) (ov : Value), j + 1 ≤ m ∧ iv = .int .i64 j ∧ Hid (wr.rowIs sb 136 5 (fun i => (#[.int .i64 8, .int .i64 num, .int .i64 0, .slice (some ⟨ab, 0, none⟩) 1 1, ov] : Array Value).getD i undef)) ∧ Hid (Acc wr w2.heap.size DK 69 2 ov (rowsB ((lowK ds (ks.drop 1) (kidsF ds 8 num) env (n + s1.length)).take j))) ∧ Hid (∀ k, DK k → w2.heap.size ≤ k ∧ k < wr.heap.size) ∧ Hid (Ext (fun k => k = sb) w2 wr)) (fun iv _ => m - (intOf iv).toNat)
    case atStart => exact ⟨0, fun _ => False, _, by omega, rfl, RS2, A0, fun _ h => h.elim, E0⟩
    case round =>
      clear A0 E0
      obtain ⟨j, DK, ov, hj, rfl, RSJ, HA, HD, HK⟩ := hrel
      obtain ⟨wo, rfl⟩ : ∃ wo : World, wo = wr := ⟨_, rfl⟩
      have hwo := HK.out.size
      have hll := lowK_len ds env (n + s1.length) (ks.drop 1) (kidsF ds 8 num)
      rw [List.length_drop] at hll
      have hlk : ((lowK ds (ks.drop 1) (kidsF ds 8 num) env (n + s1.length)).take j).length = j := by rw [List.length_take, hll]; have := HM.out; omega
      have HLK : Hid ((rowsB ((lowK ds (ks.drop 1) (kidsF ds 8 num) env (n + s1.length)).take j)).length = j) := by show _ = _; rw [rowsB_map, List.length_map]; exact hlk
      have LO := Lib.hid (L2.out.ext HK.out (fun h => HSB.out.2.2.1 h.symm) (fun k hk h => HSB.out.1 (h ▸ hk)) (fun k hk h => HSB.out.2.1 (h ▸ hk)))
      by_cases hlt : j < m - 1
      · have hjk : j + 1 < ks.length := by have := HM.out; omega
        have hj9 : j ≤ 4000 := by have := nEs_len ks; omega
        have HJD : Hid (j < (ks.drop 1).length) := by show _ < _; rw [List.length_drop]; omega
        have HLA := Lib.hid (lowK_take ds env (n + s1.length) (fs := kidsF ds 8 num) HJD.out)
        obtain ⟨b', o', e', hb', aj, nj, cj, d0, d1, d2, rk⟩ := qk.out (j + 1) (by omega)
        injection e' with e'
        injection e' with e' e''
        subst e' e''
        have eo : o + (j + 1) * 3 = o + 3 + j * 3 := by omega
        rw [eo] at d0 d1 d2
        have KX := (Keep.to K2.out).trans HK.out
        have hnb : b ≠ sb := by have := HSB.out.2.2.2; omega
        have d0 := KX.cq d0 hnb
        have d1 := KX.cq d1 hnb
        have d2 := KX.cq d2 hnb
        have hns : ∀ k, AsideI D1 w k → k ≠ sb := by
          intro k hk
          have h1 := HSB.out.2.2.2
          have h2 := hW2.out
          rcases hk with hk | hk <;> omega
        have hnw : w.heap.size ≠ sb := by have h1 := HSB.out.2.2.2; have h2 := hW2.out; omega
        have u0 := HK.out.cq V0.out hnw
        have KB := Keep.al wo (.cells #[.int .i64 (eAt ks (j + 1)).op, .int .i64 (eAt ks (j + 1)).num, .slice aj nj cj] 58)
        have RKB := rowOf wo #[.int .i64 (eAt ks (j + 1)).op, .int .i64 (eAt ks (j + 1)).num, .slice aj nj cj] 58
        have Qk := Lib.hid ((rk.ext KX hns).k KB)
        have Qd := Lib.hid ((qd.out.ext KX hns).k KB)
        have Qv := Lib.hid ((qv.out.ext KX hns).k KB)
        have LX := Lib.hid (LO.out.k KB)
        have RX := row_ext RSJ.out KB (fun h => h)
        obtain ⟨fj, hfj⟩ : ∃ f, (cAt (kidsF ds 8 num) j).length = f := ⟨_, rfl⟩
        have HFJ := Lib.hid hfj
        have hf3 : fj ≤ 3 := by rw [← hfj]; exact HFL.out j
        have TYJ := Lib.hid (TY3.out j hjk)
        have hn2 := HTW.out j hjk
        have HL2 : Hid ((vars ++ cAt (kidsF ds 8 num) j).length = env.length + fj) := by show _ = _; rw [List.length_append, hfj, hlen]
        have HL3 : Hid (env.length + fj + 4 * nE (eAt ks (j + 1)) ≤ 4000) := by show _ ≤ _; omega
        have HL4 : Hid (n + s1.length + fj + 4 * nE (eAt ks (j + 1)) ≤ 4000) := by show _ ≤ _; omega
        obtain ⟨rb, hr⟩ : ∃ s, (lowE ds (eAt ks (j + 1)) (env ++ numsL (n + s1.length) fj) (n + s1.length + fj)).2 = s := ⟨_, rfl⟩
        obtain ⟨sk, hsk⟩ : ∃ s, (lowE ds (eAt ks (j + 1)) (env ++ numsL (n + s1.length) fj) (n + s1.length + fj)).1 = s := ⟨_, rfl⟩
        have HR := Lib.hid hr
        have HSK := Lib.hid hsk
        have u0b := KB.cq u0 (fun h => h)
        have sX : (wo.alloc (.cells #[.int .i64 (eAt ks (j + 1)).op, .int .i64 (eAt ks (j + 1)).num, .slice aj nj cj] 58)).heap.size = wo.heap.size + 1 := by simp
        have KB' := Lib.hid KB
        have hmc1 : j < mc := by have h1 := HKC.out; have h2 := OC.out.1; omega
        obtain ⟨bc, occ, rfl, hbc, hcq⟩ := (OC.out.read).2 (by omega)
        have dj := hcq j hmc1
        have cqx := KB.cq (HK.out.cq dj (fun h => by have h5 := RS.out.lt; change bc = _ at h; simp at hbc; omega)) (fun h => h)
        have y0x : (wo.alloc (.cells #[.int .i64 (eAt ks (j + 1)).op, .int .i64 (eAt ks (j + 1)).num, .slice aj nj cj] 58)).cell? ⟨q, 0, none⟩ = some (.slice a0 n0 c0) := LX.out.row.cell (i := 0) (by simp)
        have hcr := consL_rg HF.out num (i := j) (by have h1 := HKC.out; omega)
        have hcr1 : -9223372036854775808 ≤ iAt (consL ds num) j := by omega
        have hcr2 : iAt (consL ds num) j ≤ 9223372036854775807 := by omega
        clear hcr hcq dj
        clear hfj rk KX hr hsk hn2 hns KB hll hlk eo u0
        go_wp2_with fail
        obtain ⟨kb, hkb⟩ : ∃ g, g = wo.heap.size := ⟨_, rfl⟩
        have HKB := Lib.hid hkb
        rw [← hkb] at RKB
        rw [← hkb]
        obtain ⟨wv, hwx⟩ : ∃ y : World, y = wo.alloc (.cells #[.int .i64 (eAt ks (j + 1)).op, .int .i64 (eAt ks (j + 1)).num, .slice aj nj cj] 58) := ⟨_, rfl⟩
        rw [← hwx] at RKB RX Qk Qd Qv LX KB' cqx y0x
        rw [← hwx]
        clear hwx hkb u0b
        go_still_tail 8, (by kernel_rfl)
        change wpList _ _ _ _ _ wv.drew
        go_wp2_with fail
        refine (implFieldsOf _ _ _ ds _ _ _ (Rd.toDecls Qd.out.kd) HF.out hcr1 hcr2).mono ?_
        rintro e wx ⟨fa, fm, fc, rfl, hfc, fi, pf⟩
        have KF := Lib.hid (Keep.dt pf)
        have HFM : Hid ((fm : Int) = (fj : Int)) := by
          have h1 := fi.1
          have h2 := HFJ.out
          rw [kidsF, if_pos rfl, armsL_at (by have h3 := HKC.out; omega)] at h2
          show _ = _
          omega
        have RKB := row_ext RKB KF.out (fun h => h)
        have RX := row_ext RX KF.out (fun h => h)
        have Qk := Lib.hid (Qk.out.k KF.out)
        have Qd := Lib.hid (Qd.out.k KF.out)
        have Qv := Lib.hid (Qv.out.k KF.out)
        have LX := Lib.hid (LX.out.k KF.out)
        have KB' := Lib.hid (KB'.out.trans KF.out)
        clear cqx fi pf y0x
        go_wp2_with fail
        have k0 : wx.cell? ⟨kb, 0, none⟩ = some (.int .i64 (eAt ks (j + 1)).op) := RKB.cell (i := 0) (by simp)
        have k1 : wx.cell? ⟨kb, 1, none⟩ = some (.int .i64 (eAt ks (j + 1)).num) := RKB.cell (i := 1) (by simp)
        have k2 : wx.cell? ⟨kb, 2, none⟩ = some (.slice aj nj cj) := RKB.cell (i := 2) (by simp)
        have z4 : wx.cell? ⟨sb, 4, none⟩ = some ov := RX.cell (i := 4) (by omega)
        have RX := Lib.hid RX
        have HAX := Lib.hid (HA.out.keep KB'.out)
        have hwx := KB'.out.size
        have hkw : kb < wx.heap.size := RKB.lt
        have hno : ∀ k, k < w2.heap.size → ¬ ov.ownBlock = some k := fun k hk e => by have := (HA.out.bound k e).1; omega
        have HNO := Lib.hid hno
        have hob := Lib.hid (fun k hk => (HA.out.bound k hk).2)
        clear RKB d0 d1 d2 hno
        refine wp_region_held_drew (S := fun w' => w'.cell? ⟨kb, 0, none⟩ = some (.int .i64 (eAt ks (j + 1)).op) ∧ w'.cell? ⟨kb, 1, none⟩ = some (.int .i64 (eAt ks (j + 1)).num) ∧ w'.cell? ⟨kb, 2, none⟩ = some (.slice aj nj cj)) (by kernel_rfl) ⟨k0, k1, k2⟩ (fun hHeld => ?_)
        refine wT 0 hHeld ?_
        try go_frame
        refine wT 2 hHeld ?_
        try go_frame
        refine wT 3 hHeld ?_
        try go_frame
        refine wT 4 hHeld ?_
        try go_frame
        refine wT 5 hHeld ?_
        try go_frame
        refine wpAnyH_ready (rs := [1, 6]) (by kernel_rfl) (by simp) ?_
        refine allReadyH_consL rfl (by rfl) (fun K hK => ?_) (allReadyH_consL rfl (by rfl) (fun K hK => ?_) (AllReadyH.nil))
        go_simp
        refine hK.out _ _ ⟨k0, k1, k2⟩ (fun hHeld => ?_)
        clear hK K
        try go_frame
        refine wO 6 (fun K hK => ?_)
        go_simp
        go_at_call 108
        refine (IB.out (j + 1) hjk (vars ++ cAt (kidsF ds 8 num) j) env (n + s1.length) fj N1 (fm : Int) q base D2 v1 (rows ++ rowsS s1) _ _ _ _ _ _ _ _ _ wx.drew (LX.out.k (Ext.refl (fun _ => False) wx).drew) HN1.out HFM.out hf3 Qd.out.kd.t Qv.out.kd.t Qk.out.kd.t TYJ.out HL2.out HL3.out HL4.out).mono ?_
        rw [HR.out, HSK.out]
        rintro e Y1 ⟨abk, nbk, cbk, rfl, ob, kY1⟩
        have k0Y1 := Keep.at kY1 k0
        have k1Y1 := Keep.at kY1 k1
        have k2Y1 := Keep.at kY1 k2
        have z4Y1 := Keep.at kY1 z4
        have OBK := Lib.hid (ob.lt.mono (D' := fun k => wx.heap.size ≤ k ∧ k < Y1.heap.size) (fun k hk => hk))
        have KY := Lib.hid (Keep.dt kY1)
        have HWC : Hid (Y1.heap.size ≤ Y1.heap.size) := Nat.le_refl _
        clear ob
        refine hK.out _ _ ⟨k0Y1, k1Y1, k2Y1⟩ (fun hHeld => ?_)
        clear hK K
        try go_frame
        refine wO 7 (fun K hK => ?_)
        go_simp
        obtain ⟨Y2, hWY2⟩ : ∃ yW : World, yW = (Y1.alloc (.cells #[.slice abk nbk cbk, .int .i64 rb] 69)) := ⟨_, rfl⟩
        rw [← hWY2]
        have kY2 : Keep Y1 Y2 := by rw [hWY2]; exact Keep.al Y1 (.cells #[.slice abk nbk cbk, .int .i64 rb] 69)
        have hzY2 : Hid (Y2.heap.size = Y1.heap.size + 1) := by show _ = _; rw [hWY2]; exact World.size_alloc _ _
        have k0Y2 := kY2.cq k0Y1 (fun h => h)
        have k1Y2 := kY2.cq k1Y1 (fun h => h)
        have k2Y2 := kY2.cq k2Y1 (fun h => h)
        have z4Y2 := kY2.cq z4Y1 (fun h => h)
        have HCL : Hid (∀ j u, [(.slice abk nbk cbk : Value), .int .i64 rb][j]? = some u → Y2.cell? ⟨Y1.heap.size, j, none⟩ = some u) := by show ∀ _ _, _; rw [hWY2]; exact cells_lit Y1 _ _
        have KY2 := Lib.hid (KY.out.trans kY2)
        have OBK2 : Hid (Own Y2 (fun k => wx.heap.size ≤ k ∧ k < Y1.heap.size) (encSteps sk) (.slice abk nbk cbk)) := OBK.out.ext kY2 (fun _ _ h => h)
        replace hWY2 := Lib.hid hWY2
        refine hK.out _ _ ⟨k0Y2, k1Y2, k2Y2⟩ (fun hHeld => ?_)
        clear hK K
        try go_frame
        refine wO 8 (fun K hK => ?_)
        refine wp_of_step (ops := #[]) (by rfl) (step_addB (by rfl) (.tmp 91) (.tmp 97) (by rfl) w2.heap.size ov _ (by rfl) (HAX.out.keep KY2.out) _ 1 sk rb (.slice abk nbk cbk) _ (by rfl) HCL.out OBK2.out (fun k hk => ⟨fun h => by have h1 := (HD.out k h).2; have h2 := hk.1; omega, fun h => by have h1 := hob.out k h; have h2 := hk.1; omega⟩) (by rw [HLK.out]; omega) (by have h1 := KY2.out.size; omega) ?_)
        intro a7 n7 c7 wz hA7 x7 s7 b7
        have A7 := Lib.hid hA7
        have X7 := Lib.hid x7
        have B7 := Lib.hid b7
        clear hA7 x7 s7 b7
        have k0z := X7.out.cq k0Y2 (fun e => by have h1 := hob.out _ e; have h2 := HKB.out; change kb < _ at h1; omega)
        have k1z := X7.out.cq k1Y2 (fun e => by have h1 := hob.out _ e; have h2 := HKB.out; change kb < _ at h1; omega)
        have k2z := X7.out.cq k2Y2 (fun e => by have h1 := hob.out _ e; have h2 := HKB.out; change kb < _ at h1; omega)
        refine hK.out _ _ ⟨k0z, k1z, k2z⟩ (fun hHeld => ?_)
        clear hK K
        try go_frame
        refine wT 9 hHeld ?_
        try go_frame
        refine wO 10 (fun K hK => ?_)
        have RZ := Lib.hid (row_ext (row_ext RX.out KY2.out (fun h => h)) X7.out (HNO.out _ hsw))
        have g1 : wz.cell? ⟨sb, 4, none⟩ = some ov := RZ.out.cell (i := 4) (by omega)
        have g2 := RZ.out.frozen 4
        have hq1 : sb ≠ kb := by have := HKB.out; omega
        go_simp
        obtain ⟨wy, hWy⟩ : ∃ y : World, y = wz.setCell ⟨sb, 4, none⟩ (.slice a7 n7 c7) := ⟨_, rfl⟩
        rw [← hWy]
        have XY : Hid (Ext (fun k => k = sb) wz wy) := by show Ext _ _ _; rw [hWy]; exact (Ext.refl (fun k => k = sb) wz).setCell (p := ⟨sb, 4, none⟩) (.inr rfl) _
        have RY : Hid (wy.rowIs sb 136 5 (fun i => (#[.int .i64 8, .int .i64 num, .int .i64 0, .slice (some ⟨ab, 0, none⟩) 1 1, .slice a7 n7 c7] : Array Value).getD i undef)) := by
          show World.rowIs _ _ _ _ _
          rw [hWy]
          exact (RZ.out.set 4 _).congr (fun i hi => by rcases (show i = 0 ∨ i = 1 ∨ i = 2 ∨ i = 3 ∨ i = 4 by omega) with rfl | rfl | rfl | rfl | rfl <;> rfl)
        replace hWy := Lib.hid hWy
        have k0y := XY.out.cq k0z (fun h => hq1 h.symm)
        have k1y := XY.out.cq k1z (fun h => hq1 h.symm)
        have k2y := XY.out.cq k2z (fun h => hq1 h.symm)
        refine hK.out _ _ ⟨k0y, k1y, k2y⟩ (fun hHeld => ?_)
        clear hK K
        try go_frame
        refine wpAnyH_done (by kernel_rfl) ?_ _
        rotate_left
        go_simp
        go_at_call 108
        refine (IB.out (j + 1) hjk (vars ++ cAt (kidsF ds 8 num) j) env (n + s1.length) fj N1 (fm : Int) q base D2 v1 (rows ++ rowsS s1) _ _ _ _ _ _ _ _ _ wx.drew (LX.out.k (Ext.refl (fun _ => False) wx).drew) HN1.out HFM.out hf3 Qd.out.kd.t Qv.out.kd.t Qk.out.kd.t TYJ.out HL2.out HL3.out HL4.out).mono ?_
        rw [HR.out, HSK.out]
        rintro e Y1 ⟨abk, nbk, cbk, rfl, ob, kY1⟩
        have k0Y1 := Keep.at kY1 k0
        have k1Y1 := Keep.at kY1 k1
        have k2Y1 := Keep.at kY1 k2
        have z4Y1 := Keep.at kY1 z4
        have OBK := Lib.hid (ob.lt.mono (D' := fun k => wx.heap.size ≤ k ∧ k < Y1.heap.size) (fun k hk => hk))
        have KY := Lib.hid (Keep.dt kY1)
        have HWC : Hid (Y1.heap.size ≤ Y1.heap.size) := Nat.le_refl _
        clear ob
        refine hK.out _ _ ⟨k0Y1, k1Y1, k2Y1⟩ (fun hHeld => ?_)
        clear hK K
        try go_frame
        refine wpAnyH_ready (rs := [1, 7]) (by kernel_rfl) (by simp) ?_
        refine allReadyH_consL rfl (by rfl) (fun K hK => ?_) (allReadyH_consL rfl (by rfl) (fun K hK => ?_) (AllReadyH.nil))
        go_simp
        refine hK.out _ _ ⟨k0Y1, k1Y1, k2Y1⟩ (fun hHeld => ?_)
        clear hK K
        try go_frame
        refine wO 7 (fun K hK => ?_)
        go_simp
        obtain ⟨Y2, hWY2⟩ : ∃ yW : World, yW = (Y1.alloc (.cells #[.slice abk nbk cbk, .int .i64 rb] 69)) := ⟨_, rfl⟩
        rw [← hWY2]
        have kY2 : Keep Y1 Y2 := by rw [hWY2]; exact Keep.al Y1 (.cells #[.slice abk nbk cbk, .int .i64 rb] 69)
        have hzY2 : Hid (Y2.heap.size = Y1.heap.size + 1) := by show _ = _; rw [hWY2]; exact World.size_alloc _ _
        have k0Y2 := kY2.cq k0Y1 (fun h => h)
        have k1Y2 := kY2.cq k1Y1 (fun h => h)
        have k2Y2 := kY2.cq k2Y1 (fun h => h)
        have z4Y2 := kY2.cq z4Y1 (fun h => h)
        have HCL : Hid (∀ j u, [(.slice abk nbk cbk : Value), .int .i64 rb][j]? = some u → Y2.cell? ⟨Y1.heap.size, j, none⟩ = some u) := by show ∀ _ _, _; rw [hWY2]; exact cells_lit Y1 _ _
        have KY2 := Lib.hid (KY.out.trans kY2)
        have OBK2 : Hid (Own Y2 (fun k => wx.heap.size ≤ k ∧ k < Y1.heap.size) (encSteps sk) (.slice abk nbk cbk)) := OBK.out.ext kY2 (fun _ _ h => h)
        replace hWY2 := Lib.hid hWY2
        refine hK.out _ _ ⟨k0Y2, k1Y2, k2Y2⟩ (fun hHeld => ?_)
        clear hK K
        try go_frame
        refine wO 8 (fun K hK => ?_)
        refine wp_of_step (ops := #[]) (by rfl) (step_addB (by rfl) (.tmp 91) (.tmp 97) (by rfl) w2.heap.size ov _ (by rfl) (HAX.out.keep KY2.out) _ 1 sk rb (.slice abk nbk cbk) _ (by rfl) HCL.out OBK2.out (fun k hk => ⟨fun h => by have h1 := (HD.out k h).2; have h2 := hk.1; omega, fun h => by have h1 := hob.out k h; have h2 := hk.1; omega⟩) (by rw [HLK.out]; omega) (by have h1 := KY2.out.size; omega) ?_)
        intro a7 n7 c7 wz hA7 x7 s7 b7
        have A7 := Lib.hid hA7
        have X7 := Lib.hid x7
        have B7 := Lib.hid b7
        clear hA7 x7 s7 b7
        have k0z := X7.out.cq k0Y2 (fun e => by have h1 := hob.out _ e; have h2 := HKB.out; change kb < _ at h1; omega)
        have k1z := X7.out.cq k1Y2 (fun e => by have h1 := hob.out _ e; have h2 := HKB.out; change kb < _ at h1; omega)
        have k2z := X7.out.cq k2Y2 (fun e => by have h1 := hob.out _ e; have h2 := HKB.out; change kb < _ at h1; omega)
        refine hK.out _ _ ⟨k0z, k1z, k2z⟩ (fun hHeld => ?_)
        clear hK K
        try go_frame
        refine wT 9 hHeld ?_
        try go_frame
        refine wO 10 (fun K hK => ?_)
        have RZ := Lib.hid (row_ext (row_ext RX.out KY2.out (fun h => h)) X7.out (HNO.out _ hsw))
        have g1 : wz.cell? ⟨sb, 4, none⟩ = some ov := RZ.out.cell (i := 4) (by omega)
        have g2 := RZ.out.frozen 4
        have hq1 : sb ≠ kb := by have := HKB.out; omega
        go_simp
        obtain ⟨wy, hWy⟩ : ∃ y : World, y = wz.setCell ⟨sb, 4, none⟩ (.slice a7 n7 c7) := ⟨_, rfl⟩
        rw [← hWy]
        have XY : Hid (Ext (fun k => k = sb) wz wy) := by show Ext _ _ _; rw [hWy]; exact (Ext.refl (fun k => k = sb) wz).setCell (p := ⟨sb, 4, none⟩) (.inr rfl) _
        have RY : Hid (wy.rowIs sb 136 5 (fun i => (#[.int .i64 8, .int .i64 num, .int .i64 0, .slice (some ⟨ab, 0, none⟩) 1 1, .slice a7 n7 c7] : Array Value).getD i undef)) := by
          show World.rowIs _ _ _ _ _
          rw [hWy]
          exact (RZ.out.set 4 _).congr (fun i hi => by rcases (show i = 0 ∨ i = 1 ∨ i = 2 ∨ i = 3 ∨ i = 4 by omega) with rfl | rfl | rfl | rfl | rfl <;> rfl)
        replace hWy := Lib.hid hWy
        have k0y := XY.out.cq k0z (fun h => hq1 h.symm)
        have k1y := XY.out.cq k1z (fun h => hq1 h.symm)
        have k2y := XY.out.cq k2z (fun h => hq1 h.symm)
        refine hK.out _ _ ⟨k0y, k1y, k2y⟩ (fun hHeld => ?_)
        clear hK K
        try go_frame
        refine wpAnyH_done (by kernel_rfl) ?_ _
        rotate_left
        go_simp
        obtain ⟨Y2, hWY2⟩ : ∃ yW : World, yW = (Y1.alloc (.cells #[.slice abk nbk cbk, .int .i64 rb] 69)) := ⟨_, rfl⟩
        rw [← hWY2]
        have kY2 : Keep Y1 Y2 := by rw [hWY2]; exact Keep.al Y1 (.cells #[.slice abk nbk cbk, .int .i64 rb] 69)
        have hzY2 : Hid (Y2.heap.size = Y1.heap.size + 1) := by show _ = _; rw [hWY2]; exact World.size_alloc _ _
        have k0Y2 := kY2.cq k0Y1 (fun h => h)
        have k1Y2 := kY2.cq k1Y1 (fun h => h)
        have k2Y2 := kY2.cq k2Y1 (fun h => h)
        have z4Y2 := kY2.cq z4Y1 (fun h => h)
        have HCL : Hid (∀ j u, [(.slice abk nbk cbk : Value), .int .i64 rb][j]? = some u → Y2.cell? ⟨Y1.heap.size, j, none⟩ = some u) := by show ∀ _ _, _; rw [hWY2]; exact cells_lit Y1 _ _
        have KY2 := Lib.hid (KY.out.trans kY2)
        have OBK2 : Hid (Own Y2 (fun k => wx.heap.size ≤ k ∧ k < Y1.heap.size) (encSteps sk) (.slice abk nbk cbk)) := OBK.out.ext kY2 (fun _ _ h => h)
        replace hWY2 := Lib.hid hWY2
        refine hK.out _ _ ⟨k0Y2, k1Y2, k2Y2⟩ (fun hHeld => ?_)
        clear hK K
        try go_frame
        refine wO 1 (fun K hK => ?_)
        go_simp
        refine hK.out _ _ ⟨k0Y2, k1Y2, k2Y2⟩ (fun hHeld => ?_)
        clear hK K
        try go_frame
        refine wO 8 (fun K hK => ?_)
        refine wp_of_step (ops := #[]) (by rfl) (step_addB (by rfl) (.tmp 91) (.tmp 97) (by rfl) w2.heap.size ov _ (by rfl) (HAX.out.keep KY2.out) _ 1 sk rb (.slice abk nbk cbk) _ (by rfl) HCL.out OBK2.out (fun k hk => ⟨fun h => by have h1 := (HD.out k h).2; have h2 := hk.1; omega, fun h => by have h1 := hob.out k h; have h2 := hk.1; omega⟩) (by rw [HLK.out]; omega) (by have h1 := KY2.out.size; omega) ?_)
        intro a7 n7 c7 wz hA7 x7 s7 b7
        have A7 := Lib.hid hA7
        have X7 := Lib.hid x7
        have B7 := Lib.hid b7
        clear hA7 x7 s7 b7
        have k0z := X7.out.cq k0Y2 (fun e => by have h1 := hob.out _ e; have h2 := HKB.out; change kb < _ at h1; omega)
        have k1z := X7.out.cq k1Y2 (fun e => by have h1 := hob.out _ e; have h2 := HKB.out; change kb < _ at h1; omega)
        have k2z := X7.out.cq k2Y2 (fun e => by have h1 := hob.out _ e; have h2 := HKB.out; change kb < _ at h1; omega)
        refine hK.out _ _ ⟨k0z, k1z, k2z⟩ (fun hHeld => ?_)
        clear hK K
        try go_frame
        refine wT 9 hHeld ?_
        try go_frame
        refine wO 10 (fun K hK => ?_)
        have RZ := Lib.hid (row_ext (row_ext RX.out KY2.out (fun h => h)) X7.out (HNO.out _ hsw))
        have g1 : wz.cell? ⟨sb, 4, none⟩ = some ov := RZ.out.cell (i := 4) (by omega)
        have g2 := RZ.out.frozen 4
        have hq1 : sb ≠ kb := by have := HKB.out; omega
        go_simp
        obtain ⟨wy, hWy⟩ : ∃ y : World, y = wz.setCell ⟨sb, 4, none⟩ (.slice a7 n7 c7) := ⟨_, rfl⟩
        rw [← hWy]
        have XY : Hid (Ext (fun k => k = sb) wz wy) := by show Ext _ _ _; rw [hWy]; exact (Ext.refl (fun k => k = sb) wz).setCell (p := ⟨sb, 4, none⟩) (.inr rfl) _
        have RY : Hid (wy.rowIs sb 136 5 (fun i => (#[.int .i64 8, .int .i64 num, .int .i64 0, .slice (some ⟨ab, 0, none⟩) 1 1, .slice a7 n7 c7] : Array Value).getD i undef)) := by
          show World.rowIs _ _ _ _ _
          rw [hWy]
          exact (RZ.out.set 4 _).congr (fun i hi => by rcases (show i = 0 ∨ i = 1 ∨ i = 2 ∨ i = 3 ∨ i = 4 by omega) with rfl | rfl | rfl | rfl | rfl <;> rfl)
        replace hWy := Lib.hid hWy
        have k0y := XY.out.cq k0z (fun h => hq1 h.symm)
        have k1y := XY.out.cq k1z (fun h => hq1 h.symm)
        have k2y := XY.out.cq k2z (fun h => hq1 h.symm)
        refine hK.out _ _ ⟨k0y, k1y, k2y⟩ (fun hHeld => ?_)
        clear hK K
        try go_frame
        refine wpAnyH_done (by kernel_rfl) ?_ _
        rotate_left
        all_goals
          have KR := Lib.hid ((((HK.out.trans (Keep.to KB'.out)).trans (Keep.to KY2.out)).then_ X7.out (fun i hi h => absurd h (HNO.out i hi))).trans XY.out)
          have hx7 := X7.out.size
          have hk2 := KY2.out.size
          go_wp2
          go_roundw
          case rel => exact ⟨j + 1, _, .slice a7 n7 c7, by omega, by go_num, RY.out, (by
            show Acc _ _ _ _ _ _ _
            rw [HLA.out, rowsB_map, List.map_append, ← rowsB_map, List.map_singleton, kidB, HFJ.out, eAt_drop1, HSK.out, HR.out]
            refine A7.out.extO XY.out (fun k hk hd e => ?_) (fun k hk e => ?_)
            · rcases hd with hd | hd
              · have := (HD.out k hd).1; omega
              · have := hd.1.1; omega
            · rcases B7.out k hk with h | h
              · exact HNO.out k (by omega) h
              · omega), (fun k hk => by
            have h1 := XY.out.size
            rcases hk with hk | hk
            · have := HD.out k hk; omega
            · have h2 := hk.1; have h3 := hk.2; omega), KR.out⟩
          case measure => simp [intOf]; omega
      · have hjm : j + 1 = m := by omega
        have HTK : Hid ((lowK ds (ks.drop 1) (kidsF ds 8 num) env (n + s1.length)).take j = lowK ds (ks.drop 1) (kidsF ds 8 num) env (n + s1.length)) := by show _ = _; rw [List.take_of_length_le (by rw [hll]; have := HM.out; omega)]
        rw [HTK.out] at HA HLK
        obtain ⟨aO, cO, e9, hcO, hoO⟩ := HA.out.own (by omega) (by rw [HLK.out]; omega)
        rw [HLK.out] at e9
        subst e9
        have OB : Hid (Own wo (fun k => w2.heap.size ≤ k ∧ k < wo.heap.size) (encBlocks (lowK ds (ks.drop 1) (kidsF ds 8 num) env (n + s1.length))) (.slice aO j cO)) := hoO.lt.mono (D' := fun k => w2.heap.size ≤ k ∧ k < wo.heap.size) (fun k hk => ⟨by rcases hk.1 with h | h; exact (HD.out k h).1; exact h, hk.2⟩)
        have OA3 := Lib.hid (OA2.out.ext HK.out (fun k hk h => HNE.out (by rw [← h, hk])))
        have HTT := Lib.hid (T2.out.aside HK.out (fun k hk => by have := HSB.out.2.2.2; omega))
        have s0 : wo.cell? ⟨sb, 0, none⟩ = some (.int .i64 8) := RSJ.out.cell (i := 0) (by omega)
        have s1' : wo.cell? ⟨sb, 1, none⟩ = some (.int .i64 num) := RSJ.out.cell (i := 1) (by omega)
        have s2 : wo.cell? ⟨sb, 2, none⟩ = some (.int .i64 0) := RSJ.out.cell (i := 2) (by omega)
        have s3 : wo.cell? ⟨sb, 3, none⟩ = some (.slice (some ⟨ab, 0, none⟩) 1 1) := RSJ.out.cell (i := 3) (by omega)
        have s4 : wo.cell? ⟨sb, 4, none⟩ = some (.slice aO j cO) := RSJ.out.cell (i := 4) (by omega)
        have HEA : Hid (∀ k, (k = ab) ∨ (w2.heap.size ≤ k ∧ k < wo.heap.size) → ¬ D2 k ∧ k ≠ q ∧ v1.ownBlock ≠ some k) := by
          intro k hk
          rcases hk with rfl | hk
          · exact ⟨HAB.out.1, HAB.out.2.2.1, HAB.out.2.1⟩
          · exact ⟨fun h => by have := L2.out.lt k h; omega, fun h => by have := L2.out.qlt; omega, fun h => by have := L2.out.own k h; omega⟩
        have hab2 : ab < w2.heap.size := by
          have h0 := OA2.out.lt
          cases h0 with
          | arr D E s rows b c T N f hD => exact hD.2
        have HDA : Hid (∀ k, k = ab → ¬ (w2.heap.size ≤ k ∧ k < wo.heap.size)) := fun k h1 h2 => by omega
        have HRL : Hid ((rows ++ rowsS s1).length ≤ 100000) := by show _ ≤ _; rw [List.length_append, rowsS_map, List.length_map]; omega
        have hnz : 0 ≤ N1 := by have := HN1.out; omega
        have hny : N1 ≤ 100000 := by have := HN1.out; omega
        clear hoO hll hlk
        go_wp2_with fail
        have C := implAdd base q (.slice a0 n0 c0) v1 N1 D2 (rows ++ rowsS s1) 8 num 0 [y1] (lowK ds (ks.drop 1) (kidsF ds 8 num) env (n + s1.length)) (some ⟨ab, 0, none⟩) 1 1 aO j cO (fun k => k = ab) (fun k => w2.heap.size ≤ k ∧ k < wo.heap.size) wo LO.out OA3.out OB.out HEA.out HDA.out HRL.out hnz hny
        refine C.mono ?_
        clear C
        rintro e w5 ⟨rfl, v5, D5, L5, S5, X5, B5⟩
        have L5' := Lib.hid L5
        have T5 := Lib.hid (HTT.out.add (Ext.refl _ _) X5 S5 (fun k hk => by
          change k = ab ∨ (w2.heap.size ≤ k ∧ k < wo.heap.size) at hk
          have h1 := HAB.out.2.2.2
          rcases hk with rfl | hk <;> omega) B5)
        clear L5 S5 X5 B5
        go_wp2_with fail
        refine fin_ hQ ⟨v5, D5, ret_i HN1.out, ?_, (LowTo.keep KW.out).trans T5.out⟩
        refine lowSt_cast L5'.out (by rw [HN1.out, List.length_append, List.length_singleton]; rfl) (by rw [rowsS_app, rowsS_one, List.append_assoc])
end
end Go.Proofs.YtkapldpmjkdmcaaGreat
/- Rows of a clone in the making: the first elements are the call's own, the others are still those that were cloned. -/
namespace Go.Proofs.YtkapldpmjkdmcaaGreat
open Go.RowKit

/-- Of some elements of s cells each the first j hold data of the call's own, in blocks from lo on and below hi; the others can be read, in blocks of D0. -/
def Mix (w : World) (D0 : Nat → Prop) (lo hi s : Nat) (f : Nat → Value) (rows : List (List Dat)) (j : Nat) : Prop :=
  (∀ i, i < rows.length → (rGet rows i).length = s) ∧ lo ≤ hi ∧ ∃ E : Nat → Nat → Nat → Prop,
    (∀ i l k, i < j → l < s → E i l k → lo ≤ k ∧ k < hi) ∧
    (∀ i l i' l' k, i < j → l < s → i' < j → l' < s → E i l k → E i' l' k → i = i' ∧ l = l') ∧
    (∀ i l, i < j → i < rows.length → l < s → Own w (E i l) (rAt rows i l) (f (i * s + l))) ∧
    ∀ i l, j ≤ i → i < rows.length → l < s → Rd w D0 (rAt rows i l) (f (i * s + l))

section
variable {S D0 : Nat → Prop} {w w' : World} {lo hi s j : Nat} {f f' : Nat → Value} {rows : List (List Dat)}
theorem Mix.ext (h : Mix w D0 lo hi s f rows j) (hx : Ext S w w') (h1 : ∀ k, lo ≤ k → k < hi → ¬ S k) (h2 : ∀ k, D0 k → ¬ S k) : Mix w' D0 lo hi s f rows j := by
  obtain ⟨a, b, E, e1, e2, e3, e4⟩ := h
  exact ⟨a, b, E, e1, e2, fun i l hi hr hl => (e3 i l hi hr hl).ext hx (fun k hk => h1 k (e1 i l k hi hl hk).1 (e1 i l k hi hl hk).2), fun i l hi hr hl => (e4 i l hi hr hl).ext hx h2⟩
theorem Mix.k (h : Mix w D0 lo hi s f rows j) (hx : Keep w w') : Mix w' D0 lo hi s f rows j := h.ext hx (fun _ _ _ h => h) (fun _ _ h => h)
theorem Mix.mono {D1 : Nat → Prop} (h : Mix w D0 lo hi s f rows j) (hd : ∀ k, D0 k → D1 k) : Mix w D1 lo hi s f rows j := by
  obtain ⟨a, b, E, e1, e2, e3, e4⟩ := h
  exact ⟨a, b, E, e1, e2, e3, fun i l hi hr hl => (e4 i l hi hr hl).mono hd⟩
theorem Mix.at (h : Mix w D0 lo hi s f rows j) {l : Nat} (hr : j < rows.length) (hl : l < s) : Rd w D0 (rAt rows j l) (f (j * s + l)) := by
  obtain ⟨_, _, _, _, _, _, e4⟩ := h
  exact e4 j l (Nat.le_refl _) hr hl
theorem Mix.lo_le (h : Mix w D0 lo hi s f rows j) : lo ≤ hi := h.2.1
/-- One element more is the call's own. -/
theorem Mix.next {l0 hi' : Nat} {D2 : Nat → Prop} (h : Mix w D0 lo hi s f rows j) (hj : j < rows.length) (hl0 : l0 < s) (hnum : ∀ l, l < s → l ≠ l0 → ∃ z, rAt rows j l = .num z)
    (hf : ∀ i, i ≠ j * s + l0 → f' i = f i) (ho : Own w D2 (rAt rows j l0) (f' (j * s + l0))) (hD2 : ∀ k, D2 k → hi ≤ k ∧ k < hi') (hh : hi ≤ hi') : Mix w D0 lo hi' s f' rows (j + 1) := by
  obtain ⟨a, b, E, e1, e2, e3, e4⟩ := h
  refine ⟨a, Nat.le_trans b hh, fun i l k => if i = j then (l = l0 ∧ D2 k) else E i l k, fun i l k hi hl hk => ?_, fun i l i' l' k hi hl hi' hl' hk hk' => ?_, fun i l hi hr hl => ?_, fun i l hi hr hl => ?_⟩
  · by_cases e : i = j
    · simp only [if_pos e] at hk
      have := hD2 k hk.2
      omega
    · simp only [if_neg e] at hk
      have := e1 i l k (by omega) hl hk
      omega
  · by_cases e : i = j <;> by_cases e' : i' = j
    · simp only [if_pos e] at hk
      simp only [if_pos e'] at hk'
      exact ⟨by omega, by rw [hk.1, hk'.1]⟩
    · simp only [if_pos e] at hk
      simp only [if_neg e'] at hk'
      have h1 := hD2 k hk.2
      have h2 := e1 i' l' k (by omega) hl' hk'
      omega
    · simp only [if_neg e] at hk
      simp only [if_pos e'] at hk'
      have h1 := hD2 k hk'.2
      have h2 := e1 i l k (by omega) hl hk
      omega
    · simp only [if_neg e] at hk
      simp only [if_neg e'] at hk'
      exact e2 i l i' l' k (by omega) hl (by omega) hl' hk hk'
  · by_cases e : i = j
    · subst e
      by_cases e2 : l = l0
      · subst e2
        refine ho.mono (fun k hk => ?_)
        simp [hk]
      · obtain ⟨z, hz⟩ := hnum l hl e2
        have hr := e4 i l (Nat.le_refl _) hr hl
        rw [hz] at hr
        have hv := hr.num_inv
        rw [hz, hf (i * s + l) (fun h => e2 (idx_inj hl hl0 h).2), hv]
        exact .num _ z
    · simp only [if_neg e]
      rw [hf (i * s + l) (fun h => e (idx_inj hl hl0 h).1)]
      exact e3 i l (by omega) hr hl
  · rw [hf (i * s + l) (fun h => by have := (idx_inj hl hl0 h).1; omega)]
    exact e4 i l (by omega) hr hl
/-- All elements are. -/
theorem Mix.own {b N c : Nat} {T : TypeId} (h : Mix w D0 lo hi s f rows rows.length) (hrow : w.rowIs b T N f) (hN : rows.length * s ≤ N) (hc : rows.length ≤ c) (hm : rows.length ≤ 9223372036854775807) (hs0 : 0 < s) (hb : b < lo) :
    Own w (fun k => b ≤ k) (.arr s rows) (.slice (some ⟨b, 0, none⟩) rows.length c) := by
  obtain ⟨a, b', E, e1, e2, e3, e4⟩ := h
  rcases Nat.eq_zero_or_pos rows.length with h0 | h0
  · have : rows = [] := List.eq_nil_of_length_eq_zero h0
    subst this
    exact .nil _ _ _ _
  · exact .arr _ E s rows b c T N f (Nat.le_refl _) h0 hs0 hc hm a hN hrow (fun i j k hi hj hk => by have := e1 i j k hi hj hk; omega) (fun i j i' j' k hi hj hi' hj' => e2 i j i' j' k hi hj hi' hj') (fun i j hi hj => e3 i j hi hi hj)
/-- What was cloned: its row. -/
theorem AccR.row {base : Nat} {D : Nat → Prop} {T : TypeId} {v : Value} (h : AccR w base D T s v rows) (h0 : 0 < rows.length) : ∃ b c N f, v = .slice (some ⟨b, 0, none⟩) rows.length c ∧ base ≤ b ∧ b < w.heap.size ∧ rows.length ≤ c ∧ rows.length ≤ 9223372036854775807 ∧ rows.length * s ≤ N ∧ w.rowIs b T N f ∧
    Mix w (fun k => D k ∧ k ≠ b ∧ k < w.heap.size) w.heap.size w.heap.size s f rows 0 := by
  obtain ⟨xs, h1, h2, h5⟩ := h
  rcases h1.2 with ⟨e, he⟩ | ⟨g, cap, cur, e, hb, hg, hnc, hmax, hsz, htake⟩
  · omega
  · subst e
    have hmul : rows.length * s ≤ cap * s := Nat.mul_le_mul_right s hnc
    refine ⟨g, cap, cap * s, fun i => cur.getD i undef, rfl, hb, (Array.getElem?_eq_some_iff.1 hg).1, hnc, by simp only [maxLen] at hmax; omega, hmul, ⟨cur, hg, hsz, fun i hi => ?_⟩, h2, Nat.le_refl _, fun _ _ _ => False, fun _ _ _ _ _ h => h.elim, fun _ _ _ _ _ _ _ _ _ h => h.elim, fun i l hi => by omega, fun i l _ hi hl => ?_⟩
    · simp [Array.getD, show i < cur.size by omega]
    · obtain ⟨u, hu, ho⟩ := h5 i l hi hl
      have hlt := idx_lt hi hl
      have hlt2 : i * s + l < cur.size := by rw [hsz]; omega
      rw [← htake, List.getElem?_take, if_pos hlt, Array.getElem?_toList, Array.getElem?_eq_getElem hlt2] at hu
      have : cur.getD (i * s + l) undef = u := by simp [Array.getD, hlt2]; simpa using hu
      show Rd w _ _ (cur.getD (i * s + l) undef)
      rw [this]
      exact ho.mono (fun k hk => ⟨hk.1, fun e => hk.2.1 (by rw [e]; rfl), hk.2.2⟩)
end
end Go.Proofs.YtkapldpmjkdmcaaGreat
