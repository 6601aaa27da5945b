/- withBody: a program with another body. -/
import Derived.Test.YtaeddcnakilnlaaMT
namespace Go.Proofs.Ytaeddcnakilnlaa
open Go.RowKit

set_option maxRecDepth 100000 in
set_option maxHeartbeats 1500000 in
theorem withBody_n (fs : List FuncL) (k : Nat) (x : ExprL) (a0 : Option Addr) (n0 c0 : Nat) (a1 : Option Addr) (n1 c1 : Nat) (ak : Option Addr) (nk ck : Nat) (w : World) (hk : k < fs.length) (hn : fs.length ≤ 1000)
    (r1 : Rd w (fun _ => True) (encFuncs fs) (.slice a1 n1 c1)) (rk : Rd w (fun _ => True) (encExprs x.kids) (.slice ak nk ck)) :
    Calls Try.prog 36 #[.agg #[.slice a0 n0 c0, .slice a1 n1 c1], .int .i64 k, .agg #[.int .i64 x.op, .int .i64 x.num, .slice ak nk ck]] w fun e w' => ∃ (b : Option Addr) (n c : Nat), e = .returned (.agg #[.slice a0 n0 c0, .slice b n c]) ∧
      Rd w' (fun _ => True) (encFuncs (fs.set k ⟨(fAt fs k).params, (fAt fs k).result, x⟩)) (.slice b n c) ∧ Keep w w' := by
  refine calls_k fun Q hQ => ?_
  have hnl := (funcs_at r1).1
  have hnc := (funcs_at r1).2.1
  obtain ⟨b1, o1, rfl, -, ap, np, cp, ab, nb, cb, z0, z1, -, -, -, rp, -⟩ := (funcs_at r1).2.2.2 k (by omega)
  have HN : Hid (n1 = fs.length) := hnl.symm
  have HKF := Lib.hid hk
  have kk0 : (0 : Int) ≤ (k : Int) := by omega
  have kk1 : (k : Int) < (n1 : Int) := by omega
  have hn1 : n1 ≤ 1000 := by omega
  have K1 := ((Keep.al w (.cells #[.slice a0 n0 c0, .slice (some ⟨b1, o1, none⟩) n1 c1] 50)).trans (Keep.al _ (.cells #[.int .i64 x.op, .int .i64 x.num, .slice ak nk ck] 53))).trans (Keep.al _ (.cells #[.slice none 0 0, .slice none 0 0] 50))
  have BP := (Px.born w (.slice a0 n0 c0) (.slice (some ⟨b1, o1, none⟩) n1 c1)).k ((Keep.al _ (.cells #[.int .i64 x.op, .int .i64 x.num, .slice ak nk ck] 53)).trans (Keep.al _ (.cells #[.slice none 0 0, .slice none 0 0] 50)))
  have BE := Ev.born (w.alloc (.cells #[.slice a0 n0 c0, .slice (some ⟨b1, o1, none⟩) n1 c1] 50)) (fun m => m < w.heap.size) x ak nk ck ((rk.lt.k (Keep.al w (.cells #[.slice a0 n0 c0, .slice (some ⟨b1, o1, none⟩) n1 c1] 50))).mono (fun _ h => h.2))
  replace BE := BE.keep (Keep.al _ (.cells #[.slice none 0 0, .slice none 0 0] 50))
  have BZ := Px.born ((w.alloc (.cells #[.slice a0 n0 c0, .slice (some ⟨b1, o1, none⟩) n1 c1] 50)).alloc (.cells #[.int .i64 x.op, .int .i64 x.num, .slice ak nk ck] 53)) (.slice none 0 0) (.slice none 0 0)
  rw [World.size_alloc] at BE
  rw [World.size_alloc, World.size_alloc] at BZ
  have hsz : w.heap.size + 3 ≤ (((w.alloc (.cells #[.slice a0 n0 c0, .slice (some ⟨b1, o1, none⟩) n1 c1] 50)).alloc (.cells #[.int .i64 x.op, .int .i64 x.num, .slice ak nk ck] 53)).alloc (.cells #[.slice none 0 0, .slice none 0 0] 50)).heap.size := by simp only [World.size_alloc]; omega
  have RF := Lib.hid (r1.lt.k K1)
  have RK := Lib.hid (rk.lt.k K1)
  have RP := Lib.hid (rp.lt.k K1)
  have hb1 := World.block_lt_of_cell? _ _ z0
  change b1 < w.heap.size at hb1
  have q0 := (K1.cell (World.block_lt_of_cell? _ _ z0) (fun h => h)).trans z0
  have q1 := (K1.cell (World.block_lt_of_cell? _ _ z1) (fun h => h)).trans z1
  have KW := Lib.hid K1
  replace BP := Lib.hid BP
  replace BE := Lib.hid BE
  replace BZ := Lib.hid BZ
  clear r1 rk rp z0 z1 hnl hk K1
  go_enter Try.func36, Try.ntmps36
  go_upto_region 1 with fail
  generalize hW : ((w.alloc (.cells #[.slice a0 n0 c0, .slice (some ⟨b1, o1, none⟩) n1 c1] 50)).alloc (.cells #[.int .i64 x.op, .int .i64 x.num, .slice ak nk ck] 53)).alloc (.cells #[.slice none 0 0, .slice none 0 0] 50) = wp at *
  clear hW
  have x1 := (BP.out.k (Keep.al wp (.cells #[] 63))).x1
  go_wp2_with (at_builtin; go_must (refine wpList_appR _ rfl (.tmp 8) (.tmp 10) 48 rfl wp.heap.size 63 (.agg #[.slice none 0 0, .int .i64 0, .int .i64 0, .int .i64 0, .slice none 0 0]) 5 72 Try.underlying48 (by kernel_rfl) rfl (by omega) (fun m => m < w.heap.size) _ _ rfl (AccR.made wp (fun m => m < w.heap.size) 63 5) _ n1 c1 _ _ rfl (RF.out.k (Keep.al wp (.cells #[] 63))) (fun m _ hm => ⟨hm.2, fun e => by have := Option.some.inj e; change wp.heap.size = m at this; have := hm.2; omega⟩) (by show (0 + n1) * 72 ≤ _; omega) (by show 0 + n1 ≤ _; omega) (by simp) ?_); intro v9 wq A9 xA sA)
  have Y : Ext (fun m => wp.heap.size ≤ m) wp wq := (Keep.to (Keep.al wp (.cells #[] 63))).trans xA
  replace BP := Lib.hid (BP.out.e Y (by omega))
  replace BE := Lib.hid (BE.out.ext Y (by omega) (fun m hm h => by omega))
  replace BZ := Lib.hid (BZ.out.e Y (by omega))
  replace RP := Lib.hid (RP.out.ext Y (fun m hm h => by omega))
  replace RK := Lib.hid (RK.out.ext Y (fun m hm h => by omega))
  replace KW := Lib.hid (KW.out.then_ Y (fun m hm h => by omega))
  have q0 := Y.cl q0 (by show ¬ (_ ≤ b1); omega)
  have q1 := Y.cl q1 (by show ¬ (_ ≤ b1); omega)
  rw [List.nil_append] at A9
  obtain ⟨sF, cf, rfl, hbF, -, -, -, -, -⟩ := A9.open (by rw [List.length_map]; exact Nat.lt_of_le_of_lt (Nat.zero_le _) HKF.out)
  have A8 := Lib.hid A9
  clear A9 xA sA Y RF x1
  go_upto_region 2 with fail
  have KD : Keep wq wq.drew := (Ext.refl (fun _ => False) wq).drew
  replace A8 := Lib.hid (A8.out.keep KD)
  replace BP := Lib.hid (BP.out.k KD)
  replace BE := Lib.hid (BE.out.keep KD)
  replace BZ := Lib.hid (BZ.out.k KD)
  replace KW := Lib.hid (KW.out.trans KD)
  have RX : Hid (Rd wq.drew (fun m => m < w.heap.size ∧ m ≠ sF) (encExprs x.kids) (.slice ak nk ck)) := (RK.out.k KD).mono (fun m hm => by have := hm.2; omega)
  have RQ : Hid (Rd wq.drew (fun m => m < w.heap.size ∧ m ≠ sF) (encInts (fAt fs k).params) (.slice ap np cp)) := (RP.out.k KD).mono (fun m hm => by have := hm.2; omega)
  have z0 : wq.drew.cell? ⟨b1, o1 + k * 5, none⟩ = some (.slice ap np cp) := q0
  have z1 : wq.drew.cell? ⟨b1, o1 + k * 5 + 1, none⟩ = some (.int .i64 (fAt fs k).result) := q1
  have x1 := BP.out.x1
  have e0 : wq.drew.cell? ⟨w.heap.size + 1, 0, none⟩ = some (.int .i64 x.op) := BE.out.v0
  have e1 : wq.drew.cell? ⟨w.heap.size + 1, 1, none⟩ = some (.int .i64 x.num) := BE.out.v1
  have e2 : wq.drew.cell? ⟨w.heap.size + 1, 2, none⟩ = some (.slice ak nk ck) := BE.out.v2
  obtain ⟨_, _, _, _, _, _, v0, v1, v2, v3, v4, -, -, hfz, -, -⟩ := tabO_at A8.out HKF.out
  have f0 := hfz (k * 5)
  have f1 := hfz (k * 5 + 1)
  have f2 := hfz (k * 5 + 2)
  have f3 := hfz (k * 5 + 3)
  have f4 := hfz (k * 5 + 4)
  have kk2 : (k : Int) < ((fs.map rowF).length : Int) := by rw [List.length_map]; have := HKF.out; omega
  obtain ⟨nf, hnf⟩ : ∃ nf, nf = (fs.map rowF).length := ⟨_, rfl⟩
  rw [← hnf] at kk2
  rw [← hnf]
  have A8' := A8.out
  rw [← hnf] at A8'
  replace A8 := Lib.hid A8'
  have h3F : w.heap.size ≠ sF := by omega
  have h5F : w.heap.size + 1 ≠ sF := by omega
  have h6F : w.heap.size + 1 + 1 ≠ sF := by omega
  have h1F : b1 ≠ sF := by omega
  clear A8' hnf hfz q0 q1 KD RK RP BE
  refine wp_region_held_drew (S := fun w' => w'.cell? ⟨w.heap.size, 1, none⟩ = some (.slice (some ⟨b1, o1, none⟩) n1 c1) ∧ w'.cell? ⟨b1, o1 + k * 5, none⟩ = some (.slice ap np cp) ∧ w'.cell? ⟨b1, o1 + k * 5 + 1, none⟩ = some (.int .i64 (fAt fs k).result) ∧ w'.cell? ⟨w.heap.size + 1, 0, none⟩ = some (.int .i64 x.op) ∧ w'.cell? ⟨w.heap.size + 1, 1, none⟩ = some (.int .i64 x.num) ∧ w'.cell? ⟨w.heap.size + 1, 2, none⟩ = some (.slice ak nk ck)) (by kernel_rfl) ⟨x1, z0, z1, e0, e1, e2⟩ (fun hHeld => ?_)
  generalize wq.drew = W0 at *
  refine wT 0 hHeld ?_
  try go_frame
  refine wT 1 hHeld ?_
  try go_frame
  refine wT 2 hHeld ?_
  try go_frame
  refine wT 3 hHeld ?_
  try go_frame
  refine wT 4 hHeld ?_
  try go_frame
  refine wT 5 hHeld ?_
  try go_frame
  refine wT 6 hHeld ?_
  try go_frame
  refine wT 7 hHeld ?_
  try go_frame
  refine wT 8 hHeld ?_
  try go_frame
  refine wT 9 hHeld ?_
  try go_frame
  refine wT 10 hHeld ?_
  try go_frame
  refine wT 11 hHeld ?_
  try go_frame
  refine wT 12 hHeld ?_
  try go_frame
  refine wT 13 hHeld ?_
  try go_frame
  refine wT 14 hHeld ?_
  try go_frame
  refine wT 15 hHeld ?_
  try go_frame
  refine wT 16 hHeld ?_
  try go_frame
  refine wO 17 (fun K hK => ?_)
  go_simp
  refine hK.out _ _ ⟨put5_far x1 h3F, put5_far z0 h1F, put5_far z1 h1F, put5_far e0 h5F, put5_far e1 h5F, put5_far e2 h5F⟩ (fun hHeld => ?_)
  clear hK K
  try go_frame
  refine wpAnyH_done (by kernel_rfl) ?_ _
  have Y := put5x W0 sF (k * 5) (.slice ap np cp) (.int .i64 (fAt fs k).result) (.int .i64 x.op) (.int .i64 x.num) (.slice ak nk ck)
  have A9 := Lib.hid (A8.out.putF (k := k) (f := ⟨(fAt fs k).params, (fAt fs k).result, x⟩) rfl HKF.out RQ.out RX.out)
  have BZ9 := Lib.hid (BZ.out.e Y h6F)
  have BP9 := Lib.hid (BP.out.e Y (fun h => h3F h))
  have X9 := Lib.hid (KW.out.then_ Y (fun i hi h => by omega))
  clear x1 z0 z1 e0 e1 e2 f0 f1 f2 f3 f4 Y A8 BZ BP KW RX RQ v0 v1 v2 v3 v4 hHeld
  go_upto_region 3 with fail
  generalize hW : (((((W0.setCell ⟨sF, k * 5, none⟩ (.slice ap np cp)).setCell ⟨sF, k * 5 + 1, none⟩ (.int .i64 (fAt fs k).result)).setCell ⟨sF, k * 5 + 2, none⟩ (.int .i64 x.op)).setCell ⟨sF, k * 5 + 3, none⟩ (.int .i64 x.num)).setCell ⟨sF, k * 5 + 4, none⟩ (.slice ak nk ck)) = W9 at *
  clear hW
  have p0 := BP9.out.x0
  have y0 := BZ9.out.x0
  have y1 := BZ9.out.x1
  have g0 := BZ9.out.f0
  have g1 := BZ9.out.f1
  have Y := (ext1 W9 (w.heap.size + 1 + 1) 0 (.slice a0 n0 c0)).trans (ext1 _ (w.heap.size + 1 + 1) 1 (.slice (some ⟨sF, 0, none⟩) nf cf))
  have BZ10 := Lib.hid ((BZ9.out.set0 (u := .slice a0 n0 c0)).set1 (u := .slice (some ⟨sF, 0, none⟩) nf cf))
  have R10 := Lib.hid (A9.out.rdT.lt.ext Y (fun k hk h => by rcases hk with ⟨hk, _⟩; rcases hk with hk | hk; omega; have := Option.some.inj hk; change sF = k at this; omega))
  have X10 := Lib.hid (X9.out.then_ Y (fun i hi h => by omega))
  clear A9 X9 BP9 BZ9 Y
  go_wp2_with fail
  have u0 := BZ10.out.x0
  have u1 := BZ10.out.x1
  refine bodyPost_ret (v := .agg #[.slice a0 n0 c0, .slice (some ⟨sF, 0, none⟩) nf cf]) (by simp [results, Try.results36, go_sem, u0, u1]) rfl (fin_ hQ ⟨_, _, _, rfl, R10.out.mono (fun _ _ => trivial), X10.out⟩)
end Go.Proofs.Ytaeddcnakilnlaa
