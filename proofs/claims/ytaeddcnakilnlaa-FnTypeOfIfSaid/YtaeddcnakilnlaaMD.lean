/- The generator of programs: someBody, someExpr. -/
import Derived.Test.YtaeddcnakilnlaaWGen22
namespace Go.Proofs.Ytaeddcnakilnlaa
open Go.RowKit

theorem OwnP.k {lo : Nat} {w w2 : World} {ds : List DeclL} {fs : List FuncL} {a0 : Option Addr} {n0 c0 sF n cc : Nat} (h : OwnP lo w ds fs a0 n0 c0 sF n cc) (K : Keep w w2) : OwnP lo w2 ds fs a0 n0 c0 sF n cc := ⟨h.f.keep K, h.d.k K, h.s⟩
theorem OwnP.g {lo g : Nat} {w w2 : World} {ds : List DeclL} {fs : List FuncL} {a0 : Option Addr} {n0 c0 sF n cc : Nat} (h : OwnP lo w ds fs a0 n0 c0 sF n cc) (X : Ext (· = g) w w2) (hg : g < lo) : OwnP lo w2 ds fs a0 n0 c0 sF n cc :=
  ⟨h.f.ext X (fun k _ hk e => by have h1 := h.s; have h2 : k = g := e; rcases hk with h | h <;> omega), h.d.ext X (fun k hk e => by have h2 : k = g := e; omega), h.s⟩
theorem at_set2 {w : World} {s : Nat} {v0 v1 v : Value} {p : Addr} (h : w.cell? p = some v) (hp : p.block ≠ s) : ((w.setCell ⟨s, 0, none⟩ v0).setCell ⟨s, 1, none⟩ v1).cell? p = some v :=
  Ext.cl ((ext1 w s 0 v0).trans (ext1 _ s 1 v1)) h hp
set_option maxRecDepth 100000 in
set_option maxHeartbeats 2000000 in
theorem specSomeBody (B g : Nat) (p : Int) (w : World) (hr : Rdx w B g p) (hBw : B ≤ w.heap.size) (hp : p ≤ 400000000000) :
    Calls Try.prog 65 #[.pointer (some ⟨g, 0, none⟩)] w fun e w' => ∃ (ds : List DeclL) (fs : List FuncL) (a0 : Option Addr) (n0 c0 sF m k : Nat) (q : Int), e = .returned (.tuple #[.agg #[.slice a0 n0 c0, (.slice (some ⟨sF, 0, none⟩) m 4)], .int .i64 (k : Int)]) ∧ GoodP ds fs ∧ OwnP w.heap.size w' ds fs a0 n0 c0 sF m 4 ∧ k < m ∧ Rdx w' B g q ∧ q ≤ p + 300000001 ∧ Ext (· = g) w w' := by
  refine calls_k fun Q hQ => ?_
  have HPP := Lib.hid hp
  have hgB := hr.gB
  have K1 := Keep.al w (.cells #[.slice none 0 0, .slice none 0 0] 50)
  have R0 := Lib.hid (hr.keep K1)
  have X0 := Lib.hid (Keep.to (S := (· = g)) K1)
  have B0 := Lib.hid (Px.born w (.slice none 0 0) (.slice none 0 0))
  have hz0 : (w.alloc (.cells #[.slice none 0 0, .slice none 0 0] 50)).heap.size = w.heap.size + 1 := World.size_alloc _ _
  clear hr K1 hp
  go_enter Try.func65, Try.ntmps65
  go_upto_region 1 with fail
  generalize hW : w.alloc (.cells #[.slice none 0 0, .slice none 0 0] 50) = W1 at *
  clear hW
  go_wp2_with fail
  refine (specGoodProgram B g p W1 R0.out (by omega) (by have := HPP.out; omega)).mono ?_
  rintro e w1 ⟨ds, fs, a0, n0, c0, sF, m, q, rfl, hGP, hO, r1, hq, x1⟩
  have hs1 := x1.size
  have HGP := Lib.hid hGP
  have HQ := Lib.hid hq
  have hm2 : 2 ≤ m ∧ m ≤ 4 := by
    obtain ⟨_, _, _, _, _, _, _, _, _, _, _, _, _, _, e, _⟩ := tabO_at hO.f (k := 0) (by have := hGP.two; omega)
    have h1 := hGP.two
    have h2 := hGP.g.len
    omega
  have hsF := (hO.f.bound sF rfl).2
  have K2 := Keep.al w1 (.cells #[.slice a0 n0 c0, .slice (some ⟨sF, 0, none⟩) m 4] 50)
  have hz2 : (w1.alloc (.cells #[.slice a0 n0 c0, .slice (some ⟨sF, 0, none⟩) m 4] 50)).heap.size = w1.heap.size + 1 := World.size_alloc _ _
  have HO := Lib.hid (hO.k K2)
  have RR := Lib.hid (r1.keep K2)
  have X := Lib.hid ((X0.out.trans x1).trans (Keep.to K2))
  have BR := Lib.hid ((B0.out.ext x1 (by omega)).k K2)
  have B4 := Lib.hid (Px.born w1 (.slice a0 n0 c0) (.slice (some ⟨sF, 0, none⟩) m 4))
  clear hGP hO r1 x1 hq R0 X0 B0 K2
  go_upto_region 2 with fail
  generalize hW : w1.alloc (.cells #[.slice a0 n0 c0, .slice (some ⟨sF, 0, none⟩) m 4] 50) = wq at *
  clear hW
  generalize hS : w1.heap.size = s4 at *
  clear hS
  have h4g : s4 ≠ g := by omega
  have h4w : s4 ≠ w.heap.size := by omega
  have KD : Keep wq wq.drew := (Ext.refl (fun _ => False) wq).drew
  replace HO := Lib.hid (HO.out.k KD)
  replace RR := Lib.hid (RR.out.keep KD)
  replace X := Lib.hid (X.out.trans (Keep.to KD))
  replace BR := Lib.hid (BR.out.k KD)
  have x0 : wq.drew.cell? ⟨s4, 0, none⟩ = some (.slice a0 n0 c0) := B4.out.x0
  have x1 : wq.drew.cell? ⟨s4, 1, none⟩ = some (.slice (some ⟨sF, 0, none⟩) m 4) := B4.out.x1
  have hdz : wq.heap.size ≤ wq.drew.heap.size := Nat.le_refl _
  have hz1 : w.heap.size + 1 ≤ W1.heap.size := by omega
  clear B4 KD hz0
  refine wp_region_held_drew (S := fun w' => w'.cell? ⟨s4, 0, none⟩ = some (.slice a0 n0 c0) ∧ w'.cell? ⟨s4, 1, none⟩ = some (.slice (some ⟨sF, 0, none⟩) m 4)) (by kernel_rfl) ⟨x0, x1⟩ (fun hHeld => ?_)
  have pc : Hid (Ext (· = g) wq.drew wq.drew) := Ext.refl _ _
  generalize wq.drew = W0 at *
  refine wT 0 hHeld ?_
  try go_frame
  refine wT 1 hHeld ?_
  try go_frame
  refine wT 2 hHeld ?_
  try go_frame
  refine wT 3 hHeld ?_
  try go_frame
  refine wT 4 hHeld ?_
  try go_frame
  refine wO 5 (fun K hK => ?_)
  go_simp
  go_at_call 67
  refine (pickX B g q m W0 RR.out (by have := HPP.out; have := HQ.out; omega) (by omega)).mono ?_
  rintro e y1 ⟨v, rfl, hv, _, r6, xi⟩
  replace pc := Lib.hid (pc.out.trans xi)
  replace HO := Lib.hid (HO.out.g xi (by omega))
  replace BR := Lib.hid (BR.out.e xi (by omega))
  replace RR := Lib.hid r6
  obtain ⟨hv0, hv1⟩ := hv (by omega)
  obtain ⟨k, rfl⟩ := Int.eq_ofNat_of_zero_le hv0
  clear hv r6 xi
  refine hK.out _ _ ⟨pc.out.at x0 h4g, pc.out.at x1 h4g⟩ (fun hHeld => ?_)
  clear hK K
  try go_frame
  refine wO 6 (fun K hK => ?_)
  have d0 := BR.out.x0
  have d1 := BR.out.x1
  have g0 := BR.out.f0
  have g1 := BR.out.f1
  go_simp
  refine hK.out _ _ ⟨at_set2 (pc.out.at x0 h4g) h4w, at_set2 (pc.out.at x1 h4g) h4w⟩ (fun hHeld => ?_)
  clear hK K
  try go_frame
  refine wT 7 hHeld ?_
  try go_frame
  refine wpAnyH_done (by kernel_rfl) ?_ _
  have u0 := BR.out.x0
  have u1 := BR.out.x1
  have Y := (ext1 y1 w.heap.size 0 (.slice a0 n0 c0)).trans (ext1 _ w.heap.size 1 (.slice (some ⟨sF, 0, none⟩) m 4))
  have hsl := HO.out.s
  have O9 : Hid (OwnP w.heap.size ((y1.setCell ⟨w.heap.size, 0, none⟩ (.slice a0 n0 c0)).setCell ⟨w.heap.size, 1, none⟩ (.slice (some ⟨sF, 0, none⟩) m 4)) ds fs a0 n0 c0 sF m 4) :=
    ⟨(HO.out.f.extO Y (fun k hk h => by omega) (fun k hk h => by have := Option.some.inj hk; change sF = k at this; omega)).mono (fun k hk => by omega), (HO.out.d.ext Y (fun k hk h => by omega)).mono (fun k hk => by omega), by omega⟩
  have R9 := Lib.hid (RR.out.ext Y (fun k hk h => by omega))
  have X9 := Lib.hid ((X.out.trans pc.out).then_ Y (fun k hk h => by omega))
  go_wp2_with fail
  refine bodyPost_ret (v := .tuple #[.agg #[.slice a0 n0 c0, (.slice (some ⟨sF, 0, none⟩) m 4)], .int .i64 (k : Int)]) (by simp [results, Try.results65, go_sem, u0, u1]) rfl (fin_ hQ ?_)
  exact ⟨ds, fs, a0, n0, c0, sF, m, k, q + 1, rfl, HGP.out, O9.out, by omega, R9.out, by have := HQ.out; omega, X9.out⟩

end Go.Proofs.Ytaeddcnakilnlaa
/- What the laws draw: expressions, with numbers; programs, with a number. -/
namespace Go.Proofs.Ytaeddcnakilnlaa
open Go.RowKit

set_option maxRecDepth 100000 in
set_option maxHeartbeats 2000000 in
theorem DrawValidProgram_any (a : Option Addr) (len cap : Nat) (z : Nat → Int) (w : World) (h : Byt w a len z) (hlc : len ≤ cap) (hl : len ≤ 1048576) :
    Calls Try.prog 28 #[.slice a len cap] w fun e w' => ∃ (ds : List DeclL) (fs : List FuncL) (a0 : Option Addr) (n0 c0 : Nat) (a1 : Option Addr) (n1 c1 : Nat), e = .returned (.agg #[.slice a0 n0 c0, .slice a1 n1 c1]) ∧ Rd w' (fun k => w.heap.size ≤ k) (encDecls ds) (.slice a0 n0 c0) ∧ Rd w' (fun k => w.heap.size ≤ k) (encFuncs fs) (.slice a1 n1 c1) ∧ fitQ fs ∧ Keep w w' := by
  refine calls_k fun Q hQ => ?_
  have K1 := Keep.al w (.cells #[.slice none 0 0, .slice none 0 0] 50)
  have h1 := Lib.hid (h.ext K1 (fun _ _ _ h => h))
  have hz0 : (w.alloc (.cells #[.slice none 0 0, .slice none 0 0] 50)).heap.size = w.heap.size + 1 := World.size_alloc _ _
  have BR0 := Lib.hid (Px.born w (.slice none 0 0) (.slice none 0 0))
  have KK := Lib.hid K1
  clear h K1
  go_enter Try.func28, Try.ntmps28
  go_upto_region 1 with fail
  generalize hW : w.alloc (.cells #[.slice none 0 0, .slice none 0 0] 50) = W1 at *
  clear hW
  go_wp2_with fail
  refine (newReaderX a len cap z W1 h1.out hlc hl).mono ?_
  rintro e w1 ⟨g, hg, rfl, r1, k1⟩
  have hs1 := k1.size
  have hgB := r1.gB
  have BR1 := Lib.hid (BR0.out.k k1)
  clear BR0
  have KK1 := Lib.hid (KK.out.trans k1)
  clear KK h1 k1
  go_wp2_with fail
  refine (specAnyProgram w1.heap.size g 0 w1 r1 (Nat.le_refl _) (by omega)).mono ?_
  rintro e w2 ⟨ds, fs, a0, n0, c0, a1, n1, c1, q, rfl, rd, rf, hf, r2, hq, x2⟩
  have hs2 := x2.size
  have BR := Lib.hid (BR1.out.e x2 (fun h => by rcases h with h | h; omega; exact h.elim))
  have u0 := BR.out.x0
  have u1 := BR.out.x1
  have g0 := BR.out.f0
  have g1 := BR.out.f1
  have Y := (ext1 w2 w.heap.size 0 (.slice a0 n0 c0)).trans (ext1 _ w.heap.size 1 (.slice a1 n1 c1))
  have RD1 := Lib.hid (rd.ext Y (fun k hk h => by omega))
  have RF1 := Lib.hid (rf.ext Y (fun k hk h => by omega))
  have KE := Lib.hid ((KK1.out.then_ x2 (fun k hk h => by rcases h with h | h; omega; exact h.elim)).then_ Y (fun k hk h => by omega))
  have HF := Lib.hid hf
  clear rd rf hf r2 hq x2 r1
  go_wp2_with fail
  refine bodyPost_ret (v := .agg #[.slice a0 n0 c0, .slice a1 n1 c1]) (by simp [results, Try.results28, go_sem, u0, u1]) rfl (fin_ hQ ?_)
  exact ⟨ds, fs, a0, n0, c0, a1, n1, c1, rfl, RD1.out.mono (fun k hk => by omega), RF1.out.mono (fun k hk => by omega), HF.out, KE.out⟩

set_option maxRecDepth 100000 in
set_option maxHeartbeats 2000000 in
theorem DrawCalleesOf_any (a : Option Addr) (len cap : Nat) (z : Nat → Int) (w : World) (h : Byt w a len z) (hlc : len ≤ cap) (hl : len ≤ 1048576) :
    Calls Try.prog 37 #[.slice a len cap] w fun e w' => ∃ (ds : List DeclL) (fs : List FuncL) (a0 : Option Addr) (n0 c0 : Nat) (a1 : Option Addr) (n1 c1 : Nat) (v1 : Int), e = .returned (.tuple #[.agg #[.slice a0 n0 c0, .slice a1 n1 c1], .int .i64 v1]) ∧ Rd w' (fun k => w.heap.size ≤ k) (encDecls ds) (.slice a0 n0 c0) ∧ Rd w' (fun k => w.heap.size ≤ k) (encFuncs fs) (.slice a1 n1 c1) ∧ fitQ fs ∧ Keep w w' := by
  refine calls_k fun Q hQ => ?_
  have K1 := Keep.al w (.cells #[.slice none 0 0, .slice none 0 0] 50)
  have h1 := Lib.hid (h.ext K1 (fun _ _ _ h => h))
  have hz0 : (w.alloc (.cells #[.slice none 0 0, .slice none 0 0] 50)).heap.size = w.heap.size + 1 := World.size_alloc _ _
  have BR0 := Lib.hid (Px.born w (.slice none 0 0) (.slice none 0 0))
  have KK := Lib.hid K1
  clear h K1
  go_enter Try.func37, Try.ntmps37
  go_upto_region 1 with fail
  generalize hW : w.alloc (.cells #[.slice none 0 0, .slice none 0 0] 50) = W1 at *
  clear hW
  go_wp2_with fail
  refine (newReaderX a len cap z W1 h1.out hlc hl).mono ?_
  rintro e w1 ⟨g, hg, rfl, r1, k1⟩
  have hs1 := k1.size
  have hgB := r1.gB
  have BR1 := Lib.hid (BR0.out.k k1)
  clear BR0
  have KK1 := Lib.hid (KK.out.trans k1)
  clear KK h1 k1
  go_wp2_with fail
  refine (specAnyProgram w1.heap.size g 0 w1 r1 (Nat.le_refl _) (by omega)).mono ?_
  rintro e w2 ⟨ds, fs, a0, n0, c0, a1, n1, c1, q, rfl, rd, rf, hf, r2, hq, x2⟩
  have hs2 := x2.size
  have K2 := Keep.al w2 (.cells #[.slice a0 n0 c0, .slice a1 n1 c1] 50)
  have RR := Lib.hid (r2.keep K2)
  have HQ : Hid (q ≤ 400000000) := by show _ ≤ _; omega
  have X := Lib.hid (x2.trans (Keep.to K2))
  have BR := Lib.hid ((BR1.out.e x2 (fun h => by rcases h with h | h; omega; exact h.elim)).k K2)
  have B5 := Lib.hid (Px.born w2 (.slice a0 n0 c0) (.slice a1 n1 c1))
  have RDD := Lib.hid (rd.k K2)
  have RFF := Lib.hid (rf.k K2)
  have HF := Lib.hid hf
  clear rd rf hf r2 hq x2 K2 BR1 r1
  go_upto_region 3 with fail
  generalize hW : w2.alloc (.cells #[.slice a0 n0 c0, .slice a1 n1 c1] 50) = wq at *
  clear hW
  generalize hS : w2.heap.size = s5 at *
  clear hS
  have h5g : s5 ≠ g := by omega
  have h5w : s5 ≠ w.heap.size := by omega
  have KD : Keep wq wq.drew := (Ext.refl (fun _ => False) wq).drew
  replace RR := Lib.hid (RR.out.keep KD)
  replace X := Lib.hid (X.out.trans (Keep.to KD))
  replace BR := Lib.hid (BR.out.k KD)
  replace RDD := Lib.hid (RDD.out.k KD)
  replace RFF := Lib.hid (RFF.out.k KD)
  have e0 : wq.drew.cell? ⟨s5, 0, none⟩ = some (.slice a0 n0 c0) := B5.out.x0
  have e1 : wq.drew.cell? ⟨s5, 1, none⟩ = some (.slice a1 n1 c1) := B5.out.x1
  have hws := X.out.size
  clear KD
  refine wp_region_held_drew (S := fun w' => w'.cell? ⟨s5, 0, none⟩ = some (.slice a0 n0 c0) ∧ w'.cell? ⟨s5, 1, none⟩ = some (.slice a1 n1 c1)) (by kernel_rfl) ⟨e0, e1⟩ (fun hHeld => ?_)
  have pc : Hid (Ext (· = g) wq.drew wq.drew) := Ext.refl _ _
  generalize wq.drew = W0 at *
  refine wT 0 hHeld ?_
  try go_frame
  refine wT 1 hHeld ?_
  try go_frame
  refine wO 2 (fun K hK => ?_)
  go_simp
  obtain ⟨sy1, hsy1⟩ : ∃ s, s = W0.heap.size := ⟨_, rfl⟩
  obtain ⟨y1, hW⟩ : ∃ N, N = W0.alloc (.cells #[.int .i64 0, .int .i64 1, .int .i64 2, .int .i64 3, .int .i64 0, .int .i64 (-1), .int .i64 4] 3) := ⟨_, rfl⟩
  rw [← hsy1, ← hW]
  have kk : Keep W0 y1 := by rw [hW]; exact Keep.al _ _
  have hzy1 : W0.heap.size + 1 ≤ y1.heap.size := by rw [hW]; exact Nat.le_of_eq (World.size_alloc _ _).symm
  have hisy1 : W0.heap.size ≤ sy1 := by omega
  have hpz := pc.out.size
  have TY : Hid (Rd y1 (fun k => k ≠ g) (encInts [0, 1, 2, 3, 0, -1, 4]) (.slice (some ⟨sy1, 0, none⟩) 7 7)) := by
    rw [hW, hsy1]
    exact lit_intsD W0 (fun k => k ≠ g) 3 [0, 1, 2, 3, 0, -1, 4] #[.int .i64 0, .int .i64 1, .int .i64 2, .int .i64 3, .int .i64 0, .int .i64 (-1), .int .i64 4] 7 (by omega) rfl rfl (by omega)
  replace pc := Lib.hid (pc.out.trans (Keep.to kk))
  replace BR := Lib.hid (BR.out.k kk)
  replace RDD := Lib.hid (RDD.out.k kk)
  replace RFF := Lib.hid (RFF.out.k kk)
  replace RR := Lib.hid (RR.out.keep kk)
  clear kk hW hsy1
  clear hpz
  refine hK.out _ _ ⟨pc.out.at e0 h5g, pc.out.at e1 h5g⟩ (fun hHeld => ?_)
  clear hK K
  try go_frame
  refine wO 3 (fun K hK => ?_)
  go_simp
  go_at_call 69
  refine (oneX w1.heap.size g _ _ 7 7 [0, 1, 2, 3, 0, -1, 4] (fun k => k ≠ g) y1 RR.out (by have := HQ.out; omega) TY.out.toInts (by omega) (by omega) (fun h => h rfl)).mono ?_
  rintro e y2 ⟨v1, hv, rfl, r6, xi⟩
  replace pc := Lib.hid (pc.out.trans xi)
  replace BR := Lib.hid (BR.out.e xi (by omega))
  replace RDD := Lib.hid (RDD.out.ext xi (fun k hk => by omega))
  replace RFF := Lib.hid (RFF.out.ext xi (fun k hk => by omega))
  replace TY := Lib.hid (TY.out.ext xi (fun k hk => by omega))
  replace RR := Lib.hid r6
  have HVv1 := Lib.hid hv
  clear hv r6 xi
  refine hK.out _ _ ⟨pc.out.at e0 h5g, pc.out.at e1 h5g⟩ (fun hHeld => ?_)
  clear hK K
  try go_frame
  refine wO 4 (fun K hK => ?_)
  have d0 := BR.out.x0
  have d1 := BR.out.x1
  have g0 := BR.out.f0
  have g1 := BR.out.f1
  go_simp
  refine hK.out _ _ ⟨at_set2 (pc.out.at e0 h5g) h5w, at_set2 (pc.out.at e1 h5g) h5w⟩ (fun hHeld => ?_)
  clear hK K
  try go_frame
  refine wT 5 hHeld ?_
  try go_frame
  refine wpAnyH_done (by kernel_rfl) ?_ _
  have u0 := BR.out.x0
  have u1 := BR.out.x1
  have Y := (ext1 y2 w.heap.size 0 (.slice a0 n0 c0)).trans (ext1 _ w.heap.size 1 (.slice a1 n1 c1))
  have RE := Lib.hid (RDD.out.ext Y (fun k hk h => by omega))
  have RG := Lib.hid (RFF.out.ext Y (fun k hk h => by omega))
  have KE := Lib.hid (((KK1.out.then_ X.out (fun k hk h => by rcases h with h | h; omega; exact h.elim)).then_ pc.out (fun k hk h => by omega)).then_ Y (fun k hk h => by omega))
  go_wp2_with fail
  refine bodyPost_ret (v := .tuple #[.agg #[.slice a0 n0 c0, .slice a1 n1 c1], .int .i64 v1]) (by simp [results, Try.results37, go_sem, u0, u1]) rfl (fin_ hQ ?_)
  exact ⟨ds, fs, a0, n0, c0, a1, n1, c1, v1, rfl, RE.out.mono (fun k hk => by omega), RG.out.mono (fun k hk => by omega), HF.out, KE.out⟩

set_option maxRecDepth 100000 in
set_option maxHeartbeats 2000000 in
theorem DrawReachedFrom_any (a : Option Addr) (len cap : Nat) (z : Nat → Int) (w : World) (h : Byt w a len z) (hlc : len ≤ cap) (hl : len ≤ 1048576) :
    Calls Try.prog 44 #[.slice a len cap] w fun e w' => ∃ (ds : List DeclL) (fs : List FuncL) (a0 : Option Addr) (n0 c0 : Nat) (a1 : Option Addr) (n1 c1 : Nat) (v1 : Int), e = .returned (.tuple #[.agg #[.slice a0 n0 c0, .slice a1 n1 c1], .int .i64 v1]) ∧ Rd w' (fun k => w.heap.size ≤ k) (encDecls ds) (.slice a0 n0 c0) ∧ Rd w' (fun k => w.heap.size ≤ k) (encFuncs fs) (.slice a1 n1 c1) ∧ fitQ fs ∧ Keep w w' := by
  refine calls_k fun Q hQ => ?_
  have K1 := Keep.al w (.cells #[.slice none 0 0, .slice none 0 0] 50)
  have h1 := h.ext K1 (fun _ _ _ h => h)
  have BR0 := Lib.hid (Px.born w (.slice none 0 0) (.slice none 0 0))
  clear h
  go_enter Try.func44, Try.ntmps44
  go_wp2_with fail
  refine (DrawCalleesOf_any a len cap z _ h1 hlc hl).mono ?_
  rintro e w2 ⟨ds, fs, a0, n0, c0, a1, n1, c1, v1, rfl, rd, rf, hf, k2⟩
  have BR := Lib.hid (BR0.out.k k2)
  have u0 := BR.out.x0
  have u1 := BR.out.x1
  have g0 := BR.out.f0
  have g1 := BR.out.f1
  have Y := (ext1 w2 w.heap.size 0 (.slice a0 n0 c0)).trans (ext1 _ w.heap.size 1 (.slice a1 n1 c1))
  have hz0 : (w.alloc (.cells #[.slice none 0 0, .slice none 0 0] 50)).heap.size = w.heap.size + 1 := World.size_alloc _ _
  have RD1 := Lib.hid (rd.ext Y (fun k hk h => by omega))
  have RF1 := Lib.hid (rf.ext Y (fun k hk h => by omega))
  have KE := Lib.hid ((K1.trans k2).then_ Y (fun k hk h => by omega))
  have HF := Lib.hid hf
  have HZ : ∀ k, (w.alloc (.cells #[.slice none 0 0, .slice none 0 0] 50)).heap.size ≤ k → w.heap.size ≤ k := fun k hk => by omega
  replace HZ := Lib.hid HZ
  clear rd rf hf k2 h1 K1 BR0 hz0
  go_wp2_with fail
  refine bodyPost_ret (v := .tuple #[.agg #[.slice a0 n0 c0, .slice a1 n1 c1], .int .i64 v1]) (by simp [results, Try.results44, go_sem, u0, u1]) rfl (fin_ hQ ?_)
  exact ⟨ds, fs, a0, n0, c0, a1, n1, c1, v1, rfl, RD1.out.mono (fun k hk => HZ.out k hk), RF1.out.mono (fun k hk => HZ.out k hk), HF.out, KE.out⟩

end Go.Proofs.Ytaeddcnakilnlaa
