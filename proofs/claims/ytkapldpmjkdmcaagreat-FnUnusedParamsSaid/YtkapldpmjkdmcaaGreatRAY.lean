/- What the laws draw: expressions, with numbers; programs, with a number. -/
import Derived.Test.YtkapldpmjkdmcaaGreatRAX
import Derived.Test.YtkapldpmjkdmcaaGreatRAC
import Derived.StillTailTactics
namespace Go.Proofs.YtkapldpmjkdmcaaGreat
open Go.RowKit

set_option maxRecDepth 100000 in
set_option maxHeartbeats 2000000 in
theorem DrawCalleesOf_any (a : Option Addr) (len cap : Nat) (z : Nat → Int) (w : World) (h : Byt w a len z) (hlc : len ≤ cap) (hl : len ≤ 1048576) :
    Calls Tryz.prog 57 #[.slice a len cap] w fun e w' => ∃ (ds : List DeclL) (fs : List FuncL) (a0 : Option Addr) (n0 c0 : Nat) (a1 : Option Addr) (n1 c1 : Nat) (v1 : Int), e = .returned (.tuple #[.agg #[.slice a0 n0 c0, .slice a1 n1 c1], .int .i64 v1]) ∧ Rd w' (fun k => w.heap.size ≤ k) (encDecls ds) (.slice a0 n0 c0) ∧ Rd w' (fun k => w.heap.size ≤ k) (encFuncs fs) (.slice a1 n1 c1) ∧ fitQ fs ∧ Keep w w' := by
  refine calls_k fun Q hQ => ?_
  have K1 := Keep.al w (.cells #[.slice none 0 0, .slice none 0 0] 44)
  have h1 := Lib.hid (h.ext K1 (fun _ _ _ h => h))
  have hz0 : (w.alloc (.cells #[.slice none 0 0, .slice none 0 0] 44)).heap.size = w.heap.size + 1 := World.size_alloc _ _
  have BR0 := Lib.hid (Px.born w (.slice none 0 0) (.slice none 0 0))
  have KK := Lib.hid K1
  clear h K1
  go_enter Tryz.func57, Tryz.ntmps57
  go_upto_region 1 with fail
  generalize hW : w.alloc (.cells #[.slice none 0 0, .slice none 0 0] 44) = W1 at *
  clear hW
  go_wp2_with fail
  refine (newReaderX a len cap z W1 h1.out hlc hl).mono ?_
  rintro e w1 ⟨g, hg, rfl, r1, k1⟩
  have hs1 := k1.size
  have hgB := r1.gB
  have BR1 := Lib.hid (BR0.out.k k1)
  clear BR0
  have KK1 := Lib.hid (KK.out.trans k1)
  clear KK h1 k1
  go_wp2_with fail
  refine (specAnyProgram w1.heap.size g 0 w1 r1 (Nat.le_refl _) (by omega)).mono ?_
  rintro e w2 ⟨ds, fs, a0, n0, c0, a1, n1, c1, q, rfl, rd, rf, hf, r2, hq, x2⟩
  have hs2 := x2.size
  have K2 := Keep.al w2 (.cells #[.slice a0 n0 c0, .slice a1 n1 c1] 44)
  have RR := Lib.hid (r2.keep K2)
  have HQ : Hid (q ≤ 400000000) := by show _ ≤ _; omega
  have X := Lib.hid (x2.trans (Keep.to K2))
  have BR := Lib.hid ((BR1.out.e x2 (fun h => by rcases h with h | h; omega; exact h.elim)).k K2)
  have B5 := Lib.hid (Px.born w2 (.slice a0 n0 c0) (.slice a1 n1 c1))
  have RDD := Lib.hid (rd.k K2)
  have RFF := Lib.hid (rf.k K2)
  have HF := Lib.hid hf
  clear rd rf hf r2 hq x2 K2 BR1 r1
  go_upto_region 3 with fail
  generalize hW : w2.alloc (.cells #[.slice a0 n0 c0, .slice a1 n1 c1] 44) = wq at *
  clear hW
  generalize hS : w2.heap.size = s5 at *
  clear hS
  have h5g : s5 ≠ g := by omega
  have h5w : s5 ≠ w.heap.size := by omega
  have KD : Keep wq wq.drew := (Ext.refl (fun _ => False) wq).drew
  replace RR := Lib.hid (RR.out.keep KD)
  replace X := Lib.hid (X.out.trans (Keep.to KD))
  replace BR := Lib.hid (BR.out.k KD)
  replace RDD := Lib.hid (RDD.out.k KD)
  replace RFF := Lib.hid (RFF.out.k KD)
  have e0 : wq.drew.cell? ⟨s5, 0, none⟩ = some (.slice a0 n0 c0) := B5.out.x0
  have e1 : wq.drew.cell? ⟨s5, 1, none⟩ = some (.slice a1 n1 c1) := B5.out.x1
  have hws := X.out.size
  clear KD
  refine wp_region_held_drew (S := fun w' => w'.cell? ⟨s5, 0, none⟩ = some (.slice a0 n0 c0) ∧ w'.cell? ⟨s5, 1, none⟩ = some (.slice a1 n1 c1)) (by kernel_rfl) ⟨e0, e1⟩ (fun hHeld => ?_)
  have pc : Hid (Ext (· = g) wq.drew wq.drew) := Ext.refl _ _
  generalize wq.drew = W0 at *
  refine wT 0 hHeld ?_
  try go_frame
  refine wT 1 hHeld ?_
  try go_frame
  refine wO 2 (fun K hK => ?_)
  go_simp
  obtain ⟨sy1, hsy1⟩ : ∃ s, s = W0.heap.size := ⟨_, rfl⟩
  obtain ⟨y1, hW⟩ : ∃ N, N = W0.alloc (.cells #[.int .i64 0, .int .i64 1, .int .i64 2, .int .i64 3, .int .i64 0, .int .i64 (-1), .int .i64 4] 3) := ⟨_, rfl⟩
  rw [← hsy1, ← hW]
  have kk : Keep W0 y1 := by rw [hW]; exact Keep.al _ _
  have hzy1 : W0.heap.size + 1 ≤ y1.heap.size := by rw [hW]; exact Nat.le_of_eq (World.size_alloc _ _).symm
  have hisy1 : W0.heap.size ≤ sy1 := by omega
  have hpz := pc.out.size
  have TY : Hid (Rd y1 (fun k => k ≠ g) (encInts [0, 1, 2, 3, 0, -1, 4]) (.slice (some ⟨sy1, 0, none⟩) 7 7)) := by
    rw [hW, hsy1]
    exact lit_intsD W0 (fun k => k ≠ g) 3 [0, 1, 2, 3, 0, -1, 4] #[.int .i64 0, .int .i64 1, .int .i64 2, .int .i64 3, .int .i64 0, .int .i64 (-1), .int .i64 4] 7 (by omega) rfl rfl (by omega)
  replace pc := Lib.hid (pc.out.trans (Keep.to kk))
  replace BR := Lib.hid (BR.out.k kk)
  replace RDD := Lib.hid (RDD.out.k kk)
  replace RFF := Lib.hid (RFF.out.k kk)
  replace RR := Lib.hid (RR.out.keep kk)
  clear kk hW hsy1
  clear hpz
  refine hK.out _ _ ⟨pc.out.at e0 h5g, pc.out.at e1 h5g⟩ (fun hHeld => ?_)
  clear hK K
  try go_frame
  refine wO 3 (fun K hK => ?_)
  go_simp
  go_at_call 112
  refine (oneX w1.heap.size g _ _ 7 7 [0, 1, 2, 3, 0, -1, 4] (fun k => k ≠ g) y1 RR.out (by have := HQ.out; omega) TY.out.toInts (by omega) (by omega) (fun h => h rfl)).mono ?_
  rintro e y2 ⟨v1, hv, rfl, r6, xi⟩
  replace pc := Lib.hid (pc.out.trans xi)
  replace BR := Lib.hid (BR.out.e xi (by omega))
  replace RDD := Lib.hid (RDD.out.ext xi (fun k hk => by omega))
  replace RFF := Lib.hid (RFF.out.ext xi (fun k hk => by omega))
  replace TY := Lib.hid (TY.out.ext xi (fun k hk => by omega))
  replace RR := Lib.hid r6
  have HVv1 := Lib.hid hv
  clear hv r6 xi
  refine hK.out _ _ ⟨pc.out.at e0 h5g, pc.out.at e1 h5g⟩ (fun hHeld => ?_)
  clear hK K
  try go_frame
  refine wO 4 (fun K hK => ?_)
  have d0 := BR.out.x0
  have d1 := BR.out.x1
  have g0 := BR.out.f0
  have g1 := BR.out.f1
  go_simp
  refine hK.out _ _ ⟨at_set2 (pc.out.at e0 h5g) h5w, at_set2 (pc.out.at e1 h5g) h5w⟩ (fun hHeld => ?_)
  clear hK K
  try go_frame
  refine wT 5 hHeld ?_
  try go_frame
  refine wpAnyH_done (by kernel_rfl) ?_ _
  have u0 := BR.out.x0
  have u1 := BR.out.x1
  have Y := (ext1 y2 w.heap.size 0 (.slice a0 n0 c0)).trans (ext1 _ w.heap.size 1 (.slice a1 n1 c1))
  have RE := Lib.hid (RDD.out.ext Y (fun k hk h => by omega))
  have RG := Lib.hid (RFF.out.ext Y (fun k hk h => by omega))
  have KE := Lib.hid (((KK1.out.then_ X.out (fun k hk h => by rcases h with h | h; omega; exact h.elim)).then_ pc.out (fun k hk h => by omega)).then_ Y (fun k hk h => by omega))
  go_wp2_with fail
  refine bodyPost_ret (v := .tuple #[.agg #[.slice a0 n0 c0, .slice a1 n1 c1], .int .i64 v1]) (by simp [results, Tryz.results57, go_sem, u0, u1]) rfl (fin_ hQ ?_)
  exact ⟨ds, fs, a0, n0, c0, a1, n1, c1, v1, rfl, RE.out.mono (fun k hk => by omega), RG.out.mono (fun k hk => by omega), HF.out, KE.out⟩


set_option maxRecDepth 100000 in
set_option maxHeartbeats 2000000 in
theorem DrawUnusedParams_any (a : Option Addr) (len cap : Nat) (z : Nat → Int) (w : World) (h : Byt w a len z) (hlc : len ≤ cap) (hl : len ≤ 1048576) :
    Calls Tryz.prog 20 #[.slice a len cap] w fun e w' => ∃ (ds : List DeclL) (fs : List FuncL) (a0 : Option Addr) (n0 c0 : Nat) (a1 : Option Addr) (n1 c1 : Nat) (v1 : Int), e = .returned (.tuple #[.agg #[.slice a0 n0 c0, .slice a1 n1 c1], .int .i64 v1]) ∧ Rd w' (fun k => w.heap.size ≤ k) (encDecls ds) (.slice a0 n0 c0) ∧ Rd w' (fun k => w.heap.size ≤ k) (encFuncs fs) (.slice a1 n1 c1) ∧ fitQ fs ∧ Keep w w' := by
  refine calls_k fun Q hQ => ?_
  have K1 := Keep.al w (.cells #[.slice none 0 0, .slice none 0 0] 44)
  have h1 := h.ext K1 (fun _ _ _ h => h)
  have BR0 := Lib.hid (Px.born w (.slice none 0 0) (.slice none 0 0))
  clear h
  go_enter Tryz.func20, Tryz.ntmps20
  go_wp2_with fail
  refine (DrawCalleesOf_any a len cap z _ h1 hlc hl).mono ?_
  rintro e w2 ⟨ds, fs, a0, n0, c0, a1, n1, c1, v1, rfl, rd, rf, hf, k2⟩
  have BR := Lib.hid (BR0.out.k k2)
  have u0 := BR.out.x0
  have u1 := BR.out.x1
  have g0 := BR.out.f0
  have g1 := BR.out.f1
  have Y := (ext1 w2 w.heap.size 0 (.slice a0 n0 c0)).trans (ext1 _ w.heap.size 1 (.slice a1 n1 c1))
  have hz0 : (w.alloc (.cells #[.slice none 0 0, .slice none 0 0] 44)).heap.size = w.heap.size + 1 := World.size_alloc _ _
  have RD1 := Lib.hid (rd.ext Y (fun k hk h => by omega))
  have RF1 := Lib.hid (rf.ext Y (fun k hk h => by omega))
  have KE := Lib.hid ((K1.trans k2).then_ Y (fun k hk h => by omega))
  have HF := Lib.hid hf
  have HZ : ∀ k, (w.alloc (.cells #[.slice none 0 0, .slice none 0 0] 44)).heap.size ≤ k → w.heap.size ≤ k := fun k hk => by omega
  replace HZ := Lib.hid HZ
  clear rd rf hf k2 h1 K1 BR0 hz0
  go_wp2_with fail
  refine bodyPost_ret (v := .tuple #[.agg #[.slice a0 n0 c0, .slice a1 n1 c1], .int .i64 v1]) (by simp [results, Tryz.results20, go_sem, u0, u1]) rfl (fin_ hQ ?_)
  exact ⟨ds, fs, a0, n0, c0, a1, n1, c1, v1, rfl, RD1.out.mono (fun k hk => HZ.out k hk), RF1.out.mono (fun k hk => HZ.out k hk), HF.out, KE.out⟩
end Go.Proofs.YtkapldpmjkdmcaaGreat
/- The laws' comparisons: integers, constructors, declarations. -/
namespace Go.Proofs.YtkapldpmjkdmcaaGreat
open Go.RowKit

theorem ints_eq {xs ys : List Int} {n : Nat} (hx : xs.length = n) (hy : ys.length = n) (h : ∀ i, i < n → iAt xs i = iAt ys i) : xs = ys := by
  refine List.ext_getElem (by omega) fun i h1 h2 => ?_
  rw [← iAt_eq h1, ← iAt_eq h2]
  exact h i (by omega)
set_option maxHeartbeats 400000 in
theorem equalInts_law (a : Option Addr) (n c : Nat) (a' : Option Addr) (m c' : Nat) (xs ys : List Int) (D D' : Nat → Prop) (w : World) (h : IntsL w D a n xs) (h' : IntsL w D' a' m ys) (hn : n ≤ 1099511627776) :
    Calls Tryz.prog 22 #[.slice a n c, .slice a' m c'] w fun e w' => e = .returned (.bool (decide (xs = ys))) ∧ Keep w w' := by
  refine calls_k fun Q hQ => ?_
  have HX := Lib.hid h.1
  have HY := Lib.hid h'.1
  by_cases hnm : n = m
  · subst hnm
    go_enter Tryz.func22, Tryz.ntmps22
    go_wp2
    go_loopw [5] (fun i wr => ∃ k : Nat, k ≤ n ∧ i = .int .i64 k ∧ Hid (∀ j, j < k → iAt xs j = iAt ys j) ∧ Keep w wr) (fun i _ => n - (intOf i).toNat)
    case atStart => exact ⟨0, Nat.zero_le _, rfl, fun j hj => absurd hj (by omega), Ext.refl _ _⟩
    case round =>
      obtain ⟨k, hk, rfl, H, hK⟩ := hrel
      by_cases hlt : k < n
      · obtain ⟨b, o, rfl, hd, hc⟩ := (h.ext hK (fun _ _ h => h)).2 (by omega)
        obtain ⟨b', o', rfl, hd', hc'⟩ := (h'.ext hK (fun _ _ h => h)).2 (by omega)
        have c0 := hc k hlt
        have c1 := hc' k hlt
        clear hc hc' h h'
        cases hv : (iAt xs k != iAt ys k)
        · have V : Hid (iAt xs k = iAt ys k) := by show _ = _; simpa using hv
          go_wp2
          go_quiet (fail)
          go_wp2
          go_roundw
          case rel => exact ⟨k + 1, by omega, by go_num, fun j hj => by
            rcases Nat.lt_succ_iff_lt_or_eq.1 hj with h | rfl
            · exact H.out j h
            · exact V.out, hK.drewN nq⟩
          case measure => simp [intOf]; omega
        · have V : Hid (iAt xs k ≠ iAt ys k) := by show _ ≠ _; simpa using hv
          go_wp2
          go_quiet (fail)
          go_wp2
          exact fin_ hQ ⟨ret_b (decide_eq_false (fun e => V.out (by rw [e]))).symm, hK.drewN nq⟩
      · go_wp2
        exact fin_ hQ ⟨ret_b (decide_eq_true (ints_eq HX.out HY.out (fun i hi => H.out i (by omega)))).symm, hK⟩
  · have hne : ((n : Int) != (m : Int)) = true := by simp; omega
    go_enter Tryz.func22, Tryz.ntmps22
    go_wp2
    exact fin_ hQ ⟨ret_b (decide_eq_false (fun e => hnm (by rw [← HX.out, ← HY.out, e]))).symm, Ext.refl _ _⟩

def SmallC (cs : List (List Int)) : Prop := cs.length ≤ 1099511627776 ∧ ∀ i, i < cs.length → (cAt cs i).length ≤ 1099511627776
def SmallD (ds : List DeclL) : Prop := ds.length ≤ 1099511627776 ∧ ∀ i, i < ds.length → SmallC (dAt ds i).cons

theorem dAt_eta {d e : DeclL} : d = e ↔ d.from_ = e.from_ ∧ d.to_ = e.to_ ∧ d.cons = e.cons := by
  cases d; cases e; simp
instance : DecidableEq DeclL := fun _ _ => decidable_of_iff _ dAt_eta.symm

end Go.Proofs.YtkapldpmjkdmcaaGreat
