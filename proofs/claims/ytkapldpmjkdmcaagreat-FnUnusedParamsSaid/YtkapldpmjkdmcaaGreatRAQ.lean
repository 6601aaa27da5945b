/- The generator of programs: overList. -/
import Derived.Test.YtkapldpmjkdmcaaGreatRAP
namespace Go.Proofs.YtkapldpmjkdmcaaGreat
open Go.RowKit

set_option maxRecDepth 100000 in
set_option maxHeartbeats 8000000 in
theorem specOverList (ds : List DeclL) (fs : List FuncL) (B g k m : Nat) (hG : GoodG ds fs) (hk : k < fs.length) (hm : m < (fAt fs k).params.length) (p : Int) (a0 : Option Addr) (n0 c0 : Nat) (a1 : Option Addr) (n1 c1 : Nat) (w : World) (hpg : PG w g ds fs a0 n0 c0 a1 n1 c1) (hr : Rdx w B g p) (hBw : B ≤ w.heap.size) (hp : p + 6000 ≤ 900000000000) :
    Calls Tryz.prog 218 #[.pointer (some ⟨g, 0, none⟩), .agg #[.slice a0 n0 c0, .slice a1 n1 c1], .int .i64 (k : Int), .int .i64 (m : Int)] w (GenP B g p 5000 1000 w) := by
  refine calls_k fun Q hQ => ?_
  have HG := Lib.hid hG
  have HPP := Lib.hid hp
  have hgB := hr.gB
  have hgw : g < w.heap.size := by omega
  have G0 := Lib.hid (Gs.start hpg hr hBw)
  have hds := hG.len4
  have hfs := hG.len
  have hn0 : n0 ≤ 4 := by have := (decls_at hpg.d).1; omega
  have hn1 : n1 ≤ 4 := by have := (funcs_at hpg.f).1; omega
  obtain ⟨b, o, rfl, ⟨hbg, hbw⟩, ap, np, cp, ab, nb, cb, g0, g1, _, _, _, rp, _⟩ := (funcs_at hpg.f.lt).2.2.2 k (by have := (funcs_at hpg.f).1; omega)
  have hk1 : k < n1 := by have := (funcs_at hpg.f).1; omega
  have HC1 := Lib.hid g1
  have HV : Hid (Rd w (fun k => k ≠ g) (encInts (fAt fs k).params) (.slice ap np cp)) := rp.mono (fun k h => h.1)
  have SG := Lib.hid (hG.sig hk)
  have HPL := Lib.hid (ints_at rp).1
  have hnp3 : np ≤ 3 := by have := (hG.sig hk).1; have := (ints_at rp).1; omega
  have hmn : m < np := by have := (ints_at rp).1; omega
  have kk0 : (0 : Int) ≤ (k : Int) := by omega
  have kk1 : (k : Int) < (n1 : Int) := by omega
  have gg0 := at_al (o := .cells #[.int .i64 0, .int .i64 0, .slice none 0 0] 58) (at_al (o := .cells #[.slice a0 n0 c0, .slice (some ⟨b, o, none⟩) n1 c1] 44) g0)
  have hbne : ¬ b = w.heap.size := by omega
  have hbne1 : ¬ b = w.heap.size + 1 := by omega
  have hsum : IntKind.i64.wrap ((np : Int) + 1) = (np : Int) + 1 := IntWalk.i64_in _ (by omega)
  clear hG hpg hr hBw g0 g1 rp hp
  go_enter Tryz.func218, Tryz.ntmps218
  go_upto_region 3 with fail
  generalize hW : (w.alloc (.cells #[.slice a0 n0 c0, .slice (some ⟨b, o, none⟩) n1 c1] 44)).alloc (.cells #[.int .i64 0, .int .i64 0, .slice none 0 0] 58) = W1 at *
  clear hW gg0
  have hl1 := G0.out.lt
  have G1 := Lib.hid (G0.out.k (Keep.al W1 (.cells #[.int .i64 0, .int .i64 1] 3)))
  have TY := Lib.hid (lit_intsD W1 (fun k => k ≠ g) 3 [0, 1] #[.int .i64 0, .int .i64 1] 2 (by omega) rfl rfl (by omega))
  go_wp2_with fail
  refine (specExtend ap np cp (fAt fs k).params _ _ 2 2 [0, 1] _ _ (HV.out.g G1.out.x).toInts (by omega) TY.out.toInts (by omega)).mono ?_
  rintro e w2 ⟨ai, ni, ci, rfl, hni, hea, k2⟩
  obtain rfl : ni = np + 2 := (by have h1 := hea.1; have h2 := HPL.out; rw [List.length_append] at h1; simp at h1; omega)
  have hl2 : W1.heap.size + 1 ≤ w2.heap.size := by have := k2.size; simp at this; omega
  have G2 := Lib.hid (G1.out.k k2)
  have IN2 : Hid (Rd w2 (fun k => k ≠ g ∧ k < w2.heap.size) (encInts ((fAt fs k).params ++ [0, 1])) (.slice ai (np + 2) ci)) := (hea.read.toRd hni (by omega)).lt.mono (fun k hk => ⟨by have h1 := hk.1; simp only [World.size_alloc] at h1; omega, hk.2⟩)
  have A0 := Lib.hid (AccR.made w2 (fun k => w.heap.size + 2 ≤ k) 58 3)
  clear hea k2 TY G0 G1
  go_wp2_with fail
  go_loopw [12, 13] (fun ov iv wr => ∃ (j : Nat) (es : List ExprL) (q : Int), j ≤ np ∧ iv = .int .i64 j ∧ Hid (AccR wr w2.heap.size (fun k => w.heap.size + 2 ≤ k) 58 3 ov (es.map rowE)) ∧ Hid (es.length = j) ∧ Hid (allEs (gfit 1000) es) ∧ Hid (Rd wr (fun k => k ≠ g ∧ k < w2.heap.size) (encInts ((fAt fs k).params ++ [0, 1])) (.slice ai (np + 2) ci)) ∧ Hid (Gs w wr B g ds fs a0 n0 c0 (some ⟨b, o, none⟩) n1 c1 q) ∧ Hid (q ≤ p + (j : Int)) ∧ Hid (w2.heap.size ≤ wr.heap.size)) (fun _ i _ => np - (intOf i).toNat)
  case atStart => exact ⟨0, [], p, Nat.zero_le _, rfl, A0, rfl, trivial, IN2.out.k (Keep.al _ _), G2.out.k (Keep.al _ _), by show _ ≤ _; omega, by show _ ≤ _; simp⟩
  case round =>
    have hg2 := G2.out.lt
    clear A0 IN2 G2
    obtain ⟨j, es, q, hj, rfl, hA, hl, hes, hI, hS, hq, HB0⟩ := hrel
    by_cases hlt : j < np
    · have hlt3 : (j : Int) < (np : Int) := by omega
      have hlt4 : (0 : Int) ≤ (j : Int) := by omega
      have HLR : Hid ((es.map rowE).length ≤ 3) := by show _ ≤ _; rw [List.length_map]; have := hl.out; omega
      by_cases hjm : j = m
      · have t1 : ((j : Int) == (m : Int)) = true := by rw [hjm]; exact beq_self_eq_true _
        clear hjm
        go_wp2_with fail
        refine (specVariableG _ _).mono ?_
        rintro e w5 ⟨a5, c5, rfl, k5⟩
        have S5 := Lib.hid (hS.out.k k5)
        have A5 := Lib.hid (hA.out.keep k5)
        have I5 := Lib.hid (hI.out.k k5)
        have HBS : Hid (w2.heap.size ≤ w5.heap.size) := Nat.le_trans HB0.out k5.size
        clear k5
        have Sx := Lib.hid (S5.out.k (Keep.al w5 (.cells #[.int .i64 12, .int .i64 ((np : Int) + 1), .slice a5 0 c5] 58)))
        have Ax := Lib.hid (A5.out.keep (Keep.al w5 (.cells #[.int .i64 12, .int .i64 ((np : Int) + 1), .slice a5 0 c5] 58)))
        have Ix := Lib.hid (I5.out.k (Keep.al w5 (.cells #[.int .i64 12, .int .i64 ((np : Int) + 1), .slice a5 0 c5] 58)))
        have bnd := Lib.hid A5.out.bound
        have hlw := S5.out.lt
        have hzx : (w5.alloc (.cells #[.int .i64 12, .int .i64 ((np : Int) + 1), .slice a5 0 c5] 58)).heap.size = w5.heap.size + 1 := World.size_alloc _ _
        have hXl := Lib.hid (lit_expr w5 (fun k => w.heap.size + 2 ≤ k ∧ u12.ownBlock ≠ some k) 58 12 ((np : Int) + 1) [] a5 0 c5 ⟨by omega, fun e => by have := bnd.out _ e; omega⟩ (.nil 3 _ _))
        have hbs : w2.heap.size ≤ w5.heap.size := HBS.out
        go_wp2_with (at_builtin; go_must (refine wpList_appO _ rfl (.tmp 37) (.tmp 41) 56 rfl w2.heap.size 58 (.agg #[.int .i64 0, .int .i64 0, .slice none 0 0]) 3 40 Tryz.underlying56 (by kernel_rfl) rfl (by omega) (fun k => w.heap.size + 2 ≤ k) _ _ rfl Ax.out _ 1 1 _ _ rfl hXl.out (fun k _ hk => hk) (by have := HLR.out; omega) (by have := HLR.out; omega) (by omega) ?_); intro v7 w7 A7 xA hO7; have HZ7 : Hid (w2.heap.size ≤ w7.heap.size) := (by have := xA.size; show _ ≤ _; omega); have S7 := Lib.hid (Sx.out.e xA (fun k hk => (by have := (bnd.out k hk).1; omega))); have I7 := Lib.hid (Ix.out.ext xA (fun k hk h => (by have := (bnd.out k h).1; omega))); have A8 : Hid (AccR w7 w2.heap.size (fun k => w.heap.size + 2 ≤ k) 58 3 v7 ((es ++ [(ExprL.mk 12 ((np : Int) + 1) [])]).map rowE)) := (by have h := A7; rw [← List.map_append] at h; exact h); clear A7 xA hO7 Sx Ax Ix hXl)
        go_roundw
        case rel => exact ⟨j + 1, es ++ [(ExprL.mk 12 ((np : Int) + 1) [])], q, by omega, by go_num, A8, by show _ = _; rw [List.length_append, hl.out]; rfl, allEs_snoc hes.out (show allE (gfit 1000) (ExprL.mk 12 ((np : Int) + 1) []) from ⟨⟨by omega, by omega⟩, trivial⟩), I7, S7, by show _ ≤ _; have := hq.out; omega, HZ7⟩
        case measure => simp [intOf]; omega
      · have t1 : ((j : Int) == (m : Int)) = false := by rw [beq_eq_false_iff_ne]; omega
        clear hjm
        obtain ⟨b2', o2', rfl, hbp, hcp⟩ := (ints_at HV.out).2.2.2 j hlt
        have d2 := hS.out.x.at hcp hbp
        clear hcp
        go_upto_region 10 with fail
        go_cut [52] (fun s52 wx => ∃ (bb : Bool) (q' : Int), s52 = .bool bb ∧ Hid (AccR wx w2.heap.size (fun k => w.heap.size + 2 ≤ k) 58 3 u12 (es.map rowE)) ∧ Hid (Rd wx (fun k => k ≠ g ∧ k < w2.heap.size) (encInts ((fAt fs k).params ++ [0, 1])) (.slice ai (np + 2) ci)) ∧ Hid (Gs w wx B g ds fs a0 n0 c0 (some ⟨b, o, none⟩) n1 c1 q') ∧ Hid (q' ≤ p + (j : Int) + 1) ∧ Hid (wr.heap.size ≤ wx.heap.size))
        case first =>
          by_cases hz : iAt (fAt fs k).params j = 0
          · have t2 : (iAt (fAt fs k).params j == 0) = true := by rw [hz]; rfl
            clear hz
            go_wp2_with fail
            refine (pickX B g q 2 wr hS.out.r (by have := hq.out; have := HPP.out; omega) (by omega)).mono ?_
            rintro e w5 ⟨v, rfl, hv, _, r5, x5⟩
            have bnd := Lib.hid hA.out.bound
            have A5 := Lib.hid (hA.out.ext x5 (fun k hk h e => by have hh : k = g := e; rcases h with h | h <;> omega))
            have I5 := Lib.hid (hI.out.ext x5 (fun k hk => by omega))
            have S5 := Lib.hid (hS.out.c x5 r5)
            have Z5 : Hid (wr.heap.size ≤ w5.heap.size) := x5.size
            obtain ⟨hv0, hv1⟩ := hv (by omega)
            have hvc : v = 0 ∨ v = 1 := by omega
            clear hv r5 x5 hA hI hS
            rcases hvc with rfl | rfl
            all_goals
              go_wp2_with fail
              go_meet
              case rel => exact ⟨_, _, rfl, A5, I5, S5, (by show _ ≤ _; have := hq.out; omega), Z5⟩
          · have t2 : (iAt (fAt fs k).params j == 0) = false := by rw [beq_eq_false_iff_ne]; exact hz
            clear hz
            go_wp2_with fail
            go_meet
            case rel => exact ⟨_, _, rfl, hA, hI, hS, (by show _ ≤ _; have := hq.out; omega), Nat.le_refl _⟩
        case rest =>
        clear hA hI hS hq d2
        obtain ⟨bb, q', rfl, hA, hI, hS, hq, hZ⟩ := hcut
        have HB0 : Hid (w2.heap.size ≤ wc.heap.size) := Nat.le_trans HB0.out hZ.out
        cases bb
        · go_wp2_with fail
          refine (specVariableG _ _).mono ?_
          rintro e w5 ⟨a5, c5, rfl, k5⟩
          have S5 := Lib.hid (hS.out.k k5)
          have A5 := Lib.hid (hA.out.keep k5)
          have I5 := Lib.hid (hI.out.k k5)
          have HBS : Hid (w2.heap.size ≤ w5.heap.size) := Nat.le_trans HB0.out k5.size
          clear k5
          have Sx := Lib.hid (S5.out.k (Keep.al w5 (.cells #[.int .i64 12, .int .i64 (j : Int), .slice a5 0 c5] 58)))
          have Ax := Lib.hid (A5.out.keep (Keep.al w5 (.cells #[.int .i64 12, .int .i64 (j : Int), .slice a5 0 c5] 58)))
          have Ix := Lib.hid (I5.out.k (Keep.al w5 (.cells #[.int .i64 12, .int .i64 (j : Int), .slice a5 0 c5] 58)))
          have bnd := Lib.hid A5.out.bound
          have hlw := S5.out.lt
          have hzx : (w5.alloc (.cells #[.int .i64 12, .int .i64 (j : Int), .slice a5 0 c5] 58)).heap.size = w5.heap.size + 1 := World.size_alloc _ _
          have hXl := Lib.hid (lit_expr w5 (fun k => w.heap.size + 2 ≤ k ∧ u12.ownBlock ≠ some k) 58 12 (j : Int) [] a5 0 c5 ⟨by omega, fun e => by have := bnd.out _ e; omega⟩ (.nil 3 _ _))
          have hbs : w2.heap.size ≤ w5.heap.size := HBS.out
          go_wp2_with (at_builtin; go_must (refine wpList_appO _ rfl (.tmp 62) (.tmp 65) 56 rfl w2.heap.size 58 (.agg #[.int .i64 0, .int .i64 0, .slice none 0 0]) 3 40 Tryz.underlying56 (by kernel_rfl) rfl (by omega) (fun k => w.heap.size + 2 ≤ k) _ _ rfl Ax.out _ 1 1 _ _ rfl hXl.out (fun k _ hk => hk) (by have := HLR.out; omega) (by have := HLR.out; omega) (by omega) ?_); intro v7 w7 A7 xA hO7; have HZ7 : Hid (w2.heap.size ≤ w7.heap.size) := (by have := xA.size; show _ ≤ _; omega); have S7 := Lib.hid (Sx.out.e xA (fun k hk => (by have := (bnd.out k hk).1; omega))); have I7 := Lib.hid (Ix.out.ext xA (fun k hk h => (by have := (bnd.out k h).1; omega))); have A8 : Hid (AccR w7 w2.heap.size (fun k => w.heap.size + 2 ≤ k) 58 3 v7 ((es ++ [(ExprL.mk 12 (j : Int) [])]).map rowE)) := (by have h := A7; rw [← List.map_append] at h; exact h); clear A7 xA hO7 Sx Ax Ix hXl)
          go_roundw
          case rel => exact ⟨j + 1, es ++ [(ExprL.mk 12 (j : Int) [])], q', by omega, by go_num, A8, by show _ = _; rw [List.length_append, hl.out]; rfl, allEs_snoc hes.out (show allE (gfit 1000) (ExprL.mk 12 (j : Int) []) from ⟨⟨by omega, by omega⟩, trivial⟩), I7, S7, by show _ ≤ _; have := hq.out; omega, HZ7⟩
          case measure => simp [intOf]; omega
        · go_wp2_with fail
          refine (specVariableG _ _).mono ?_
          rintro e w5 ⟨a5, c5, rfl, k5⟩
          have S5 := Lib.hid (hS.out.k k5)
          have A5 := Lib.hid (hA.out.keep k5)
          have I5 := Lib.hid (hI.out.k k5)
          have HBS : Hid (w2.heap.size ≤ w5.heap.size) := Nat.le_trans HB0.out k5.size
          clear k5
          go_wp2_with fail
          refine (specVariableG _ _).mono ?_
          rintro e w6 ⟨a6, c6, rfl, k6⟩
          have hl6 := (S5.out.k k6).lt
          have RP0 := lit_expr2 w6 (fun k => w.heap.size + 2 ≤ k ∧ w6.heap.size ≤ k) 58 (.mk 12 (j : Int) []) (.mk 12 (np : Int) []) a5 0 c5 a6 0 c6 ⟨hl6, Nat.le_refl _⟩ (.nil 3 _ _) (.nil 3 _ _)
          go_wp2_with fail
          refine (specNodeG _ _ _ _ _ _).mono ?_
          rintro e w7 ⟨rfl, k7⟩
          have K7 := (k6.trans (Keep.al w6 (.cells #[.int .i64 12, .int .i64 (j : Int), .slice a5 0 c5, .int .i64 12, .int .i64 (np : Int), .slice a6 0 c6] 58))).trans k7
          have bn5 := Lib.hid A5.out.bound
          have S7 := Lib.hid (S5.out.k K7)
          have A7 := Lib.hid (A5.out.keep K7)
          have I7 := Lib.hid (I5.out.k K7)
          have hz56 := k6.size
          have RP := Lib.hid ((RP0.k k7).mono (D' := fun k => w.heap.size + 2 ≤ k ∧ u12.ownBlock ≠ some k) (fun k hk => ⟨hk.1, fun e => by have := (bn5.out k e).2; omega⟩))
          have HBS : Hid (w2.heap.size ≤ w7.heap.size) := Nat.le_trans HBS.out K7.size
          clear RP0 k6 k7 K7 S5 A5 I5
          have Sx := Lib.hid (S7.out.k (Keep.al w7 (.cells #[.int .i64 1, .int .i64 0, .slice (some ⟨w6.heap.size, 0, none⟩) 2 2] 58)))
          have Ax := Lib.hid (A7.out.keep (Keep.al w7 (.cells #[.int .i64 1, .int .i64 0, .slice (some ⟨w6.heap.size, 0, none⟩) 2 2] 58)))
          have Ix := Lib.hid (I7.out.k (Keep.al w7 (.cells #[.int .i64 1, .int .i64 0, .slice (some ⟨w6.heap.size, 0, none⟩) 2 2] 58)))
          have bnd := Lib.hid A7.out.bound
          have hlw := S7.out.lt
          have hzx : (w7.alloc (.cells #[.int .i64 1, .int .i64 0, .slice (some ⟨w6.heap.size, 0, none⟩) 2 2] 58)).heap.size = w7.heap.size + 1 := World.size_alloc _ _
          have hXl := Lib.hid (lit_expr w7 (fun k => w.heap.size + 2 ≤ k ∧ u12.ownBlock ≠ some k) 58 1 0 [ExprL.mk 12 (j : Int) [], ExprL.mk 12 (np : Int) []] (some ⟨w6.heap.size, 0, none⟩) 2 2 ⟨by omega, fun e => by have := bnd.out _ e; omega⟩ (RP.out.mono (fun k hk => hk)))
          have hbs : w2.heap.size ≤ w7.heap.size := HBS.out
          go_wp2_with (at_builtin; go_must (refine wpList_appO _ rfl (.tmp 53) (.tmp 60) 56 rfl w2.heap.size 58 (.agg #[.int .i64 0, .int .i64 0, .slice none 0 0]) 3 40 Tryz.underlying56 (by kernel_rfl) rfl (by omega) (fun k => w.heap.size + 2 ≤ k) _ _ rfl Ax.out _ 1 1 _ _ rfl hXl.out (fun k _ hk => hk) (by have := HLR.out; omega) (by have := HLR.out; omega) (by omega) ?_); intro v9 w9 A9 xA hO7; have HZ7 : Hid (w2.heap.size ≤ w9.heap.size) := (by have := xA.size; show _ ≤ _; omega); have S9 := Lib.hid (Sx.out.e xA (fun k hk => (by have := (bnd.out k hk).1; omega))); have I9 := Lib.hid (Ix.out.ext xA (fun k hk h => (by have := (bnd.out k h).1; omega))); have A8 : Hid (AccR w9 w2.heap.size (fun k => w.heap.size + 2 ≤ k) 58 3 v9 ((es ++ [(ExprL.mk 1 0 [ExprL.mk 12 (j : Int) [], ExprL.mk 12 (np : Int) []])]).map rowE)) := (by have h := A9; rw [← List.map_append] at h; exact h); clear A9 xA hO7 Sx Ax Ix hXl)
          go_roundw
          case rel => exact ⟨j + 1, es ++ [(ExprL.mk 1 0 [ExprL.mk 12 (j : Int) [], ExprL.mk 12 (np : Int) []])], q', by omega, by go_num, A8, by show _ = _; rw [List.length_append, hl.out]; rfl, allEs_snoc hes.out (show allE (gfit 1000) (ExprL.mk 1 0 [ExprL.mk 12 (j : Int) [], ExprL.mk 12 (np : Int) []]) from ⟨⟨by omega, by omega⟩, ⟨⟨by omega, by omega⟩, trivial⟩, ⟨⟨by omega, by omega⟩, trivial⟩, trivial⟩), I9, S9, by show _ ≤ _; have := hq.out; omega, HZ7⟩
          case measure => simp [intOf]; omega
    · obtain ⟨ak, ck, e, _, _, rd1⟩ := hA.out.read (by omega)
      rw [List.length_map] at e
      subst e
      have RD1 : Hid (Rd wr (fun k => w.heap.size + 2 ≤ k) (encExprs es) (.slice ak es.length ck)) := by
        show Rd _ _ (.arr 3 (rowsE es)) _
        rw [rowsE_map]
        exact rd1.mono (fun k hk => hk.elim id (fun h => by omega))
      have FL : Hid (allE (gfit 1000) (.mk 9 (k : Int) es)) := ⟨⟨by omega, by omega⟩, hes.out⟩
      clear rd1 hA hes
      have HQ0 : Hid (q ≤ p + 3) := by show _ ≤ _; have := hq.out; omega
      clear hq
      go_wp2_with fail
      refine (specNodeG _ _ _ _ _ _).mono ?_
      rintro e w5 ⟨rfl, k5⟩
      have KO := (Keep.al w5 (.cells #[.int .i64 9, .int .i64 (k : Int), .slice ak es.length ck] 58)).trans (Keep.al (w5.alloc (.cells #[.int .i64 9, .int .i64 (k : Int), .slice ak es.length ck] 58)) (.cells #[.int .i64 9, .int .i64 (k : Int), .slice ak es.length ck] 58))
      have GS := Lib.hid ((hS.out.k k5).k KO)
      have HIN := Lib.hid ((hI.out.k k5).k KO)
      have hl5 := (hS.out.k k5).lt
      have EA := Lib.hid ((Ev.born w5 (fun k => w.heap.size + 2 ≤ k ∧ k < w5.heap.size) (.mk 9 (k : Int) es) ak es.length ck ((RD1.out.k k5).lt.mono (fun k hk => ⟨hk.1, hk.2⟩))).keep (Keep.al (w5.alloc (.cells #[.int .i64 9, .int .i64 (k : Int), .slice ak es.length ck] 58)) (.cells #[.int .i64 9, .int .i64 (k : Int), .slice ak es.length ck] 58)))
      have EZ0 := Ev.born (w5.alloc (.cells #[.int .i64 9, .int .i64 (k : Int), .slice ak es.length ck] 58)) (fun k => w.heap.size + 2 ≤ k ∧ k < w5.heap.size) (.mk 9 (k : Int) es) ak es.length ck ((RD1.out.k k5).lt.k (Keep.al w5 (.cells #[.int .i64 9, .int .i64 (k : Int), .slice ak es.length ck] 58)))
      have e0 : (w5.alloc (.cells #[.int .i64 9, .int .i64 (k : Int), .slice ak es.length ck] 58)).cell? ⟨w5.heap.size, 0, none⟩ = some (.int .i64 9) := boxk (Ext.refl _ (w5.alloc (.cells #[.int .i64 9, .int .i64 (k : Int), .slice ak es.length ck] 58))) 0
      have e1 : (w5.alloc (.cells #[.int .i64 9, .int .i64 (k : Int), .slice ak es.length ck] 58)).cell? ⟨w5.heap.size, 1, none⟩ = some (.int .i64 (k : Int)) := boxk (Ext.refl _ (w5.alloc (.cells #[.int .i64 9, .int .i64 (k : Int), .slice ak es.length ck] 58))) 1
      have e2 : (w5.alloc (.cells #[.int .i64 9, .int .i64 (k : Int), .slice ak es.length ck] 58)).cell? ⟨w5.heap.size, 2, none⟩ = some (.slice ak es.length ck) := boxk (Ext.refl _ (w5.alloc (.cells #[.int .i64 9, .int .i64 (k : Int), .slice ak es.length ck] 58))) 2
      have EZ : Hid (Ev ((w5.alloc (.cells #[.int .i64 9, .int .i64 (k : Int), .slice ak es.length ck] 58)).alloc (.cells #[.int .i64 9, .int .i64 (k : Int), .slice ak es.length ck] 58)) (w5.heap.size + 1) (fun k => w.heap.size + 2 ≤ k ∧ k < w5.heap.size) (.mk 9 (k : Int) es) ak es.length ck) := by
        simp only [World.size_alloc] at EZ0
        exact EZ0
      clear EZ0 KO k5 RD1 hS hI
      go_upto_region 15 with fail
      generalize hW : (w5.alloc (.cells #[.int .i64 9, .int .i64 (k : Int), .slice ak es.length ck] 58)).alloc (.cells #[.int .i64 9, .int .i64 (k : Int), .slice ak es.length ck] 58) = wq at *
      clear hW e0 e1 e2
      generalize hS : w5.heap.size = sA at *
      clear hS
      have hAg : sA ≠ g := by omega
      have x1 := GS.out.bx.x1
      have gg1 := GS.out.x.at HC1.out hbg
      go_cut [82] (fun s82 wx => ∃ (bb : Bool) (q' : Int), s82 = .bool bb ∧ Hid (Ev wx sA (fun k => w.heap.size + 2 ≤ k ∧ k < sA) (.mk 9 (k : Int) es) ak es.length ck) ∧ Hid (Ev wx (sA + 1) (fun k => w.heap.size + 2 ≤ k ∧ k < sA) (.mk 9 (k : Int) es) ak es.length ck) ∧ Hid (Rd wx (fun k => k ≠ g ∧ k < w2.heap.size) (encInts ((fAt fs k).params ++ [0, 1])) (.slice ai (np + 2) ci)) ∧ Hid (Gs w wx B g ds fs a0 n0 c0 (some ⟨b, o, none⟩) n1 c1 q') ∧ Hid (q' ≤ p + 4))
      case first =>
        by_cases hres : (fAt fs k).result = 1
        · have t2 : ((fAt fs k).result == 1) = true := by rw [hres]; rfl
          clear hres
          go_wp2_with fail
          refine (pickX B g q 5 wq GS.out.r (by have := HQ0.out; have := HPP.out; omega) (by omega)).mono ?_
          rintro e w6 ⟨v, rfl, hv, _, r6, x6⟩
          have EA6 := Lib.hid (EA.out.ext x6 (by omega) (fun k hk => by omega))
          have EZ6 := Lib.hid (EZ.out.ext x6 (by omega) (fun k hk => by omega))
          have I6 := Lib.hid (HIN.out.ext x6 (fun k hk => by omega))
          have S6 := Lib.hid (GS.out.c x6 r6)
          obtain ⟨hv0, hv1⟩ := hv (by omega)
          clear hv r6 x6 EA EZ HIN GS x1 gg1
          obtain ⟨cb, hcb⟩ : ∃ cb, decide (0 < v) = cb := ⟨_, rfl⟩
          have HCB : Hid (decide (v > 0) = cb) := hcb
          clear hcb
          by_cases hv2 : v > 0
          all_goals
            go_wp2_with fail
            go_meet
            case rel => exact ⟨_, _, rfl, EA6, EZ6, I6, S6, (by show _ ≤ _; have := HQ0.out; omega)⟩
        · have t2 : ((fAt fs k).result == 1) = false := by rw [beq_eq_false_iff_ne]; exact hres
          clear hres
          go_wp2_with fail
          go_meet
          case rel => exact ⟨_, _, rfl, EA, EZ, HIN, GS, (by show _ ≤ _; have := HQ0.out; omega)⟩
      case rest =>
      clear EA EZ HIN GS x1 gg1 HQ0
      obtain ⟨bb, q, rfl, EA, EZ, HIN, GS, hq⟩ := hcut
      have h15g : sA + 1 ≠ g := by omega
      go_upto_if 82 with fail
      go_cut [] (fun wx => OtC B g ds fs a0 n0 c0 (some ⟨b, o, none⟩) n1 c1 (p + 1700) (sA + 1) w wx)
      case first =>
        cases bb
        · have x1 := GS.out.bx.x1
          have gg1 := GS.out.x.at HC1.out hbg
          by_cases hres : (fAt fs k).result = 0
          · have t2 : ((fAt fs k).result == 0) = true := by rw [hres]; rfl
            clear hres
            go_wp2_with fail
            replace GS := Lib.hid GS.out.dr
            replace EA := Lib.hid (EA.out.keep (Ext.refl (fun _ => False) wc).drew)
            replace EZ := Lib.hid (EZ.out.keep (Ext.refl (fun _ => False) wc).drew)
            replace HIN := Lib.hid ((HIN.out.k (Ext.refl (fun _ => False) wc).drew).mono (D' := fun k => k ≠ g) (fun k hk => hk.1))
            have hs0 : w.heap.size ≠ sA + 1 := by omega
            have hsAs : sA ≠ sA + 1 := by omega
            clear x1 gg1
            have x0 : wc.drew.cell? ⟨w.heap.size, 0, none⟩ = some (.slice a0 n0 c0) := GS.out.bx.x0
            have x1 : wc.drew.cell? ⟨w.heap.size, 1, none⟩ = some (.slice (some ⟨b, o, none⟩) n1 c1) := GS.out.bx.x1
            have e0 : wc.drew.cell? ⟨sA, 0, none⟩ = some (.int .i64 9) := EA.out.v0
            have e1 : wc.drew.cell? ⟨sA, 1, none⟩ = some (.int .i64 (k : Int)) := EA.out.v1
            have e2 : wc.drew.cell? ⟨sA, 2, none⟩ = some (.slice ak es.length ck) := EA.out.v2
            refine wp_region_held_drew (S := fun w' => w'.cell? ⟨w.heap.size, 0, none⟩ = some (.slice a0 n0 c0) ∧ w'.cell? ⟨w.heap.size, 1, none⟩ = some (.slice (some ⟨b, o, none⟩) n1 c1) ∧ w'.cell? ⟨sA, 0, none⟩ = some (.int .i64 9) ∧ w'.cell? ⟨sA, 1, none⟩ = some (.int .i64 (k : Int)) ∧ w'.cell? ⟨sA, 2, none⟩ = some (.slice ak es.length ck)) (by kernel_rfl) ⟨x0, x1, e0, e1, e2⟩ (fun hHeld => ?_)
            have pc : Hid (Ext (· = g) wc.drew wc.drew) := Ext.refl _ _
            generalize wc.drew = W0 at *
            refine wT 0 hHeld ?_
            try go_frame
            refine wT 3 hHeld ?_
            try go_frame
            refine wT 4 hHeld ?_
            try go_frame
            refine wT 5 hHeld ?_
            try go_frame
            refine wT 7 hHeld ?_
            try go_frame
            refine wO 1 (fun K hK => ?_)
            go_simp
            obtain ⟨sy1, hsy1⟩ : ∃ s, s = W0.heap.size := ⟨_, rfl⟩
            obtain ⟨y1, hW⟩ : ∃ N, N = W0.alloc (.cells #[.int .i64 1, .int .i64 2] 3) := ⟨_, rfl⟩
            rw [← hsy1, ← hW]
            have kk : Keep W0 y1 := by rw [hW]; exact Keep.al _ _
            have hzy1 : W0.heap.size + 1 ≤ y1.heap.size := by rw [hW]; exact Nat.le_of_eq (World.size_alloc _ _).symm
            have hisy1 : W0.heap.size ≤ sy1 := by omega
            have hlt := GS.out.lt
            have hl15 := EZ.out.lt
            have TY : Hid (Rd y1 (fun k => k ≠ g) (encInts [1, 2]) (.slice (some ⟨sy1, 0, none⟩) 2 2)) := by
              rw [hW, hsy1]
              exact lit_intsD W0 (fun k => k ≠ g) 3 [1, 2] #[.int .i64 1, .int .i64 2] 2 (by omega) rfl rfl (by omega)
            replace pc := Lib.hid (pc.out.trans (Keep.to kk))
            replace GS := Lib.hid (GS.out.k kk)
            replace EA := Lib.hid (EA.out.keep kk)
            replace EZ := Lib.hid (EZ.out.keep kk)
            replace HIN := Lib.hid (HIN.out.k kk)
            clear kk hW hsy1
            clear hlt hl15
            refine hK.out _ _ ⟨pc.out.at x0 (by show w.heap.size ≠ g; omega), pc.out.at x1 (by show w.heap.size ≠ g; omega), pc.out.at e0 hAg, pc.out.at e1 hAg, pc.out.at e2 hAg⟩ (fun hHeld => ?_)
            clear hK K
            try go_frame
            refine wO 2 (fun K hK => ?_)
            go_simp
            go_at_call 112
            refine (oneX B g _ _ 2 2 [1, 2] (fun k => k ≠ g) y1 GS.out.r (by have h1 := HPP.out; have h2 := hq.out; omega) TY.out.toInts (by omega) (by omega) (fun h => h rfl)).mono ?_
            rintro e y2 ⟨v, hv, rfl, r6, xi⟩
            have hlt := GS.out.lt
            have hl15 := EZ.out.lt
            replace pc := Lib.hid (pc.out.trans xi)
            replace EA := Lib.hid (EA.out.ext xi (by omega) (fun k hk => by first | exact (hk : False).elim | omega))
            replace EZ := Lib.hid (EZ.out.ext xi (by omega) (fun k hk => by first | exact (hk : False).elim | omega))
            replace HIN := Lib.hid (HIN.out.ext xi (fun k hk => by omega))
            replace TY := Lib.hid (TY.out.ext xi (fun k hk => by omega))
            replace GS := Lib.hid (GS.out.c xi r6)
            have HVv := Lib.hid hv
            clear hv r6 xi
            clear hlt hl15
            have HVv2 : Hid (gfit 1000 v 0) := by
              have h := HVv.out
              simp only [List.mem_cons, List.not_mem_nil, or_false] at h
              show _ ∧ _
              omega
            refine hK.out _ _ ⟨pc.out.at x0 (by show w.heap.size ≠ g; omega), pc.out.at x1 (by show w.heap.size ≠ g; omega), pc.out.at e0 hAg, pc.out.at e1 hAg, pc.out.at e2 hAg⟩ (fun hHeld => ?_)
            clear hK K
            try go_frame
            refine wO 6 (fun K hK => ?_)
            go_simp
            go_at_call 228
            refine (specGen ds fs B g HG.out 4 0 ((fAt fs k).params ++ [0, 1]) ai (np + 2) ci (q + 1) _ _ _ _ _ _ y2 ⟨by omega, by omega⟩ GS.out.p (HIN.out) (by omega) GS.out.r GS.out.b (by have h1 := HPP.out; have h2 := hq.out; have h3 := pkG_4; omega)).mono ?_
            rintro e y3 ⟨x, ax, nx, cx, q6, rfl, rx, fx, r6, hq6, xi⟩
            have hlt := GS.out.lt
            have hl15 := EZ.out.lt
            replace pc := Lib.hid (pc.out.trans xi)
            replace EA := Lib.hid (EA.out.ext xi (by omega) (fun k hk => by first | exact (hk : False).elim | omega))
            replace EZ := Lib.hid (EZ.out.ext xi (by omega) (fun k hk => by first | exact (hk : False).elim | omega))
            replace HIN := Lib.hid (HIN.out.ext xi (fun k hk => by omega))
            replace GS := Lib.hid (GS.out.c xi r6)
            have FX := Lib.hid fx
            have HQ6 := Lib.hid hq6
            have RX := Lib.hid (rx.mono (D' := (fun k => w.heap.size + 2 ≤ k ∧ k ≠ sA + 1)) (fun k hk => by omega))
            clear rx fx r6 hq6 xi
            clear hlt hl15
            refine hK.out _ _ ⟨pc.out.at x0 (by show w.heap.size ≠ g; omega), pc.out.at x1 (by show w.heap.size ≠ g; omega), pc.out.at e0 hAg, pc.out.at e1 hAg, pc.out.at e2 hAg⟩ (fun hHeld => ?_)
            clear hK K
            try go_frame
            refine wO 8 (fun K hK => ?_)
            go_simp
            obtain ⟨sy4, hsy4⟩ : ∃ s, s = y3.heap.size := ⟨_, rfl⟩
            obtain ⟨y4, hW⟩ : ∃ N, N = y3.alloc (.cells #[.int .i64 x.op, .int .i64 x.num, .slice ax nx cx, .int .i64 9, .int .i64 (k : Int), .slice ak es.length ck] 58) := ⟨_, rfl⟩
            rw [← hsy4, ← hW]
            have kk : Keep y3 y4 := by rw [hW]; exact Keep.al _ _
            have hzy4 : y3.heap.size + 1 ≤ y4.heap.size := by rw [hW]; exact Nat.le_of_eq (World.size_alloc _ _).symm
            have hisy4 : y3.heap.size ≤ sy4 := by omega
            have hlt := GS.out.lt
            have hl15 := EZ.out.lt
            have RM : Hid (Rd y4 (fun k => w.heap.size + 2 ≤ k ∧ k ≠ sA + 1) (encExprs [x, (.mk 9 (k : Int) es)]) (.slice (some ⟨sy4, 0, none⟩) 2 2)) := by
              rw [hW, hsy4]
              exact lit_expr2 y3 (fun k => w.heap.size + 2 ≤ k ∧ k ≠ sA + 1) 58 x (.mk 9 (k : Int) es) ax nx cx ak es.length ck (by omega) (RX.out.mono (fun k hk => by omega)) (EA.out.k.mono (fun k hk => by omega))
            replace pc := Lib.hid (pc.out.trans (Keep.to kk))
            replace GS := Lib.hid (GS.out.k kk)
            replace EA := Lib.hid (EA.out.keep kk)
            replace EZ := Lib.hid (EZ.out.keep kk)
            replace HIN := Lib.hid (HIN.out.k kk)
            replace RX := Lib.hid (RX.out.k kk)
            clear kk hW hsy4
            clear hlt hl15
            refine hK.out _ _ ⟨pc.out.at x0 (by show w.heap.size ≠ g; omega), pc.out.at x1 (by show w.heap.size ≠ g; omega), pc.out.at e0 hAg, pc.out.at e1 hAg, pc.out.at e2 hAg⟩ (fun hHeld => ?_)
            clear hK K
            try go_frame
            refine wO 9 (fun K hK => ?_)
            go_simp
            go_at_call 212
            refine (specNodeG v 0 _ _ _ _).mono ?_
            rintro e y5 ⟨rfl, xi⟩
            replace pc := Lib.hid (pc.out.trans (Keep.to xi))
            replace GS := Lib.hid (GS.out.k xi)
            replace EA := Lib.hid (EA.out.keep xi)
            replace EZ := Lib.hid (EZ.out.keep xi)
            replace HIN := Lib.hid (HIN.out.k xi)
            replace RX := Lib.hid (RX.out.k xi)
            replace RM := Lib.hid (RM.out.k xi)
            clear xi
            refine hK.out _ _ ⟨pc.out.at x0 (by show w.heap.size ≠ g; omega), pc.out.at x1 (by show w.heap.size ≠ g; omega), pc.out.at e0 hAg, pc.out.at e1 hAg, pc.out.at e2 hAg⟩ (fun hHeld => ?_)
            clear hK K
            try go_frame
            refine wO 10 (fun K hK => ?_)
            have c0 := EZ.out.v0
            have c1 := EZ.out.v1
            have c2 := EZ.out.v2
            have g0 := EZ.out.g0
            have g1 := EZ.out.g1
            have g2 := EZ.out.g2
            go_simp
            refine hK.out _ _ ⟨at_set3 (pc.out.at x0 (by show w.heap.size ≠ g; omega)) hs0, at_set3 (pc.out.at x1 (by show w.heap.size ≠ g; omega)) hs0, at_set3 (pc.out.at e0 hAg) hsAs, at_set3 (pc.out.at e1 hAg) hsAs, at_set3 (pc.out.at e2 hAg) hsAs⟩ (fun hHeld => ?_)
            clear hK K
            try go_frame
            refine wpAnyH_done (by kernel_rfl) ?_ _
            go_wp2_with fail
            go_meet
            case rel => exact OtC.mk (op := v) (num := 0) (ks := [x, (.mk 9 (k : Int) es)]) GS.out EZ.out RM.out (by omega) ⟨HVv2.out, FX.out, FL.out, trivial⟩ (by have h1 := HQ6.out; have h2 := hq.out; have h3 := pkG_4; omega)
          · have t2 : ((fAt fs k).result == 0) = false := by rw [beq_eq_false_iff_ne]; exact hres
            clear hres
            go_wp2_with fail
            go_meet
            case rel => exact ⟨(.mk 9 (k : Int) es), ak, es.length, ck, q, EZ.out.mono (fun k hk => by omega), FL, GS, (by show _ ≤ _; have := hq.out; omega)⟩
        · have x0 := GS.out.bx.x0
          have x1 := GS.out.bx.x1
          have hnv : (np + 2) + 3 * 4 ≤ 900 := by omega
          go_wp2_with fail
          refine (specGen ds fs B g HG.out 4 0 ((fAt fs k).params ++ [0, 1]) ai (np + 2) ci q _ _ _ _ _ _ wc ⟨by omega, by omega⟩ GS.out.p (HIN.out.mono (fun k hk => hk.1)) hnv GS.out.r GS.out.b (by have h1 := HPP.out; have h2 := hq.out; have h3 := pkG_4; omega)).mono ?_
          rintro e w6 ⟨x, ax, nx, cx, q6, rfl, rx, fx, r6, hq6, x6⟩
          have hs6 := x6.size
          have hlc := GS.out.lt
          have hl15 := EZ.out.lt
          have E16 := Lib.hid (Ev.born w6 (fun k => w.heap.size + 2 ≤ k ∧ k ≠ sA + 1 ∧ k ≠ w6.heap.size) x ax nx cx (rx.lt.mono (fun k hk => ⟨by omega, by omega, by omega⟩)))
          have EA6 := Lib.hid ((EA.out.ext x6 (by omega) (fun k hk => by omega)).keep (Keep.al w6 (.cells #[.int .i64 x.op, .int .i64 x.num, .slice ax nx cx] 58)))
          have EZ6 := Lib.hid ((EZ.out.ext x6 (by omega) (fun k hk => by omega)).keep (Keep.al w6 (.cells #[.int .i64 x.op, .int .i64 x.num, .slice ax nx cx] 58)))
          have S6 := Lib.hid ((GS.out.c x6 r6).k (Keep.al w6 (.cells #[.int .i64 x.op, .int .i64 x.num, .slice ax nx cx] 58)))
          have FX := Lib.hid fx
          have HQ6 : Hid (q6 ≤ p + 1700) := by show _ ≤ _; have h2 := hq.out; have h3 := pkG_4; omega
          have hH : sA + 1 < w6.heap.size := by omega
          clear rx fx r6 hq6 x6 EA EZ GS HIN x0 x1 hl15 hlc hs6 hnv
          go_upto_region 17 with fail
          generalize hW : w6.alloc (.cells #[.int .i64 x.op, .int .i64 x.num, .slice ax nx cx] 58) = wq2 at *
          clear hW
          generalize hS : w6.heap.size = sH at *
          clear hS
          go_cut [94] (fun s94 wx => ∃ (bb : Bool), s94 = .bool bb ∧ wx = wq2)
          case first =>
            by_cases hn : 1 < np
            · have t3 : (1 : Int) < (np : Int) := by omega
              obtain ⟨b2', o2', rfl, hbp, hcp⟩ := (ints_at HV.out).2.2.2 0 (by omega)
              have d2 := S6.out.x.at hcp hbp
              simp only [Nat.add_zero] at d2
              have tn : (0 : Int) < (np : Int) := by omega
              clear hcp
              by_cases hz : iAt (fAt fs k).params 0 = 2
              · have t4 : (iAt (fAt fs k).params 0 == 2) = true := by rw [hz]; rfl
                clear hz
                go_wp2_with fail
                go_meet
                case rel => exact ⟨_, rfl, rfl⟩
              · have t4 : (iAt (fAt fs k).params 0 == 2) = false := by rw [beq_eq_false_iff_ne]; exact hz
                clear hz
                go_wp2_with fail
                go_meet
                case rel => exact ⟨_, rfl, rfl⟩
            · have t3 : ¬ (1 : Int) < (np : Int) := by omega
              go_wp2_with fail
              go_meet
              case rel => exact ⟨_, rfl, rfl⟩
          case rest =>
          obtain ⟨bb, rfl, rfl⟩ := hcut
          go_upto_if 94 with fail
          go_cut [] (fun wx => ∃ (y : ExprL) (ay : Option Addr) (ny cy : Nat), Hid (Ev wx sH (fun k => w.heap.size + 2 ≤ k ∧ k ≠ sA + 1 ∧ k ≠ sH) y ay ny cy) ∧ Hid (allE (gfit 1000) y) ∧ Hid (Ev wx sA (fun k => w.heap.size + 2 ≤ k ∧ k < sA) (.mk 9 (k : Int) es) ak es.length ck) ∧ Hid (Ev wx (sA + 1) (fun k => w.heap.size + 2 ≤ k ∧ k < sA) (.mk 9 (k : Int) es) ak es.length ck) ∧ Hid (Gs w wx B g ds fs a0 n0 c0 (some ⟨b, o, none⟩) n1 c1 q6))
          case first =>
            cases bb
            · go_wp2_with fail
              go_meet
              case rel => exact ⟨_, _, _, _, E16, FX, EA6, EZ6, S6⟩
            · go_wp2_with fail
              refine (specVariableG _ _).mono ?_
              rintro e w7 ⟨a7, c7, rfl, k7⟩
              go_wp2_with fail
              refine (specVariableG _ _).mono ?_
              rintro e w8 ⟨a8, c8, rfl, k8⟩
              go_wp2_with fail
              refine (specNodeG _ _ _ _ _ _).mono ?_
              rintro e w9 ⟨rfl, k9⟩
              have hsz := k7.size
              have hsz8 := k8.size
              have hHl := E16.out.lt
              have RL := Lib.hid ((lit_expr2 w8 (fun k => w.heap.size + 2 ≤ k ∧ k ≠ sA + 1 ∧ k ≠ sH) 58 (.mk 12 0 []) (.mk 12 (np : Int) []) a7 0 c7 a8 0 c8 (by omega) (.nil 3 _ _) (.nil 3 _ _)).k k9)
              have K9 := ((k7.trans k8).trans (Keep.al w8 (.cells #[.int .i64 12, .int .i64 0, .slice a7 0 c7, .int .i64 12, .int .i64 (np : Int), .slice a8 0 c8] 58))).trans k9
              have E9 := Lib.hid (E16.out.keep K9)
              have EA9 := Lib.hid (EA6.out.keep K9)
              have EZ9 := Lib.hid (EZ6.out.keep K9)
              have S9 := Lib.hid (S6.out.k K9)
              have u0 := E9.out.v0
              have u1 := E9.out.v1
              have u2 := E9.out.v2
              have f0 := E9.out.g0
              have f1 := E9.out.g1
              have f2 := E9.out.g2
              have Y := Lib.hid (ext3 w9 sH (.int .i64 11) (.int .i64 0) (.slice (some ⟨w8.heap.size, 0, none⟩) 2 2))
              have E10 := Lib.hid (E9.out.store (y := .mk 11 0 [.mk 12 0 [], .mk 12 (np : Int) []]) (D' := fun k => w.heap.size + 2 ≤ k ∧ k ≠ sA + 1 ∧ k ≠ sH) RL.out (fun k hk => hk.2.2))
              have EA10 := Lib.hid (EA9.out.ext Y.out (by omega) (fun k hk => by omega))
              have EZ10 := Lib.hid (EZ9.out.ext Y.out (by omega) (fun k hk => by omega))
              have S10 := Lib.hid (S9.out.e Y.out (fun k hk => by omega))
              clear k7 k8 k9 K9
              go_wp2_with fail
              go_meet
              case rel => exact ⟨_, _, _, _, E10, ⟨⟨by omega, by omega⟩, ⟨⟨by omega, by omega⟩, trivial⟩, ⟨⟨by omega, by omega⟩, trivial⟩, trivial⟩, EA10, EZ10, S10⟩
          case rest =>
          clear E16 FX EA6 EZ6 S6
          obtain ⟨y, ay, ny, cy, EY, FY, EA, EZ, GS⟩ := hcut
          have e0 : wc.cell? ⟨sA, 0, none⟩ = some (.int .i64 9) := EA.out.v0
          have e1 : wc.cell? ⟨sA, 1, none⟩ = some (.int .i64 (k : Int)) := EA.out.v1
          have e2 := EA.out.v2
          have d0 := EY.out.v0
          have d1 := EY.out.v1
          have d2 := EY.out.v2
          go_wp2_with fail
          refine (specNodeG _ _ _ _ _ _).mono ?_
          rintro e w9 ⟨rfl, k9⟩
          have hlc := GS.out.lt
          have hl15 := EZ.out.lt
          have RL := Lib.hid ((lit_expr2 wc (fun k => w.heap.size + 2 ≤ k ∧ k ≠ sA + 1) 58 y (.mk 9 (k : Int) es) ay ny cy ak es.length ck (by omega) (EY.out.k.mono (fun k hk => ⟨hk.1, hk.2.1⟩)) (EA.out.k.mono (fun k hk => by omega))).k k9)
          have K9 := (Keep.al wc (.cells #[.int .i64 y.op, .int .i64 y.num, .slice ay ny cy, .int .i64 9, .int .i64 (k : Int), .slice ak es.length ck] 58)).trans k9
          have E9 := Lib.hid (EZ.out.keep K9)
          have S9 := Lib.hid (GS.out.k K9)
          have u0 := E9.out.v0
          have u1 := E9.out.v1
          have u2 := E9.out.v2
          have f0 := E9.out.g0
          have f1 := E9.out.g1
          have f2 := E9.out.g2
          clear k9 K9 e0 e1 e2 d0 d1 d2
          go_wp2_with fail
          go_meet
          case rel => exact OtC.mk (op := 6) (num := 1) (ks := [y, (.mk 9 (k : Int) es)]) S9.out E9.out RL.out (by omega) ⟨⟨by omega, by omega⟩, FY.out, FL.out, trivial⟩ HQ6.out
      case rest =>
      clear EA EZ HIN GS hq
      obtain ⟨y, ay, ny, cy, q, EZ, FY, GS, hq⟩ := hcut
      go_upto_region 22 with fail
      replace GS := Lib.hid GS.out.dr
      replace EZ := Lib.hid (EZ.out.keep (Ext.refl (fun _ => False) wc).drew)
      have x0 : wc.drew.cell? ⟨w.heap.size, 0, none⟩ = some (.slice a0 n0 c0) := GS.out.bx.x0
      have x1 : wc.drew.cell? ⟨w.heap.size, 1, none⟩ = some (.slice (some ⟨b, o, none⟩) n1 c1) := GS.out.bx.x1
      have gg1 : wc.drew.cell? ⟨b, o + k * 5 + 1, none⟩ = some (.int .i64 (fAt fs k).result) := GS.out.x.at HC1.out hbg
      have e0 : wc.drew.cell? ⟨sA + 1, 0, none⟩ = some (.int .i64 y.op) := EZ.out.v0
      have e1 : wc.drew.cell? ⟨sA + 1, 1, none⟩ = some (.int .i64 y.num) := EZ.out.v1
      have e2 : wc.drew.cell? ⟨sA + 1, 2, none⟩ = some (.slice ay ny cy) := EZ.out.v2
      have hw1 : w.heap.size ≠ w.heap.size + 1 := by omega
      have hb1 : b ≠ w.heap.size + 1 := by omega
      have h151 : sA + 1 ≠ w.heap.size + 1 := by omega
      refine wp_region_held_drew (S := fun w' => w'.cell? ⟨w.heap.size, 0, none⟩ = some (.slice a0 n0 c0) ∧ w'.cell? ⟨w.heap.size, 1, none⟩ = some (.slice (some ⟨b, o, none⟩) n1 c1) ∧ w'.cell? ⟨b, o + k * 5 + 1, none⟩ = some (.int .i64 (fAt fs k).result) ∧ w'.cell? ⟨sA + 1, 0, none⟩ = some (.int .i64 y.op) ∧ w'.cell? ⟨sA + 1, 1, none⟩ = some (.int .i64 y.num) ∧ w'.cell? ⟨sA + 1, 2, none⟩ = some (.slice ay ny cy)) (by kernel_rfl) ⟨x0, x1, gg1, e0, e1, e2⟩ (fun hHeld => ?_)
      have pc : Hid (Ext (· = g) wc.drew wc.drew) := Ext.refl _ _
      generalize wc.drew = W0 at *
      refine wT 0 hHeld ?_
      try go_frame
      refine wT 2 hHeld ?_
      try go_frame
      refine wT 3 hHeld ?_
      try go_frame
      refine wT 4 hHeld ?_
      try go_frame
      refine wT 5 hHeld ?_
      try go_frame
      refine wT 6 hHeld ?_
      try go_frame
      refine wT 7 hHeld ?_
      try go_frame
      refine wT 8 hHeld ?_
      try go_frame
      refine wT 9 hHeld ?_
      try go_frame
      refine wT 10 hHeld ?_
      try go_frame
      refine wT 12 hHeld ?_
      try go_frame
      refine wO 1 (fun K hK => ?_)
      go_simp
      go_at_call 214
      refine (specVariableG _ _).mono ?_
      rintro e y1 ⟨vva, vvc, rfl, xi⟩
      replace pc := Lib.hid (pc.out.trans (Keep.to xi))
      replace GS := Lib.hid (GS.out.k xi)
      replace EZ := Lib.hid (EZ.out.keep xi)
      clear xi
      refine hK.out _ _ ⟨pc.out.at x0 (by show w.heap.size ≠ g; omega), pc.out.at x1 (by show w.heap.size ≠ g; omega), pc.out.at gg1 hbg, pc.out.at e0 h15g, pc.out.at e1 h15g, pc.out.at e2 h15g⟩ (fun hHeld => ?_)
      clear hK K
      try go_frame
      refine wO 11 (fun K hK => ?_)
      go_simp
      go_at_call 228
      refine (specGen ds fs B g HG.out 4 (fAt fs k).result (fAt fs k).params ap np cp q _ _ _ _ _ _ y1 SG.out.2.1 GS.out.p ((HV.out.g GS.out.x)) (by omega) GS.out.r GS.out.b (by have h1 := HPP.out; have h2 := hq.out; have h3 := pkG_4; omega)).mono ?_
      rintro e y2 ⟨x, ax, nx, cx, q6, rfl, rx, fx, r6, hq6, xi⟩
      have hlt := GS.out.lt
      have hl15 := EZ.out.lt
      replace pc := Lib.hid (pc.out.trans xi)
      replace EZ := Lib.hid (EZ.out.ext xi (by omega) (fun k hk => by first | exact (hk : False).elim | omega))
      replace GS := Lib.hid (GS.out.c xi r6)
      have FX := Lib.hid fx
      have HQ6 := Lib.hid hq6
      have RX := Lib.hid (rx.mono (D' := (fun k => w.heap.size + 2 ≤ k)) (fun k hk => by omega))
      clear rx fx r6 hq6 xi
      clear hlt hl15
      refine hK.out _ _ ⟨pc.out.at x0 (by show w.heap.size ≠ g; omega), pc.out.at x1 (by show w.heap.size ≠ g; omega), pc.out.at gg1 hbg, pc.out.at e0 h15g, pc.out.at e1 h15g, pc.out.at e2 h15g⟩ (fun hHeld => ?_)
      clear hK K
      try go_frame
      refine wO 13 (fun K hK => ?_)
      go_simp
      obtain ⟨sy3, hsy3⟩ : ∃ s, s = y2.heap.size := ⟨_, rfl⟩
      obtain ⟨y3, hW⟩ : ∃ N, N = y2.alloc (.cells #[.int .i64 12, .int .i64 (m : Int), .slice vva 0 vvc, .int .i64 x.op, .int .i64 x.num, .slice ax nx cx, .int .i64 y.op, .int .i64 y.num, .slice ay ny cy] 58) := ⟨_, rfl⟩
      rw [← hsy3, ← hW]
      have kk : Keep y2 y3 := by rw [hW]; exact Keep.al _ _
      have hzy3 : y2.heap.size + 1 ≤ y3.heap.size := by rw [hW]; exact Nat.le_of_eq (World.size_alloc _ _).symm
      have hisy3 : y2.heap.size ≤ sy3 := by omega
      have hlt := GS.out.lt
      have hl15 := EZ.out.lt
      have RT : Hid (Rd y3 (fun k => w.heap.size + 2 ≤ k) (encExprs [(.mk 12 (m : Int) []), x, y]) (.slice (some ⟨sy3, 0, none⟩) 3 3)) := by
        rw [hW, hsy3]
        exact lit_expr3 y2 (fun k => w.heap.size + 2 ≤ k) 58 (.mk 12 (m : Int) []) x y vva 0 vvc ax nx cx ay ny cy (by omega) (.nil 3 _ _) (RX.out.mono (fun k hk => by omega)) (EZ.out.k.mono (fun k hk => by omega))
      replace pc := Lib.hid (pc.out.trans (Keep.to kk))
      replace GS := Lib.hid (GS.out.k kk)
      replace EZ := Lib.hid (EZ.out.keep kk)
      replace RX := Lib.hid (RX.out.k kk)
      clear kk hW hsy3
      clear hlt hl15
      refine hK.out _ _ ⟨pc.out.at x0 (by show w.heap.size ≠ g; omega), pc.out.at x1 (by show w.heap.size ≠ g; omega), pc.out.at gg1 hbg, pc.out.at e0 h15g, pc.out.at e1 h15g, pc.out.at e2 h15g⟩ (fun hHeld => ?_)
      clear hK K
      try go_frame
      refine wO 14 (fun K hK => ?_)
      go_simp
      go_at_call 212
      refine (specNodeG 8 1 _ _ _ _).mono ?_
      rintro e y4 ⟨rfl, xi⟩
      replace pc := Lib.hid (pc.out.trans (Keep.to xi))
      replace GS := Lib.hid (GS.out.k xi)
      replace EZ := Lib.hid (EZ.out.keep xi)
      replace RX := Lib.hid (RX.out.k xi)
      replace RT := Lib.hid (RT.out.k xi)
      clear xi
      refine hK.out _ _ ⟨pc.out.at x0 (by show w.heap.size ≠ g; omega), pc.out.at x1 (by show w.heap.size ≠ g; omega), pc.out.at gg1 hbg, pc.out.at e0 h15g, pc.out.at e1 h15g, pc.out.at e2 h15g⟩ (fun hHeld => ?_)
      clear hK K
      try go_frame
      refine wO 15 (fun K hK => ?_)
      have c0 := GS.out.bx.u0
      have c1 := GS.out.bx.u1
      have c2 := GS.out.bx.u2
      have g0 := GS.out.bx.f0
      have g1 := GS.out.bx.f1
      have g2 := GS.out.bx.f2
      go_simp
      refine hK.out _ _ ⟨at_set3 (pc.out.at x0 (by show w.heap.size ≠ g; omega)) hw1, at_set3 (pc.out.at x1 (by show w.heap.size ≠ g; omega)) hw1, at_set3 (pc.out.at gg1 hbg) hb1, at_set3 (pc.out.at e0 h15g) h151, at_set3 (pc.out.at e1 h15g) h151, at_set3 (pc.out.at e2 h15g) h151⟩ (fun hHeld => ?_)
      clear hK K
      try go_frame
      refine wpAnyH_done (by kernel_rfl) ?_ _
      have HFI : Hid (gfit 1000 8 1) := ⟨by omega, by omega⟩
      have HFS : Hid (allEs (gfit 1000) [.mk 12 (m : Int) [], x, y]) := ⟨⟨⟨by omega, by omega⟩, trivial⟩, FX.out, FY.out, trivial⟩
      have HQ9 : Hid (q6 ≤ p + 5000) := by show _ ≤ _; have h1 := HQ6.out; have h2 := hq.out; have h3 := pkG_4; omega
      have u0 := GS.out.bx.u0
      have u1 := GS.out.bx.u1
      have u2 := GS.out.bx.u2
      go_wp2_with fail
      refine bodyPost_ret (v := .agg #[.int .i64 8, .int .i64 1, .slice (some ⟨sy3, 0, none⟩) 3 3]) (by simp [results, Tryz.results218, go_sem, u0, u1, u2]) rfl (fin_ hQ ?_)
      exact GS.out.fin (ks := [.mk 12 (m : Int) [], x, y]) RT.out HFI.out HFS.out HQ9.out
end Go.Proofs.YtkapldpmjkdmcaaGreat
