/- The reference's validity of the signatures of normal forms. -/
import Derived.Test.YtkapldpmjkdmcaaGreatTAF
import Derived.Test.YtkapldpmjkdmcaaGreatTAD
namespace Go.Proofs.YtkapldpmjkdmcaaGreat
open Go.RowKit

set_option maxRecDepth 100000 in
set_option maxHeartbeats 2000000 in
theorem specValidNormalSigs (ds : List DeclL) (rs : List RoutL) (a0 : Option Addr) (n0 c0 : Nat) (a1 : Option Addr) (n1 c1 : Nat) (D0 D1 : Nat → Prop) (w : World) (r0 : Rd w D0 (encDecls ds) (.slice a0 n0 c0)) (r1 : Rd w D1 (encRouts rs) (.slice a1 n1 c1)) :
    Calls Tryz.prog 76 #[.agg #[.slice a0 n0 c0, .slice a1 n1 c1]] w fun e w' => e = .returned (.bool (sigsOk ds (rs.map sigR))) ∧ Keep w w' := by
  refine calls_k fun Q hQ => ?_
  have K0 := Keep.al w (.cells #[.slice a0 n0 c0, .slice a1 n1 c1] 30)
  have R0 := rowOf w #[.slice a0 n0 c0, .slice a1 n1 c1] 30
  obtain ⟨e1, hnc, hm, hat⟩ := routs_at r1
  have HL := Lib.hid e1
  have HA := Lib.hid hat
  have HR0 := Lib.hid R0
  clear e1 hat R0
  by_cases hl4 : n1 ≤ 4
  case neg =>
    have V : Hid (sigsOk ds (rs.map sigR) = false) := sigsOk_len (by rw [List.length_map]; have := HL.out; omega)
    go_enter Tryz.func76, Tryz.ntmps76
    go_wp2_with fail
    exact fin_ hQ ⟨ret_b V.out.symm, K0⟩
  go_enter Tryz.func76, Tryz.ntmps76
  go_wp2_with fail
  refine (specSigsOfN rs _ _ _ _ _ _ _ _ (r1.k K0) hl4).mono ?_
  rintro e w1 ⟨a', c', rfl, r2, p1⟩
  have R2 := Lib.hid r2
  have P1 := Lib.hid p1
  clear r2 p1
  cases hs : sigsOk ds ((rs.map funcR).map sigF)
  · have HS := Lib.hid hs
    have V : Hid (sigsOk ds (rs.map sigR) = false) := sigs_funcR_no hs
    clear hs
    go_wp2_with fail
    refine (specValidSigs0 ds (rs.map funcR) _ _ _ _ _ _ _ _ _ (r0.k (K0.trans P1.out)) R2.out).mono ?_
    rw [HS.out]
    rintro e w2 ⟨rfl, p2⟩
    go_wp2_with fail
    exact fin_ hQ ⟨ret_b V.out.symm, (K0.trans P1.out).trans p2⟩
  have HS := Lib.hid hs
  clear hs
  go_wp2_with fail
  refine (specValidSigs0 ds (rs.map funcR) _ _ _ _ _ _ _ _ _ (r0.k (K0.trans P1.out)) R2.out).mono ?_
  rw [HS.out]
  rintro e w2 ⟨rfl, p2⟩
  have K2 := Lib.hid (P1.out.trans p2)
  clear p2
  go_wp2_with fail
  go_loopw [3] (fun iv wr => ∃ j : Nat, j ≤ n1 ∧ iv = .int .i64 j ∧ Hid (∀ l, l < j → lentOk (sigR (rtAt rs l)) = true) ∧ Hid (Keep (w.alloc (.cells #[.slice a0 n0 c0, .slice a1 n1 c1] 30)) wr)) (fun iv _ => n1 - (intOf iv).toNat)
  case atStart => exact ⟨0, Nat.zero_le _, rfl, fun l hl => absurd hl (by omega), K2.out⟩
  case round =>
    obtain ⟨wo, rfl⟩ : ∃ wo : World, wo = wr := ⟨_, rfl⟩
    obtain ⟨j, hj, rfl, hI, hK⟩ := hrel
    have KW := Lib.hid (K0.trans hK.out)
    have e0 := (row_ext HR0.out hK.out (fun h => h)).cell (i := 1) (by simp)
    simp at e0
    by_cases hlt : j < n1
    · obtain ⟨b, o, rfl, hd, a3, n3, c3, a5, n5, c5, a4, n4, c4, d0, d1, d2, d3, d4, r3, r5, r4⟩ := HA.out j hlt
      have g0 := (KW.out.cell (World.block_lt_of_cell? w _ d0) (fun h => h)).trans d0
      have g1 := (KW.out.cell (World.block_lt_of_cell? w _ d1) (fun h => h)).trans d1
      have q3 := (r3.k KW.out).kd
      have q5 := (r5.k KW.out).kd
      have HJ : Hid (j < rs.length) := by have := HL.out; show _ < _; omega
      have hn3 : n3 ≤ 9223372036854775807 := (ints_at r3).2.2.1
      have hn5 : n5 ≤ 9223372036854775807 := (ints_at r5).2.2.1
      have pc := Ext.refl0 wo
      clear d0 d1 d2 d3 d4 r3 r5 r4
      cases hv : lentOk (sigR (rtAt rs j))
      · have HV := Lib.hid hv
        have V : Hid (sigsOk ds (rs.map sigR) = false) := sigs_lent_no HJ.out hv
        clear hv
        go_wp2_with fail
        go_region_held3 (fun w' => w'.cell? ⟨w.heap.size, 1, none⟩ = some (.slice (some ⟨b, o, none⟩) n1 c1) ∧ w'.cell? ⟨b, o + j * 5, none⟩ = some (.slice a3 n3 c3) ∧ w'.cell? ⟨b, o + j * 5 + 1, none⟩ = some (.slice a5 n5 c5))
          (first | exact ⟨Keep.at pc e0, Keep.at pc g0, Keep.at pc g1⟩ | go_keep)
          ((go_at_call 127; refine (specValidLent _ _ _ _ _ _ _ _ (rtAt rs j).result _ _ _ (q3.k pc).toInts (q5.k pc).toInts hn3 hn5).mono ?_; rw [show lentOk ⟨(rtAt rs j).params, (rtAt rs j).lent, (rtAt rs j).result⟩ = false from HV.out]; rintro e w3 ⟨rfl, p3⟩; replace pc := pc.trans p3))
        have KE := Lib.hid (KW.out.trans (Keep.dt pc))
        go_wp2_with fail
        exact fin_ hQ ⟨ret_b V.out.symm, KE.out⟩
      · have HV := Lib.hid hv
        have hI2 : Hid (∀ l, l < j + 1 → lentOk (sigR (rtAt rs l)) = true) := by
          intro l hl
          rcases Nat.lt_succ_iff_lt_or_eq.1 hl with h | rfl
          · exact hI.out l h
          · exact hv
        clear hv
        go_wp2_with fail
        go_region_held3 (fun w' => w'.cell? ⟨w.heap.size, 1, none⟩ = some (.slice (some ⟨b, o, none⟩) n1 c1) ∧ w'.cell? ⟨b, o + j * 5, none⟩ = some (.slice a3 n3 c3) ∧ w'.cell? ⟨b, o + j * 5 + 1, none⟩ = some (.slice a5 n5 c5))
          (first | exact ⟨Keep.at pc e0, Keep.at pc g0, Keep.at pc g1⟩ | go_keep)
          ((go_at_call 127; refine (specValidLent _ _ _ _ _ _ _ _ (rtAt rs j).result _ _ _ (q3.k pc).toInts (q5.k pc).toInts hn3 hn5).mono ?_; rw [show lentOk ⟨(rtAt rs j).params, (rtAt rs j).lent, (rtAt rs j).result⟩ = true from HV.out]; rintro e w3 ⟨rfl, p3⟩; replace pc := pc.trans p3))
        have KE := Lib.hid (hK.out.trans (Keep.dt pc))
        clear pc q3 q5
        go_wp2_with fail
        go_roundw
        case rel => exact ⟨j + 1, by omega, by go_num, hI2, KE.out⟩
        case measure => simp [intOf]; omega
    · have V : Hid (sigsOk ds (rs.map sigR) = true) := sigs_yes HS.out (fun l hl => hI.out l (by have := HL.out; omega))
      go_wp2_with fail
      exact fin_ hQ ⟨ret_b V.out.symm, KW.out⟩
end Go.Proofs.YtkapldpmjkdmcaaGreat
/- The reference's types of steps: calls and closures. -/
namespace Go.Proofs.YtkapldpmjkdmcaaGreat
open Go.RowKit

def routS (ds : List DeclL) (sg : List SigL) (sc : List Int) (op num : Int) (args : List Int) : Int := if argsIn sc args = true then leafL ds sg op num (tysOf sc args) else -1
theorem leafL_neg {ds : List DeclL} {sg : List SigL} {op num : Int} {tys : List Int} (hop : op = 9 ∨ op = 10) (h : simpleL ds sg op num tys = -1) : leafL ds sg op num tys = -1 := by
  rw [leafL, if_neg (by omega)]
  split
  · rfl
  · exact h
theorem routS_range {ds : List DeclL} {sg : List SigL} {op num : Int} {sc args : List Int} (hop : op = 9 ∨ op = 10) (h : ¬ (0 ≤ num ∧ num < (sg.length : Int))) : routS ds sg sc op num args = -1 := by
  rw [routS]
  split
  · exact leafL_neg hop (simpleL_range hop h)
  · rfl
theorem leafL_9 {ds : List DeclL} {sg : List SigL} {num : Int} {tys : List Int} : leafL ds sg 9 num tys = simpleL ds sg 9 num tys := by rw [leafL, if_neg (by omega), if_neg (by omega)]
theorem leafL_10 {ds : List DeclL} {sg : List SigL} {k : Nat} {tys : List Int} : leafL ds sg 10 (k : Int) tys = if 0 < (sgAt sg k).lent.length then -1 else simpleL ds sg 10 (k : Int) tys := by
  rw [leafL, if_neg (by omega), show ((k : Int)).toNat = k from rfl]
  by_cases h : 0 < (sgAt sg k).lent.length
  · rw [if_pos ⟨rfl, h⟩, if_pos h]
  · rw [if_neg (fun h2 => h h2.2), if_neg h]
theorem routS_call {ds : List DeclL} {sg : List SigL} {sc args : List Int} {k : Nat} (hk : k < sg.length) : routS ds sg sc 9 (k : Int) args = if typedL sc args (sgAt sg k).params = true then (sgAt sg k).result else -1 := by
  rw [routS, leafL_9, simpleL_call hk]
  by_cases h : typedL sc args (sgAt sg k).params = true
  · rw [if_pos h, if_pos (typedL_iff.1 h).1, if_pos (typedL_iff.1 h).2]
  · rw [if_neg h]
    split
    · next h1 => rw [if_neg (fun h2 => h (typedL_iff.2 ⟨h1, h2⟩))]
    · rfl
theorem routS_close {ds : List DeclL} {sg : List SigL} {sc args : List Int} {k : Nat} (hk : k < sg.length) : routS ds sg sc 10 (k : Int) args = if 0 < (sgAt sg k).params.length ∧ (sgAt sg k).lent.length = 0 ∧ typedL sc args ((sgAt sg k).params.take ((sgAt sg k).params.length - 1)) = true then arrowL ds (iAt (sgAt sg k).params ((sgAt sg k).params.length - 1)) (sgAt sg k).result else -1 := by
  rw [routS, leafL_10, simpleL_close hk]
  by_cases h : 0 < (sgAt sg k).params.length ∧ (sgAt sg k).lent.length = 0 ∧ typedL sc args ((sgAt sg k).params.take ((sgAt sg k).params.length - 1)) = true
  · rw [if_pos h, if_pos (typedL_iff.1 h.2.2).1, if_neg (by omega), if_pos ⟨h.1, (typedL_iff.1 h.2.2).2⟩]
  · rw [if_neg h]
    split
    · next h1 =>
      split
      · rfl
      · next h2 => rw [if_neg (fun h3 => h ⟨h3.1, by omega, typedL_iff.2 ⟨h1, h3.2⟩⟩)]
    · rfl

/-- A normal form that can be read. -/
def NR (w : World) (ds : List DeclL) (rs : List RoutL) (a0 : Option Addr) (n0 c0 : Nat) (a1 : Option Addr) (n1 c1 : Nat) : Prop :=
  Rd w (fun _ => True) (encDecls ds) (.slice a0 n0 c0) ∧ Rd w (fun _ => True) (encRouts rs) (.slice a1 n1 c1)
theorem NR.k {w w' : World} {ds : List DeclL} {rs : List RoutL} {a0 : Option Addr} {n0 c0 : Nat} {a1 : Option Addr} {n1 c1 : Nat} (h : NR w ds rs a0 n0 c0 a1 n1 c1) (k : Keep w w') : NR w' ds rs a0 n0 c0 a1 n1 c1 := ⟨h.1.k k, h.2.k k⟩

set_option maxRecDepth 100000 in
set_option maxHeartbeats 4000000 in
theorem specRoutineType (ds : List DeclL) (rs : List RoutL) (op num into : Int) (hop : op = 9 ∨ op = 10) (a0 : Option Addr) (n0 c0 : Nat) (a1 : Option Addr) (n1 c1 : Nat) (av : Option Addr) (nv cv : Nat) (sc : List Int) (aa : Option Addr) (na ca : Nat) (args : List Int) (ak : Option Addr) (nk ck : Nat) (D1 : Nat → Prop) (w : World)
    (hp : NR w ds rs a0 n0 c0 a1 n1 c1) (hv : Rd w (fun _ => True) (encInts sc) (.slice av nv cv)) (ha : Rd w D1 (encInts args) (.slice aa na ca)) (hnv : nv ≤ 4000000) (hds : ds.length ≤ 4) (hrs : rs.length ≤ 4) :
    Calls Tryz.prog 185 #[.agg #[.slice a0 n0 c0, .slice a1 n1 c1], .slice av nv cv, .agg #[.int .i64 op, .int .i64 num, .int .i64 into, .slice aa na ca, .slice ak nk ck]] w fun r w' => r = .returned (.int .i64 (routS ds (rs.map sigR) sc op num args)) ∧ Keep w w' := by
  refine calls_k fun Q hQ => ?_
  have hd0 := hp.1
  have hna : na ≤ 9223372036854775807 := (ints_at ha).2.2.1
  have hn0 : n0 ≤ 4 := by have := (decls_at hp.1).1; omega
  have K0 := (Keep.al w (.cells #[.slice a0 n0 c0, .slice a1 n1 c1] 30)).trans (Keep.al _ (.cells #[.int .i64 op, .int .i64 num, .int .i64 into, .slice aa na ca, .slice ak nk ck] 136))
  have R0 := (rowOf w #[.slice a0 n0 c0, .slice a1 n1 c1] 30).alloc (.cells #[.int .i64 op, .int .i64 num, .int .i64 into, .slice aa na ca, .slice ak nk ck] 136)
  have R1 := rowOf (w.alloc (.cells #[.slice a0 n0 c0, .slice a1 n1 c1] 30)) #[.int .i64 op, .int .i64 num, .int .i64 into, .slice aa na ca, .slice ak nk ck] 136
  simp only [World.size_alloc] at R1
  obtain ⟨e1, hf1, hf2, hat⟩ := routs_at hp.2
  have HL := Lib.hid e1
  have HA := Lib.hid hat
  have hn1 : n1 ≤ 4 := by omega
  have SL : Hid ((rs.map sigR).length = n1) := by show _ = _; rw [List.length_map]; exact e1
  clear e1 hat
  by_cases hr : 0 ≤ num ∧ num < (n1 : Int)
  case neg =>
    have V := Lib.hid (routS_range (ds := ds) (sc := sc) (args := args) hop (by rw [SL.out]; exact hr))
    have hd : decide (0 ≤ num ∧ num ≤ (n1 : Int) - 1) = false := decide_eq_false (fun h => hr (by omega))
    have HD := Lib.hid hd
    clear hr hd
    go_enter Tryz.func185, Tryz.ntmps185
    go_wp2_with fail
    refine (specInRange _ _ _ _).mono ?_
    rw [HD.out]
    rintro e w1 ⟨rfl, rfl⟩
    go_wp2_with fail
    exact fin_ hQ ⟨ret_i V.out.symm, K0⟩
  obtain ⟨k, rfl⟩ : ∃ k : Nat, num = (k : Int) := ⟨num.toNat, by omega⟩
  have hk : k < n1 := by omega
  have hd : decide (0 ≤ (k : Int) ∧ (k : Int) ≤ (n1 : Int) - 1) = true := decide_eq_true (by omega)
  have HD := Lib.hid hd
  have HS : Hid (sgAt (rs.map sigR) k = sigR (rtAt rs k)) := sgAt_sigR rs (by have := HL.out; omega)
  clear hr hd
  obtain ⟨b, o, rfl, _, ap, np, cp, al, nl, cl, ab, nb, cb, d0, d1, d2, d3, d4, r0, rl, r4⟩ := HA.out k hk
  generalize hF : rtAt rs k = f at d2 d4 r0 rl r4 HS
  have g0 := (K0.cell (World.block_lt_of_cell? w _ d0) (fun h => h)).trans d0
  have g1 := (K0.cell (World.block_lt_of_cell? w _ d1) (fun h => h)).trans d1
  have g2 := (K0.cell (World.block_lt_of_cell? w _ d2) (fun h => h)).trans d2
  have g3 := (K0.cell (World.block_lt_of_cell? w _ d3) (fun h => h)).trans d3
  have g4 := (K0.cell (World.block_lt_of_cell? w _ d4) (fun h => h)).trans d4
  have HPL := Lib.hid (ints_at r0).1
  have HLL := Lib.hid (ints_at rl).1
  have K1 := K0.trans (Keep.al _ (.cells #[.slice ap np cp, .slice al nl cl, .int .i64 f.result, .slice ab nb cb, .int .i64 f.body.result] 71))
  clear d0 d1 d2 d3 d4 hF
  rcases hop with rfl | rfl
  · have V0 := Lib.hid (routS_call (ds := ds) (sg := rs.map sigR) (k := k) (sc := sc) (args := args) (by rw [SL.out]; exact hk))
    have RF := rowOf ((w.alloc (.cells #[.slice a0 n0 c0, .slice (some ⟨b, o, none⟩) n1 c1] 30)).alloc (.cells #[.int .i64 9, .int .i64 (k : Int), .int .i64 into, .slice aa na ca, .slice ak nk ck] 136)) #[.slice ap np cp, .slice al nl cl, .int .i64 f.result, .slice ab nb cb, .int .i64 f.body.result] 71
    simp only [World.size_alloc] at RF
    cases ht : typedL sc args f.params
    · have V : Hid (routS ds (rs.map sigR) sc 9 (k : Int) args = -1) := by show _ = _; rw [V0.out, if_neg (by rw [HS.out]; show ¬ (typedL sc args f.params = true); rw [ht]; simp)]
      have HT := Lib.hid ht
      clear ht
      go_enter Tryz.func185, Tryz.ntmps185
      go_wp2_with fail
      refine (specInRange _ _ _ _).mono ?_
      rw [HD.out]
      rintro e w1 ⟨rfl, rfl⟩
      go_wp2_with fail
      refine (specTyped _ _ _ _ _ _ _ _ _ _ _ _ _ _ _ _ (hv.k K1).toInts (ha.k K1).toInts (r0.k K1).toInts hnv hna).mono ?_
      rw [HT.out]
      rintro e w2 ⟨rfl, p2⟩
      have y1 := (row_ext RF p2 (fun h => h)).cell (i := 2) (by simp)
      simp at y1
      go_wp2_with fail
      exact fin_ hQ ⟨ret_i V.out.symm, K1.trans p2⟩
    · have V : Hid (routS ds (rs.map sigR) sc 9 (k : Int) args = f.result) := by show _ = _; rw [V0.out, if_pos (by rw [HS.out]; exact ht), HS.out]; rfl
      have HT := Lib.hid ht
      clear ht
      go_enter Tryz.func185, Tryz.ntmps185
      go_wp2_with fail
      refine (specInRange _ _ _ _).mono ?_
      rw [HD.out]
      rintro e w1 ⟨rfl, rfl⟩
      go_wp2_with fail
      refine (specTyped _ _ _ _ _ _ _ _ _ _ _ _ _ _ _ _ (hv.k K1).toInts (ha.k K1).toInts (r0.k K1).toInts hnv hna).mono ?_
      rw [HT.out]
      rintro e w2 ⟨rfl, p2⟩
      have y1 := (row_ext RF p2 (fun h => h)).cell (i := 2) (by simp)
      simp at y1
      go_wp2_with fail
      exact fin_ hQ ⟨ret_i V.out.symm, K1.trans p2⟩
  · have V0 := Lib.hid (routS_close (ds := ds) (sg := rs.map sigR) (k := k) (sc := sc) (args := args) (by rw [SL.out]; exact hk))
    have RF := rowOf ((w.alloc (.cells #[.slice a0 n0 c0, .slice (some ⟨b, o, none⟩) n1 c1] 30)).alloc (.cells #[.int .i64 10, .int .i64 (k : Int), .int .i64 into, .slice aa na ca, .slice ak nk ck] 136)) #[.slice ap np cp, .slice al nl cl, .int .i64 f.result, .slice ab nb cb, .int .i64 f.body.result] 71
    simp only [World.size_alloc] at RF
    rcases Nat.eq_zero_or_pos np with h0 | h0
    · subst h0
      have V : Hid (routS ds (rs.map sigR) sc 10 (k : Int) args = -1) := by show _ = _; rw [V0.out, if_neg (by rw [HS.out]; intro h; have := HPL.out; have h1 : 0 < f.params.length := h.1; omega)]
      go_enter Tryz.func185, Tryz.ntmps185
      go_wp2_with fail
      refine (specInRange _ _ _ _).mono ?_
      rw [HD.out]
      rintro e w1 ⟨rfl, rfl⟩
      go_wp2_with fail
      go_quiet (fail)
      go_wp2_with fail
      exact fin_ hQ ⟨ret_i V.out.symm, by first | exact K1.drew | exact K1.drewN _⟩
    obtain ⟨m, rfl⟩ : ∃ m, np = m + 1 := ⟨np - 1, by omega⟩
    have hb : (((m + 1 : Nat) : Int) == 0) = false := by simp; omega
    have MP : Hid (f.params.length = m + 1) := HPL.out
    by_cases hl0 : nl = 0
    case neg =>
      have hl1 : 0 < nl := by omega
      have hb2 : ((m : Int) + 1 == 0) = false := by simp; omega
      have V : Hid (routS ds (rs.map sigR) sc 10 (k : Int) args = -1) := by show _ = _; rw [V0.out, if_neg (by rw [HS.out]; intro h; have := HLL.out; have h1 : f.lent.length = 0 := h.2.1; omega)]
      have z1 := RF.cell (i := 1) (by simp)
      simp at z1
      clear hl0
      go_enter Tryz.func185, Tryz.ntmps185
      go_wp2_with fail
      refine (specInRange _ _ _ _).mono ?_
      rw [HD.out]
      rintro e w1 ⟨rfl, rfl⟩
      go_wp2_with fail
      generalize hW : ((w.alloc (.cells #[.slice a0 n0 c0, .slice (some ⟨b, o, none⟩) n1 c1] 30)).alloc (.cells #[.int .i64 10, .int .i64 (k : Int), .int .i64 into, .slice aa na ca, .slice ak nk ck] 136)).alloc (.cells #[.slice ap (m + 1) cp, .slice al nl cl, .int .i64 f.result, .slice ab nb cb, .int .i64 f.body.result] 71) = W3 at *
      clear hW
      go_quiet (fail)
      go_wp2_with fail
      exact fin_ hQ ⟨ret_i V.out.symm, by first | exact K1.drew | exact K1.drewN _⟩
    subst hl0
    obtain ⟨b2, o2, rfl, _, _⟩ := (ints_at r0).2.2.2 0 (by omega)
    have hcp : m + 1 ≤ cp := (ints_at r0).2.1
    have hnp : m + 1 ≤ 9223372036854775807 := (ints_at r0).2.2.1
    have x0 := (R0.alloc (.cells #[.slice (some ⟨b2, o2, none⟩) (m + 1) cp, .slice al 0 cl, .int .i64 f.result, .slice ab nb cb, .int .i64 f.body.result] 71)).cell (i := 0) (by simp)
    have y3 := (R1.alloc (.cells #[.slice (some ⟨b2, o2, none⟩) (m + 1) cp, .slice al 0 cl, .int .i64 f.result, .slice ab nb cb, .int .i64 f.body.result] 71)).cell (i := 3) (by simp)
    have z0 := RF.cell (i := 0) (by simp)
    have z1 := RF.cell (i := 1) (by simp)
    have z2 := RF.cell (i := 2) (by simp)
    simp at x0 y3 z0 z1 z2
    have qd := hd0.k K1
    have qv := hv.k K1
    have qa := ha.k K1
    have qt := (((Rd.toInts r0).take (m := m) (by omega)).toRd (c := cp) (by have := (ints_at r0).2.1; omega) (by have := (ints_at r0).2.2.1; omega)).k K1
    clear RF R0 R1
    cases ht : typedL sc args (f.params.take m)
    · have V : Hid (routS ds (rs.map sigR) sc 10 (k : Int) args = -1) := by
        show _ = _
        rw [V0.out, HS.out, if_neg (fun h => by
          have h1 : typedL sc args (f.params.take (f.params.length - 1)) = true := h.2.2
          rw [MP.out] at h1
          exact absurd (ht.symm.trans h1) (by simp))]
      have HT := Lib.hid ht
      clear ht
      go_enter Tryz.func185, Tryz.ntmps185
      go_wp2_with fail
      refine (specInRange _ _ _ _).mono ?_
      rw [HD.out]
      rintro e w1 ⟨rfl, rfl⟩
      go_wp2_with fail
      generalize hW : ((w.alloc (.cells #[.slice a0 n0 c0, .slice (some ⟨b, o, none⟩) n1 c1] 30)).alloc (.cells #[.int .i64 10, .int .i64 (k : Int), .int .i64 into, .slice aa na ca, .slice ak nk ck] 136)).alloc (.cells #[.slice (some ⟨b2, o2, none⟩) (m + 1) cp, .slice al 0 cl, .int .i64 f.result, .slice ab nb cb, .int .i64 f.body.result] 71) = W3 at *
      have qdd := qd.k (w' := W3.drew) (Ext.refl (fun _ => False) W3).drew
      have qvd := qv.k (w' := W3.drew) (Ext.refl (fun _ => False) W3).drew
      have qad := qa.k (w' := W3.drew) (Ext.refl (fun _ => False) W3).drew
      have qtd := qt.k (w' := W3.drew) (Ext.refl (fun _ => False) W3).drew
      have pc : Keep W3.drew W3.drew := Ext.refl _ _
      clear hW
      have hw8 : IntKind.i64.wrap (m : Int) = (m : Int) := by rw [IntWalk.i64_in _ (by omega)]
      have hw3 : (m : Int) ≤ (cp : Int) := by omega
      have hw4 : (0 : Int) ≤ (m : Int) := by omega
      go_region_held3 (fun w' => w'.cell? ⟨w.heap.size, 0, none⟩ = some (.slice a0 n0 c0) ∧ w'.cell? ⟨w.heap.size + 1, 3, none⟩ = some (.slice aa na ca) ∧ w'.cell? ⟨w.heap.size + 2, 0, none⟩ = some (.slice (some ⟨b2, o2, none⟩) (m + 1) cp) ∧ w'.cell? ⟨w.heap.size + 2, 1, none⟩ = some (.slice al 0 cl))
        (first | exact ⟨Keep.at pc x0, Keep.at pc y3, Keep.at pc z0, Keep.at pc z1⟩ | go_keep)
        ((go_at_call 183; refine (specTyped _ _ _ _ _ _ _ _ _ _ _ _ _ _ _ _ (qvd.k pc).toInts (qad.k pc).toInts (qtd.k pc).toInts hnv hna).mono ?_; rw [HT.out]; rintro e w2 ⟨rfl, p2⟩; replace pc := pc.trans p2))
      have KE := Lib.hid (K1.trans ((Ext.refl (fun _ => False) W3).drew.trans pc))
      go_wp2_with fail
      exact fin_ hQ ⟨ret_i V.out.symm, KE.out⟩
    · have V : Hid (routS ds (rs.map sigR) sc 10 (k : Int) args = arrowL ds (iAt f.params m) f.result) := by
        show _ = _
        rw [V0.out, HS.out, if_pos ⟨by show 0 < f.params.length; rw [MP.out]; omega, by show f.lent.length = 0; exact HLL.out, by show typedL sc args (f.params.take (f.params.length - 1)) = true; rw [MP.out]; exact ht⟩]
        show arrowL ds (iAt f.params (f.params.length - 1)) f.result = _
        rw [MP.out]; rfl
      have HT := Lib.hid ht
      clear ht
      go_enter Tryz.func185, Tryz.ntmps185
      go_wp2_with fail
      refine (specInRange _ _ _ _).mono ?_
      rw [HD.out]
      rintro e w1 ⟨rfl, rfl⟩
      go_wp2_with fail
      generalize hW : ((w.alloc (.cells #[.slice a0 n0 c0, .slice (some ⟨b, o, none⟩) n1 c1] 30)).alloc (.cells #[.int .i64 10, .int .i64 (k : Int), .int .i64 into, .slice aa na ca, .slice ak nk ck] 136)).alloc (.cells #[.slice (some ⟨b2, o2, none⟩) (m + 1) cp, .slice al 0 cl, .int .i64 f.result, .slice ab nb cb, .int .i64 f.body.result] 71) = W3 at *
      have qdd := qd.k (w' := W3.drew) (Ext.refl (fun _ => False) W3).drew
      have qvd := qv.k (w' := W3.drew) (Ext.refl (fun _ => False) W3).drew
      have qad := qa.k (w' := W3.drew) (Ext.refl (fun _ => False) W3).drew
      have qtd := qt.k (w' := W3.drew) (Ext.refl (fun _ => False) W3).drew
      have pc : Keep W3.drew W3.drew := Ext.refl _ _
      clear hW
      have hw8 : IntKind.i64.wrap (m : Int) = (m : Int) := by rw [IntWalk.i64_in _ (by omega)]
      have hw3 : (m : Int) ≤ (cp : Int) := by omega
      have hw4 : (0 : Int) ≤ (m : Int) := by omega
      go_region_held3 (fun w' => w'.cell? ⟨w.heap.size, 0, none⟩ = some (.slice a0 n0 c0) ∧ w'.cell? ⟨w.heap.size + 1, 3, none⟩ = some (.slice aa na ca) ∧ w'.cell? ⟨w.heap.size + 2, 0, none⟩ = some (.slice (some ⟨b2, o2, none⟩) (m + 1) cp) ∧ w'.cell? ⟨w.heap.size + 2, 1, none⟩ = some (.slice al 0 cl))
        (first | exact ⟨Keep.at pc x0, Keep.at pc y3, Keep.at pc z0, Keep.at pc z1⟩ | go_keep)
        ((go_at_call 183; refine (specTyped _ _ _ _ _ _ _ _ _ _ _ _ _ _ _ _ (qvd.k pc).toInts (qad.k pc).toInts (qtd.k pc).toInts hnv hna).mono ?_; rw [HT.out]; rintro e w2 ⟨rfl, p2⟩; replace pc := pc.trans p2))
      have K2 := Lib.hid ((Ext.refl (fun _ => False) W3).drew.trans pc)
      have KE := Lib.hid (K1.trans K2.out)
      obtain ⟨b3, o3, e3, _, d3⟩ := (ints_at r0).2.2.2 m (by omega)
      injection e3 with e3
      injection e3 with e3 e4
      subst e3 e4
      have u0 := Keep.at pc x0
      have v0 := Keep.at pc z0
      have v1 := Keep.at pc z2
      have v2 := (KE.out.cell (World.block_lt_of_cell? _ _ d3) (fun h => h)).trans d3
      have qq := (((Rd.toDecls hd0).ext KE.out (fun _ _ h => h)).ext (S := fun _ => False) (w' := w2.drew) (Ext.refl (fun _ => False) w2).drew (fun _ _ h => h))
      have hw9 : (m : Int) < (m : Int) + 1 := by omega
      clear qdd qvd qad qtd pc x0 y3 z0 z1 z2 d3 hw3
      go_wp2_with fail
      go_region_held3 (fun w' => w'.cell? ⟨w.heap.size, 0, none⟩ = some (.slice a0 n0 c0) ∧ w'.cell? ⟨w.heap.size + 2, 0, none⟩ = some (.slice (some ⟨b2, o2, none⟩) (m + 1) cp) ∧ w'.cell? ⟨w.heap.size + 2, 2, none⟩ = some (.int .i64 f.result) ∧ w'.cell? ⟨b2, o2 + m, none⟩ = some (.int .i64 (iAt f.params m)))
        (first | exact ⟨u0, v0, v1, v2⟩ | go_keep)
        ((go_at_call 198; refine (specArrowOf0 _ _ _ ds _ _ _ _ qq (by omega)).mono ?_; rintro e w3 ⟨rfl, rfl⟩))
      go_wp2_with fail
      exact fin_ hQ ⟨ret_i V.out.symm, KE.out.drew⟩
end Go.Proofs.YtkapldpmjkdmcaaGreat
/- The reference's types of blocks: choices. -/
namespace Go.Proofs.YtkapldpmjkdmcaaGreat
open Go.RowKit

/-- What blockType of the reference does for one block. -/
def BlS (ds : List DeclL) (rs : List RoutL) (res : Int) (ss : List StepL) : Prop := ∀ (a0 : Option Addr) (n0 c0 : Nat) (a1 : Option Addr) (n1 c1 : Nat) (av : Option Addr) (nv cv : Nat) (sc : List Int) (a : Option Addr) (n c : Nat) (w : World),
  NR w ds rs a0 n0 c0 a1 n1 c1 → Rd w (fun _ => True) (encInts sc) (.slice av nv cv) → Rd w (fun _ => True) (encSteps ss) (.slice a n c) → sc.length + 4 * nSs ss ≤ 1052000 → allT ds.length sc = true →
  Calls Tryz.prog 78 #[.agg #[.slice a0 n0 c0, .slice a1 n1 c1], .slice av nv cv, .agg #[.slice a n c, .int .i64 res]] w fun r w' => r = .returned (.int .i64 (runT ds (rs.map sigR) res sc ss)) ∧ Keep w w'
theorem NR.kd {w : World} {ds : List DeclL} {rs : List RoutL} {a0 : Option Addr} {n0 c0 : Nat} {a1 : Option Addr} {n1 c1 : Nat} (h : NR w ds rs a0 n0 c0 a1 n1 c1) : NR w.drew ds rs a0 n0 c0 a1 n1 c1 := h.k (Ext.refl (fun _ => False) w).drew
def kids7 (ds : List DeclL) (sg : List SigL) (sc : List Int) (ks : List BlockL) : Int := if ks.length = 2 then oneT (armT ds sg sc ks [[], []]) else -1
def kids8 (ds : List DeclL) (sg : List SigL) (sc : List Int) (num : Int) (ks : List BlockL) : Int := if 0 < (armsL ds num).length ∧ ks.length = (armsL ds num).length then oneT (armT ds sg sc ks (armsL ds num)) else -1
section
variable (ds : List DeclL) (rs : List RoutL)

set_option maxRecDepth 100000 in
set_option maxHeartbeats 4000000 in
theorem specKids_7 (num into : Int) (ks : List BlockL) (IH0 : ∀ j, j < ks.length → BlS ds rs (bAt ks j).result (bAt ks j).steps) (a0 : Option Addr) (n0 c0 : Nat) (a1 : Option Addr) (n1 c1 : Nat) (av : Option Addr) (nv cv : Nat) (sc : List Int) (aa : Option Addr) (na ca : Nat) (ak : Option Addr) (nk ck : Nat) (w : World)
    (hp : NR w ds rs a0 n0 c0 a1 n1 c1) (hv : Rd w (fun _ => True) (encInts sc) (.slice av nv cv)) (hk : Rd w (fun _ => True) (encBlocks ks) (.slice ak nk ck)) (hlen : sc.length + 4 * (nBs ks + 1) ≤ 1052000) (hall : allT ds.length sc = true) (hok : sigsOk ds (rs.map sigR) = true) :
    Calls Tryz.prog 184 #[.agg #[.slice a0 n0 c0, .slice a1 n1 c1], .slice av nv cv, .agg #[.int .i64 7, .int .i64 num, .int .i64 into, .slice aa na ca, .slice ak nk ck]] w fun r w' => r = .returned (.int .i64 (kids7 ds (rs.map sigR) sc ks)) ∧ Keep w w' := by
  refine calls_k fun Q hQ => ?_
  have ht := (sigsOk_parts hok).1
  have hf := Few.of_ok ht
  have K0 := (Keep.al w (.cells #[.slice a0 n0 c0, .slice a1 n1 c1] 30)).trans (Keep.al _ (.cells #[.int .i64 7, .int .i64 num, .int .i64 into, .slice aa na ca, .slice ak nk ck] 136))
  have R0 := (rowOf w #[.slice a0 n0 c0, .slice a1 n1 c1] 30).alloc (.cells #[.int .i64 7, .int .i64 num, .int .i64 into, .slice aa na ca, .slice ak nk ck] 136)
  have R1 := rowOf (w.alloc (.cells #[.slice a0 n0 c0, .slice a1 n1 c1] 30)) #[.int .i64 7, .int .i64 num, .int .i64 into, .slice aa na ca, .slice ak nk ck] 136
  simp only [World.size_alloc] at R1
  obtain ⟨e1, hnc, hnm, hat⟩ := blocks_at hk
  have HL := Lib.hid e1
  have HA := Lib.hid hat
  have hnv : nv ≤ 1052000 := by have := (ints_at hv).1; omega
  have HOK := Lib.hid hok
  have HAll := Lib.hid hall
  have HLen := Lib.hid hlen
  have HF := Lib.hid hf
  have HT := Lib.hid ht
  have IH := Lib.hid IH0
  have hcl := consL_len hf num
  have HAL := Lib.hid (armsL_len ds num)
  clear e1 hat hok hall ht IH0 hk
  by_cases hn : nk = 2
  case neg =>
    have V : Hid (kids7 ds (rs.map sigR) sc ks = -1) := by show _ = _; rw [kids7, if_neg (by have := HL.out; omega)]
    have hn2 : ((nk : Int) != 2) = true := by simp; omega
    go_enter Tryz.func184, Tryz.ntmps184
    go_wp2_with fail
    refine (specConsOf0 _ _ _ ds _ _ _ (Rd.toDecls (hp.1.k K0)) hf).mono ?_
    rintro e w1 ⟨ac, m, cc, rfl, hmc, oc, p1⟩
    have OC := Lib.hid oc
    have hml : m = (consL ds num).length := oc.1.symm
    have HM := Lib.hid hml
    have hm3 : m ≤ 3 := by omega
    have K1 := Lib.hid (K0.trans p1)
    have R0' := Lib.hid (row_ext R0 p1 (fun h => h))
    have R1' := Lib.hid (row_ext R1 p1 (fun h => h))
    have y0 := R1'.out.cell (i := 0) (by simp)
    have y4 := R1'.out.cell (i := 4) (by simp)
    simp at y0 y4
    have qp := hp.k K1.out
    have qv := hv.k K1.out
    clear oc hml p1 R0 R1 K0
    go_wp2_with fail
    exact fin_ hQ ⟨ret_i V.out.symm, K1.out⟩
  subst hn
  obtain ⟨T, hT⟩ : ∃ T, armT ds (rs.map sigR) sc ks [[], []] = T := ⟨_, rfl⟩
  have HTE := Lib.hid hT
  have HTL : Hid (T.length = ks.length) := by show _ = _; rw [← hT, armT_len]
  have HKS : Hid (ks.length = 2) := by have := HL.out; show _ = _; omega
  have VN : Hid (∀ i, i < T.length → iAt T i ≠ iAt T 0 ∨ iAt T i < 0 → kids7 ds (rs.map sigR) sc ks = -1) := fun i hi h => by rw [kids7, if_pos (by have := HL.out; omega)]; rw [hT]; exact oneT_neg hi h
  have VY : Hid (0 < T.length → (∀ i, i < T.length → iAt T i = iAt T 0 ∧ 0 ≤ iAt T 0) → kids7 ds (rs.map sigR) sc ks = iAt T 0) := fun h0 h => by rw [kids7, if_pos (by have := HL.out; omega)]; rw [hT]; exact oneT_at h0 (h 0 h0).2 (fun i hi => (h i hi).1)
  clear hT
  go_enter Tryz.func184, Tryz.ntmps184
  go_wp2_with fail
  refine (specConsOf0 _ _ _ ds _ _ _ (Rd.toDecls (hp.1.k K0)) hf).mono ?_
  rintro e w1 ⟨ac, m, cc, rfl, hmc, oc, p1⟩
  have OC := Lib.hid oc
  have hml : m = (consL ds num).length := oc.1.symm
  have HM := Lib.hid hml
  have hm3 : m ≤ 3 := by omega
  have K1 := Lib.hid (K0.trans p1)
  have R0' := Lib.hid (row_ext R0 p1 (fun h => h))
  have R1' := Lib.hid (row_ext R1 p1 (fun h => h))
  have y0 := R1'.out.cell (i := 0) (by simp)
  have y4 := R1'.out.cell (i := 4) (by simp)
  simp at y0 y4
  have qp := hp.k K1.out
  have qv := hv.k K1.out
  clear oc hml p1 R0 R1 K0
  go_wp2_with fail
  go_loopw [9, 10] (fun tv iv wr => ∃ (j : Nat) (t : Int), j ≤ 2 ∧ iv = .int .i64 j ∧ tv = .int .i64 t ∧ Hid (0 < j → t = iAt T 0) ∧ Hid (∀ l, l < j → iAt T l = iAt T 0 ∧ 0 ≤ iAt T 0) ∧ Hid (Keep w1 wr)) (fun _ iv _ => 2 - (intOf iv).toNat)
  case atStart => exact ⟨0, 0, Nat.zero_le _, rfl, rfl, (show 0 < 0 → _ from fun h => absurd h (by omega)), fun l hl => absurd hl (by omega), Ext.refl _ _⟩
  case round =>
    obtain ⟨wo, rfl⟩ : ∃ wo : World, wo = wr := ⟨_, rfl⟩
    obtain ⟨j, t, hj, rfl, rfl, hT0, hI, hK⟩ := hrel
    by_cases hlt : j < 2
    · have KW := Lib.hid (K1.out.trans hK.out)
      have HJ : Hid (j < ks.length) := by have := HKS.out; have := HM.out; show _ < _; omega
      have hjk : j < 2 := by have := HL.out; have := HJ.out; omega
      have x0 := (row_ext R0'.out hK.out (fun h => h)).cell (i := 0) (by simp)
      have x1 := (row_ext R0'.out hK.out (fun h => h)).cell (i := 1) (by simp)
      have y0 := (row_ext R1'.out hK.out (fun h => h)).cell (i := 0) (by simp)
      have y4 := (row_ext R1'.out hK.out (fun h => h)).cell (i := 4) (by simp)
      simp at x0 x1 y0 y4
      obtain ⟨b, o, rfl, _, a5, n5, c5, d0, d1, r5⟩ := HA.out j hjk
      have k0 := (KW.out.cell (World.block_lt_of_cell? w _ d0) (fun h => h)).trans d0
      have k1 := (KW.out.cell (World.block_lt_of_cell? w _ d1) (fun h => h)).trans d1
      have qk := (r5.k KW.out).kd
      have qpd := (qp.k hK.out).kd
      have qvd := (qv.k hK.out).kd
      have hb1 : sc.length + 4 * nSs (bAt ks j).steps + 4 ≤ 1052000 := by have := nB_le ks HJ.out; have := nB_eq (bAt ks j); have := HLen.out; omega
      have Z0 : iAt T j = runT ds (rs.map sigR) (bAt ks j).result sc (bAt ks j).steps := by rw [← HTE.out, armT_at ds (rs.map sigR) sc (ks := ks) (fs := [[], []]) HJ.out, blkT_eq]; rcases (show j = 0 ∨ j = 1 by omega) with rfl | rfl <;> simp [cAt]
      generalize hz : iAt T j = z at Z0
      have HZJ := Lib.hid hz
      have HZ : Hid (runT ds (rs.map sigR) (bAt ks j).result sc (bAt ks j).steps = z) := by show _ = _; rw [Z0]
      clear hz Z0 d0 d1 r5
      have hjm : (j : Int) < (2 : Int) := by omega
      have pc := Ext.refl0 wo
      by_cases hz0 : z < 0
      · have V : Hid (kids7 ds (rs.map sigR) sc ks = -1) := VN.out j (by rw [HTL.out]; exact HJ.out) (.inr (by rw [HZJ.out]; exact hz0))
        go_wp2_with fail
        go_region_held3 (fun w' => w'.cell? ⟨w.heap.size, 0, none⟩ = some (.slice a0 n0 c0) ∧ w'.cell? ⟨w.heap.size, 1, none⟩ = some (.slice a1 n1 c1) ∧ w'.cell? ⟨w.heap.size + 1, 4, none⟩ = some (.slice (some ⟨b, o, none⟩) 2 ck) ∧ w'.cell? ⟨b, o + j * 2, none⟩ = some (.slice a5 n5 c5) ∧ w'.cell? ⟨b, o + j * 2 + 1, none⟩ = some (.int .i64 (bAt ks j).result))
          (first | exact ⟨Keep.at pc x0, Keep.at pc x1, Keep.at pc y4, Keep.at pc k0, Keep.at pc k1⟩ | go_keep)
          ((go_at_call 78; refine (IH.out j HJ.out _ _ _ _ _ _ _ _ _ sc _ _ _ _ (qpd.k pc) (qvd.k pc) (qk.k pc) (by omega) HAll.out).mono ?_; rw [HZ.out]; rintro e w3 ⟨rfl, p3⟩; replace pc := pc.trans p3))
        have KE := Lib.hid (K1.out.trans (hK.out.trans (Keep.dt pc)))
        go_wp2_with fail
        exact fin_ hQ ⟨ret_i V.out.symm, KE.out⟩
      rcases Nat.eq_zero_or_pos j with hj0 | hj0
      · have hJ0 := Lib.hid hj0
        have hj1 : ¬ 0 < j := by omega
        have hj2 : ¬ (0 : Int) < (j : Int) := by omega
        have hI2 : Hid (∀ l, l < j + 1 → iAt T l = iAt T 0 ∧ 0 ≤ iAt T 0) := by
          intro l hl
          have hl0 : l = j := by omega
          have h0 : iAt T 0 = z := by rw [← hj0]; exact HZJ.out
          rw [hl0, HZJ.out, h0]
          exact ⟨rfl, by omega⟩
        have hZ0 : Hid (z = iAt T 0) := by show _ = _; rw [← HZJ.out, hj0]
        clear hj0
        go_wp2_with fail
        go_region_held3 (fun w' => w'.cell? ⟨w.heap.size, 0, none⟩ = some (.slice a0 n0 c0) ∧ w'.cell? ⟨w.heap.size, 1, none⟩ = some (.slice a1 n1 c1) ∧ w'.cell? ⟨w.heap.size + 1, 4, none⟩ = some (.slice (some ⟨b, o, none⟩) 2 ck) ∧ w'.cell? ⟨b, o + j * 2, none⟩ = some (.slice a5 n5 c5) ∧ w'.cell? ⟨b, o + j * 2 + 1, none⟩ = some (.int .i64 (bAt ks j).result))
          (first | exact ⟨Keep.at pc x0, Keep.at pc x1, Keep.at pc y4, Keep.at pc k0, Keep.at pc k1⟩ | go_keep)
          ((go_at_call 78; refine (IH.out j HJ.out _ _ _ _ _ _ _ _ _ sc _ _ _ _ (qpd.k pc) (qvd.k pc) (qk.k pc) (by omega) HAll.out).mono ?_; rw [HZ.out]; rintro e w3 ⟨rfl, p3⟩; replace pc := pc.trans p3))
        have KE := Lib.hid (hK.out.trans (Keep.dt pc))
        clear pc qk qvd
        go_wp2_with fail
        go_roundw
        case rel => exact ⟨j + 1, z, by omega, by go_num, rfl, fun _ => hZ0.out, hI2, KE.out⟩
        case measure => simp [intOf]; omega
      have hj0' : (0 : Int) < (j : Int) := by omega
      have hT1 := Lib.hid (hT0.out hj0)
      by_cases hzt : z = t
      · have hzt' : (z != t) = false := by simpa using hzt
        have hI2 : Hid (∀ l, l < j + 1 → iAt T l = iAt T 0 ∧ 0 ≤ iAt T 0) := by
          intro l hl
          rcases Nat.lt_succ_iff_lt_or_eq.1 hl with h | rfl
          · exact hI.out l h
          · exact ⟨by rw [HZJ.out, hzt]; exact hT1.out, by rw [← hT1.out, ← hzt]; omega⟩
        have HZT := Lib.hid hzt
        clear hzt
        go_wp2_with fail
        go_region_held3 (fun w' => w'.cell? ⟨w.heap.size, 0, none⟩ = some (.slice a0 n0 c0) ∧ w'.cell? ⟨w.heap.size, 1, none⟩ = some (.slice a1 n1 c1) ∧ w'.cell? ⟨w.heap.size + 1, 4, none⟩ = some (.slice (some ⟨b, o, none⟩) 2 ck) ∧ w'.cell? ⟨b, o + j * 2, none⟩ = some (.slice a5 n5 c5) ∧ w'.cell? ⟨b, o + j * 2 + 1, none⟩ = some (.int .i64 (bAt ks j).result))
          (first | exact ⟨Keep.at pc x0, Keep.at pc x1, Keep.at pc y4, Keep.at pc k0, Keep.at pc k1⟩ | go_keep)
          ((go_at_call 78; refine (IH.out j HJ.out _ _ _ _ _ _ _ _ _ sc _ _ _ _ (qpd.k pc) (qvd.k pc) (qk.k pc) (by omega) HAll.out).mono ?_; rw [HZ.out]; rintro e w3 ⟨rfl, p3⟩; replace pc := pc.trans p3))
        have KE := Lib.hid (hK.out.trans (Keep.dt pc))
        clear pc qk qvd
        go_wp2_with fail
        go_roundw
        case rel => exact ⟨j + 1, z, by omega, by go_num, rfl, fun _ => HZT.out.trans hT1.out, hI2, KE.out⟩
        case measure => simp [intOf]; omega
      · have hzt' : (z != t) = true := by simpa using hzt
        have V : Hid (kids7 ds (rs.map sigR) sc ks = -1) := VN.out j (by rw [HTL.out]; exact HJ.out) (.inl (by rw [HZJ.out, ← hT1.out]; exact hzt))
        clear hzt
        go_wp2_with fail
        go_region_held3 (fun w' => w'.cell? ⟨w.heap.size, 0, none⟩ = some (.slice a0 n0 c0) ∧ w'.cell? ⟨w.heap.size, 1, none⟩ = some (.slice a1 n1 c1) ∧ w'.cell? ⟨w.heap.size + 1, 4, none⟩ = some (.slice (some ⟨b, o, none⟩) 2 ck) ∧ w'.cell? ⟨b, o + j * 2, none⟩ = some (.slice a5 n5 c5) ∧ w'.cell? ⟨b, o + j * 2 + 1, none⟩ = some (.int .i64 (bAt ks j).result))
          (first | exact ⟨Keep.at pc x0, Keep.at pc x1, Keep.at pc y4, Keep.at pc k0, Keep.at pc k1⟩ | go_keep)
          ((go_at_call 78; refine (IH.out j HJ.out _ _ _ _ _ _ _ _ _ sc _ _ _ _ (qpd.k pc) (qvd.k pc) (qk.k pc) (by omega) HAll.out).mono ?_; rw [HZ.out]; rintro e w3 ⟨rfl, p3⟩; replace pc := pc.trans p3))
        have KE := Lib.hid (K1.out.trans (hK.out.trans (Keep.dt pc)))
        go_wp2_with fail
        exact fin_ hQ ⟨ret_i V.out.symm, KE.out⟩
    · have HJ : Hid (j = 2) := by show _ = _; omega
      have hj0 : ¬ j = 0 := by have := HJ.out; have := HM.out; omega
      have V : Hid (kids7 ds (rs.map sigR) sc ks = iAt T 0) := VY.out (by have := HTL.out; have := HKS.out; have := HM.out; omega) (fun l hl => hI.out l (by have := HTL.out; have := HKS.out; have := HM.out; omega))
      have hT1 := Lib.hid (hT0.out (by omega))
      go_wp2_with fail
      exact fin_ hQ ⟨ret_i (by rw [V.out]; exact hT1.out), K1.out.trans hK.out⟩

set_option maxRecDepth 100000 in
set_option maxHeartbeats 4000000 in
theorem specKids_8 (num into : Int) (ks : List BlockL) (IH0 : ∀ j, j < ks.length → BlS ds rs (bAt ks j).result (bAt ks j).steps) (a0 : Option Addr) (n0 c0 : Nat) (a1 : Option Addr) (n1 c1 : Nat) (av : Option Addr) (nv cv : Nat) (sc : List Int) (aa : Option Addr) (na ca : Nat) (ak : Option Addr) (nk ck : Nat) (w : World)
    (hp : NR w ds rs a0 n0 c0 a1 n1 c1) (hv : Rd w (fun _ => True) (encInts sc) (.slice av nv cv)) (hk : Rd w (fun _ => True) (encBlocks ks) (.slice ak nk ck)) (hlen : sc.length + 4 * (nBs ks + 1) ≤ 1052000) (hall : allT ds.length sc = true) (hok : sigsOk ds (rs.map sigR) = true) :
    Calls Tryz.prog 184 #[.agg #[.slice a0 n0 c0, .slice a1 n1 c1], .slice av nv cv, .agg #[.int .i64 8, .int .i64 num, .int .i64 into, .slice aa na ca, .slice ak nk ck]] w fun r w' => r = .returned (.int .i64 (kids8 ds (rs.map sigR) sc num ks)) ∧ Keep w w' := by
  refine calls_k fun Q hQ => ?_
  have ht := (sigsOk_parts hok).1
  have hf := Few.of_ok ht
  have K0 := (Keep.al w (.cells #[.slice a0 n0 c0, .slice a1 n1 c1] 30)).trans (Keep.al _ (.cells #[.int .i64 8, .int .i64 num, .int .i64 into, .slice aa na ca, .slice ak nk ck] 136))
  have R0 := (rowOf w #[.slice a0 n0 c0, .slice a1 n1 c1] 30).alloc (.cells #[.int .i64 8, .int .i64 num, .int .i64 into, .slice aa na ca, .slice ak nk ck] 136)
  have R1 := rowOf (w.alloc (.cells #[.slice a0 n0 c0, .slice a1 n1 c1] 30)) #[.int .i64 8, .int .i64 num, .int .i64 into, .slice aa na ca, .slice ak nk ck] 136
  simp only [World.size_alloc] at R1
  obtain ⟨e1, hnc, hnm, hat⟩ := blocks_at hk
  have HL := Lib.hid e1
  have HA := Lib.hid hat
  have hnv : nv ≤ 1052000 := by have := (ints_at hv).1; omega
  have HOK := Lib.hid hok
  have HAll := Lib.hid hall
  have HLen := Lib.hid hlen
  have HF := Lib.hid hf
  have HT := Lib.hid ht
  have IH := Lib.hid IH0
  have hcl := consL_len hf num
  have HAL := Lib.hid (armsL_len ds num)
  clear e1 hat hok hall ht IH0 hk
  rcases Nat.eq_zero_or_pos (consL ds num).length with hm0 | hm0
  · have V : Hid (kids8 ds (rs.map sigR) sc num ks = -1) := by show _ = _; rw [kids8, if_neg (by rw [HAL.out]; omega)]
    go_enter Tryz.func184, Tryz.ntmps184
    go_wp2_with fail
    refine (specConsOf0 _ _ _ ds _ _ _ (Rd.toDecls (hp.1.k K0)) hf).mono ?_
    rintro e w1 ⟨ac, m, cc, rfl, hmc, oc, p1⟩
    have OC := Lib.hid oc
    have hml : m = (consL ds num).length := oc.1.symm
    have HM := Lib.hid hml
    have hm3 : m ≤ 3 := by omega
    have K1 := Lib.hid (K0.trans p1)
    have R0' := Lib.hid (row_ext R0 p1 (fun h => h))
    have R1' := Lib.hid (row_ext R1 p1 (fun h => h))
    have y0 := R1'.out.cell (i := 0) (by simp)
    have y4 := R1'.out.cell (i := 4) (by simp)
    simp at y0 y4
    have qp := hp.k K1.out
    have qv := hv.k K1.out
    clear oc hml p1 R0 R1 K0
    have hmz : m = 0 := by have := HM.out; omega
    subst hmz
    go_wp2_with fail
    exact fin_ hQ ⟨ret_i V.out.symm, K1.out⟩
  by_cases hn : nk = (consL ds num).length
  case neg =>
    have V : Hid (kids8 ds (rs.map sigR) sc num ks = -1) := by show _ = _; rw [kids8, if_neg (by rw [HAL.out]; have := HL.out; omega)]
    go_enter Tryz.func184, Tryz.ntmps184
    go_wp2_with fail
    refine (specConsOf0 _ _ _ ds _ _ _ (Rd.toDecls (hp.1.k K0)) hf).mono ?_
    rintro e w1 ⟨ac, m, cc, rfl, hmc, oc, p1⟩
    have OC := Lib.hid oc
    have hml : m = (consL ds num).length := oc.1.symm
    have HM := Lib.hid hml
    have hm3 : m ≤ 3 := by omega
    have K1 := Lib.hid (K0.trans p1)
    have R0' := Lib.hid (row_ext R0 p1 (fun h => h))
    have R1' := Lib.hid (row_ext R1 p1 (fun h => h))
    have y0 := R1'.out.cell (i := 0) (by simp)
    have y4 := R1'.out.cell (i := 4) (by simp)
    simp at y0 y4
    have qp := hp.k K1.out
    have qv := hv.k K1.out
    clear oc hml p1 R0 R1 K0
    have hmz : ((m : Int) == 0) = false := by have := HM.out; simp; omega
    have hmz2 : ((nk : Int) != (m : Int)) = true := by have := HM.out; simp; omega
    go_wp2_with fail
    exact fin_ hQ ⟨ret_i V.out.symm, K1.out⟩
  have hnA : nk ≤ (consL ds num).length := by omega
  have hnB : (consL ds num).length ≤ nk := by omega
  clear hn
  obtain ⟨T, hT⟩ : ∃ T, armT ds (rs.map sigR) sc ks (armsL ds num) = T := ⟨_, rfl⟩
  have HTE := Lib.hid hT
  have HTL : Hid (T.length = ks.length) := by show _ = _; rw [← hT, armT_len]
  have HKS : Hid (ks.length = (consL ds num).length) := by have := HL.out; show _ = _; omega
  have VN : Hid (∀ i, i < T.length → iAt T i ≠ iAt T 0 ∨ iAt T i < 0 → kids8 ds (rs.map sigR) sc num ks = -1) := fun i hi h => by rw [kids8, if_pos ⟨by rw [HAL.out]; omega, by rw [HAL.out]; have := HL.out; omega⟩]; rw [hT]; exact oneT_neg hi h
  have VY : Hid (0 < T.length → (∀ i, i < T.length → iAt T i = iAt T 0 ∧ 0 ≤ iAt T 0) → kids8 ds (rs.map sigR) sc num ks = iAt T 0) := fun h0 h => by rw [kids8, if_pos ⟨by rw [HAL.out]; omega, by rw [HAL.out]; have := HL.out; omega⟩]; rw [hT]; exact oneT_at h0 (h 0 h0).2 (fun i hi => (h i hi).1)
  clear hT
  go_enter Tryz.func184, Tryz.ntmps184
  go_wp2_with fail
  refine (specConsOf0 _ _ _ ds _ _ _ (Rd.toDecls (hp.1.k K0)) hf).mono ?_
  rintro e w1 ⟨ac, m, cc, rfl, hmc, oc, p1⟩
  have OC := Lib.hid oc
  have hml : m = (consL ds num).length := oc.1.symm
  have HM := Lib.hid hml
  have hm3 : m ≤ 3 := by omega
  have K1 := Lib.hid (K0.trans p1)
  have R0' := Lib.hid (row_ext R0 p1 (fun h => h))
  have R1' := Lib.hid (row_ext R1 p1 (fun h => h))
  have y0 := R1'.out.cell (i := 0) (by simp)
  have y4 := R1'.out.cell (i := 4) (by simp)
  simp at y0 y4
  have qp := hp.k K1.out
  have qv := hv.k K1.out
  clear oc hml p1 R0 R1 K0
  have hmz : ((m : Int) == 0) = false := by have := HM.out; simp; omega
  have hmz2 : ((nk : Int) != (m : Int)) = false := by have := HM.out; simp; omega
  go_wp2_with fail
  clear hmz hmz2
  go_loopw [9, 10] (fun tv iv wr => ∃ (j : Nat) (t : Int), j ≤ m ∧ iv = .int .i64 j ∧ tv = .int .i64 t ∧ Hid (0 < j → t = iAt T 0) ∧ Hid (∀ l, l < j → iAt T l = iAt T 0 ∧ 0 ≤ iAt T 0) ∧ Hid (Keep w1 wr)) (fun _ iv _ => m - (intOf iv).toNat)
  case atStart => exact ⟨0, 0, Nat.zero_le _, rfl, rfl, (show 0 < 0 → _ from fun h => absurd h (by omega)), fun l hl => absurd hl (by omega), Ext.refl _ _⟩
  case round =>
    obtain ⟨wo, rfl⟩ : ∃ wo : World, wo = wr := ⟨_, rfl⟩
    obtain ⟨j, t, hj, rfl, rfl, hT0, hI, hK⟩ := hrel
    by_cases hlt : j < m
    · have KW := Lib.hid (K1.out.trans hK.out)
      have HJ : Hid (j < ks.length) := by have := HKS.out; have := HM.out; show _ < _; omega
      have hjk : j < nk := by have := HL.out; have := HJ.out; omega
      have x0 := (row_ext R0'.out hK.out (fun h => h)).cell (i := 0) (by simp)
      have x1 := (row_ext R0'.out hK.out (fun h => h)).cell (i := 1) (by simp)
      have y0 := (row_ext R1'.out hK.out (fun h => h)).cell (i := 0) (by simp)
      have y4 := (row_ext R1'.out hK.out (fun h => h)).cell (i := 4) (by simp)
      simp at x0 x1 y0 y4
      obtain ⟨bc, oc, rfl, _, hcq⟩ := (OC.out.read).2 (by omega)
      have dj := hcq j hlt
      have cq := (hK.out.cell (World.block_lt_of_cell? _ _ dj) (fun h => h)).trans dj
      have HFO := Lib.hid (conFieldsL_ok HT.out (iAt (consL ds num) j))
      have hfo : (conFieldsL ds (iAt (consL ds num) j)).length ≤ 3 := HFO.out.1
      clear hcq dj
      obtain ⟨b, o, rfl, _, a5, n5, c5, d0, d1, r5⟩ := HA.out j hjk
      have k0 := (KW.out.cell (World.block_lt_of_cell? w _ d0) (fun h => h)).trans d0
      have k1 := (KW.out.cell (World.block_lt_of_cell? w _ d1) (fun h => h)).trans d1
      have qk := (r5.k KW.out).kd
      have qpd := (qp.k hK.out).kd
      have qvd := (qv.k hK.out).kd
      have hb1 : sc.length + 4 * nSs (bAt ks j).steps + 4 ≤ 1052000 := by have := nB_le ks HJ.out; have := nB_eq (bAt ks j); have := HLen.out; omega
      have Z0 : iAt T j = runT ds (rs.map sigR) (bAt ks j).result (sc ++ conFieldsL ds (iAt (consL ds num) j)) (bAt ks j).steps := by rw [← HTE.out, armT_at ds (rs.map sigR) sc (ks := ks) (fs := (armsL ds num)) HJ.out, blkT_eq]; rw [armsL_at (by have := HM.out; omega)]
      generalize hz : iAt T j = z at Z0
      have HZJ := Lib.hid hz
      have HZ : Hid (runT ds (rs.map sigR) (bAt ks j).result (sc ++ conFieldsL ds (iAt (consL ds num) j)) (bAt ks j).steps = z) := by show _ = _; rw [Z0]
      clear hz Z0 d0 d1 r5
      have hjm : (j : Int) < (m : Int) := by omega
      have pc := Ext.refl0 wo
      by_cases hz0 : z < 0
      · have V : Hid (kids8 ds (rs.map sigR) sc num ks = -1) := VN.out j (by rw [HTL.out]; exact HJ.out) (.inr (by rw [HZJ.out]; exact hz0))
        go_wp2_with fail
        go_region_held3 (fun w' => w'.cell? ⟨w.heap.size, 0, none⟩ = some (.slice a0 n0 c0) ∧ w'.cell? ⟨bc, oc + j, none⟩ = some (.int .i64 (iAt (consL ds num) j)))
          (first | exact ⟨Keep.at pc x0, Keep.at pc cq⟩ | go_keep)
          (first
            | (go_at_call 148; refine (specConFields0 _ _ _ ds _ _ _ (Rd.toDecls (qpd.k pc).1) HF.out).mono ?_; rintro e wa ⟨fa, fm, fc, rfl, hfc, fi, pa⟩; replace pc := pc.trans pa)
            | (go_at_call 149; refine (specExtend _ _ _ sc _ _ _ _ _ _ _ (Rd.toInts (qvd.k pc)) (by omega) fi (by have := fi.1; omega)).mono ?_; rintro e wb ⟨xa, xn, xc, rfl, hxc, ox, pb⟩; replace pc := pc.trans pb))
        have KX := Lib.hid (Keep.dt pc)
        have x0 := Keep.at pc x0
        have x1 := Keep.at pc x1
        have y4 := Keep.at pc y4
        have y0 := Keep.at pc y0
        have k0 := Keep.at pc k0
        have k1 := Keep.at pc k1
        have qpd := (qpd.k pc).kd
        have qk := (qk.k pc).kd
        have qx := ((ox.read.toRd hxc (by have := ox.1; simp at this; omega)).t).kd
        clear pc qvd cq
        have pc := Ext.refl0 wb
        go_wp2_with fail
        go_region_held3 (fun w' => w'.cell? ⟨w.heap.size, 0, none⟩ = some (.slice a0 n0 c0) ∧ w'.cell? ⟨w.heap.size, 1, none⟩ = some (.slice a1 n1 c1) ∧ w'.cell? ⟨w.heap.size + 1, 4, none⟩ = some (.slice (some ⟨b, o, none⟩) nk ck) ∧ w'.cell? ⟨b, o + j * 2, none⟩ = some (.slice a5 n5 c5) ∧ w'.cell? ⟨b, o + j * 2 + 1, none⟩ = some (.int .i64 (bAt ks j).result))
          (first | exact ⟨Keep.at pc x0, Keep.at pc x1, Keep.at pc y4, Keep.at pc k0, Keep.at pc k1⟩ | go_keep)
          ((go_at_call 78; refine (IH.out j HJ.out _ _ _ _ _ _ _ _ _ _ _ _ _ _ (qpd.k pc) (qx.k pc) (qk.k pc) (by rw [List.length_append]; omega) (allT_append HAll.out HFO.out.2)).mono ?_; rw [HZ.out]; rintro e w3 ⟨rfl, p3⟩; replace pc := pc.trans p3))
        have KE := Lib.hid (K1.out.trans ((hK.out.trans KX.out).trans (Keep.dt pc)))
        go_wp2_with fail
        exact fin_ hQ ⟨ret_i V.out.symm, KE.out⟩
      rcases Nat.eq_zero_or_pos j with hj0 | hj0
      · have hJ0 := Lib.hid hj0
        have hj1 : ¬ 0 < j := by omega
        have hj2 : ¬ (0 : Int) < (j : Int) := by omega
        have hI2 : Hid (∀ l, l < j + 1 → iAt T l = iAt T 0 ∧ 0 ≤ iAt T 0) := by
          intro l hl
          have hl0 : l = j := by omega
          have h0 : iAt T 0 = z := by rw [← hj0]; exact HZJ.out
          rw [hl0, HZJ.out, h0]
          exact ⟨rfl, by omega⟩
        have hZ0 : Hid (z = iAt T 0) := by show _ = _; rw [← HZJ.out, hj0]
        clear hj0
        go_wp2_with fail
        go_region_held3 (fun w' => w'.cell? ⟨w.heap.size, 0, none⟩ = some (.slice a0 n0 c0) ∧ w'.cell? ⟨bc, oc + j, none⟩ = some (.int .i64 (iAt (consL ds num) j)))
          (first | exact ⟨Keep.at pc x0, Keep.at pc cq⟩ | go_keep)
          (first
            | (go_at_call 148; refine (specConFields0 _ _ _ ds _ _ _ (Rd.toDecls (qpd.k pc).1) HF.out).mono ?_; rintro e wa ⟨fa, fm, fc, rfl, hfc, fi, pa⟩; replace pc := pc.trans pa)
            | (go_at_call 149; refine (specExtend _ _ _ sc _ _ _ _ _ _ _ (Rd.toInts (qvd.k pc)) (by omega) fi (by have := fi.1; omega)).mono ?_; rintro e wb ⟨xa, xn, xc, rfl, hxc, ox, pb⟩; replace pc := pc.trans pb))
        have KX := Lib.hid (Keep.dt pc)
        have x0 := Keep.at pc x0
        have x1 := Keep.at pc x1
        have y4 := Keep.at pc y4
        have y0 := Keep.at pc y0
        have k0 := Keep.at pc k0
        have k1 := Keep.at pc k1
        have qpd := (qpd.k pc).kd
        have qk := (qk.k pc).kd
        have qx := ((ox.read.toRd hxc (by have := ox.1; simp at this; omega)).t).kd
        clear pc qvd cq
        have pc := Ext.refl0 wb
        go_wp2_with fail
        go_region_held3 (fun w' => w'.cell? ⟨w.heap.size, 0, none⟩ = some (.slice a0 n0 c0) ∧ w'.cell? ⟨w.heap.size, 1, none⟩ = some (.slice a1 n1 c1) ∧ w'.cell? ⟨w.heap.size + 1, 4, none⟩ = some (.slice (some ⟨b, o, none⟩) nk ck) ∧ w'.cell? ⟨b, o + j * 2, none⟩ = some (.slice a5 n5 c5) ∧ w'.cell? ⟨b, o + j * 2 + 1, none⟩ = some (.int .i64 (bAt ks j).result))
          (first | exact ⟨Keep.at pc x0, Keep.at pc x1, Keep.at pc y4, Keep.at pc k0, Keep.at pc k1⟩ | go_keep)
          ((go_at_call 78; refine (IH.out j HJ.out _ _ _ _ _ _ _ _ _ _ _ _ _ _ (qpd.k pc) (qx.k pc) (qk.k pc) (by rw [List.length_append]; omega) (allT_append HAll.out HFO.out.2)).mono ?_; rw [HZ.out]; rintro e w3 ⟨rfl, p3⟩; replace pc := pc.trans p3))
        have KE := Lib.hid ((hK.out.trans KX.out).trans (Keep.dt pc))
        clear pc qk qx
        go_wp2_with fail
        go_roundw
        case rel => exact ⟨j + 1, z, by omega, by go_num, rfl, fun _ => hZ0.out, hI2, KE.out⟩
        case measure => simp [intOf]; omega
      have hj0' : (0 : Int) < (j : Int) := by omega
      have hT1 := Lib.hid (hT0.out hj0)
      by_cases hzt : z = t
      · have hzt' : (z != t) = false := by simpa using hzt
        have hI2 : Hid (∀ l, l < j + 1 → iAt T l = iAt T 0 ∧ 0 ≤ iAt T 0) := by
          intro l hl
          rcases Nat.lt_succ_iff_lt_or_eq.1 hl with h | rfl
          · exact hI.out l h
          · exact ⟨by rw [HZJ.out, hzt]; exact hT1.out, by rw [← hT1.out, ← hzt]; omega⟩
        have HZT := Lib.hid hzt
        clear hzt
        go_wp2_with fail
        go_region_held3 (fun w' => w'.cell? ⟨w.heap.size, 0, none⟩ = some (.slice a0 n0 c0) ∧ w'.cell? ⟨bc, oc + j, none⟩ = some (.int .i64 (iAt (consL ds num) j)))
          (first | exact ⟨Keep.at pc x0, Keep.at pc cq⟩ | go_keep)
          (first
            | (go_at_call 148; refine (specConFields0 _ _ _ ds _ _ _ (Rd.toDecls (qpd.k pc).1) HF.out).mono ?_; rintro e wa ⟨fa, fm, fc, rfl, hfc, fi, pa⟩; replace pc := pc.trans pa)
            | (go_at_call 149; refine (specExtend _ _ _ sc _ _ _ _ _ _ _ (Rd.toInts (qvd.k pc)) (by omega) fi (by have := fi.1; omega)).mono ?_; rintro e wb ⟨xa, xn, xc, rfl, hxc, ox, pb⟩; replace pc := pc.trans pb))
        have KX := Lib.hid (Keep.dt pc)
        have x0 := Keep.at pc x0
        have x1 := Keep.at pc x1
        have y4 := Keep.at pc y4
        have y0 := Keep.at pc y0
        have k0 := Keep.at pc k0
        have k1 := Keep.at pc k1
        have qpd := (qpd.k pc).kd
        have qk := (qk.k pc).kd
        have qx := ((ox.read.toRd hxc (by have := ox.1; simp at this; omega)).t).kd
        clear pc qvd cq
        have pc := Ext.refl0 wb
        go_wp2_with fail
        go_region_held3 (fun w' => w'.cell? ⟨w.heap.size, 0, none⟩ = some (.slice a0 n0 c0) ∧ w'.cell? ⟨w.heap.size, 1, none⟩ = some (.slice a1 n1 c1) ∧ w'.cell? ⟨w.heap.size + 1, 4, none⟩ = some (.slice (some ⟨b, o, none⟩) nk ck) ∧ w'.cell? ⟨b, o + j * 2, none⟩ = some (.slice a5 n5 c5) ∧ w'.cell? ⟨b, o + j * 2 + 1, none⟩ = some (.int .i64 (bAt ks j).result))
          (first | exact ⟨Keep.at pc x0, Keep.at pc x1, Keep.at pc y4, Keep.at pc k0, Keep.at pc k1⟩ | go_keep)
          ((go_at_call 78; refine (IH.out j HJ.out _ _ _ _ _ _ _ _ _ _ _ _ _ _ (qpd.k pc) (qx.k pc) (qk.k pc) (by rw [List.length_append]; omega) (allT_append HAll.out HFO.out.2)).mono ?_; rw [HZ.out]; rintro e w3 ⟨rfl, p3⟩; replace pc := pc.trans p3))
        have KE := Lib.hid ((hK.out.trans KX.out).trans (Keep.dt pc))
        clear pc qk qx
        go_wp2_with fail
        go_roundw
        case rel => exact ⟨j + 1, z, by omega, by go_num, rfl, fun _ => HZT.out.trans hT1.out, hI2, KE.out⟩
        case measure => simp [intOf]; omega
      · have hzt' : (z != t) = true := by simpa using hzt
        have V : Hid (kids8 ds (rs.map sigR) sc num ks = -1) := VN.out j (by rw [HTL.out]; exact HJ.out) (.inl (by rw [HZJ.out, ← hT1.out]; exact hzt))
        clear hzt
        go_wp2_with fail
        go_region_held3 (fun w' => w'.cell? ⟨w.heap.size, 0, none⟩ = some (.slice a0 n0 c0) ∧ w'.cell? ⟨bc, oc + j, none⟩ = some (.int .i64 (iAt (consL ds num) j)))
          (first | exact ⟨Keep.at pc x0, Keep.at pc cq⟩ | go_keep)
          (first
            | (go_at_call 148; refine (specConFields0 _ _ _ ds _ _ _ (Rd.toDecls (qpd.k pc).1) HF.out).mono ?_; rintro e wa ⟨fa, fm, fc, rfl, hfc, fi, pa⟩; replace pc := pc.trans pa)
            | (go_at_call 149; refine (specExtend _ _ _ sc _ _ _ _ _ _ _ (Rd.toInts (qvd.k pc)) (by omega) fi (by have := fi.1; omega)).mono ?_; rintro e wb ⟨xa, xn, xc, rfl, hxc, ox, pb⟩; replace pc := pc.trans pb))
        have KX := Lib.hid (Keep.dt pc)
        have x0 := Keep.at pc x0
        have x1 := Keep.at pc x1
        have y4 := Keep.at pc y4
        have y0 := Keep.at pc y0
        have k0 := Keep.at pc k0
        have k1 := Keep.at pc k1
        have qpd := (qpd.k pc).kd
        have qk := (qk.k pc).kd
        have qx := ((ox.read.toRd hxc (by have := ox.1; simp at this; omega)).t).kd
        clear pc qvd cq
        have pc := Ext.refl0 wb
        go_wp2_with fail
        go_region_held3 (fun w' => w'.cell? ⟨w.heap.size, 0, none⟩ = some (.slice a0 n0 c0) ∧ w'.cell? ⟨w.heap.size, 1, none⟩ = some (.slice a1 n1 c1) ∧ w'.cell? ⟨w.heap.size + 1, 4, none⟩ = some (.slice (some ⟨b, o, none⟩) nk ck) ∧ w'.cell? ⟨b, o + j * 2, none⟩ = some (.slice a5 n5 c5) ∧ w'.cell? ⟨b, o + j * 2 + 1, none⟩ = some (.int .i64 (bAt ks j).result))
          (first | exact ⟨Keep.at pc x0, Keep.at pc x1, Keep.at pc y4, Keep.at pc k0, Keep.at pc k1⟩ | go_keep)
          ((go_at_call 78; refine (IH.out j HJ.out _ _ _ _ _ _ _ _ _ _ _ _ _ _ (qpd.k pc) (qx.k pc) (qk.k pc) (by rw [List.length_append]; omega) (allT_append HAll.out HFO.out.2)).mono ?_; rw [HZ.out]; rintro e w3 ⟨rfl, p3⟩; replace pc := pc.trans p3))
        have KE := Lib.hid (K1.out.trans ((hK.out.trans KX.out).trans (Keep.dt pc)))
        go_wp2_with fail
        exact fin_ hQ ⟨ret_i V.out.symm, KE.out⟩
    · have HJ : Hid (j = m) := by show _ = _; omega
      have hj0 : ¬ j = 0 := by have := HJ.out; have := HM.out; omega
      have V : Hid (kids8 ds (rs.map sigR) sc num ks = iAt T 0) := VY.out (by have := HTL.out; have := HKS.out; have := HM.out; omega) (fun l hl => hI.out l (by have := HTL.out; have := HKS.out; have := HM.out; omega))
      have hT1 := Lib.hid (hT0.out (by omega))
      go_wp2_with fail
      exact fin_ hQ ⟨ret_i (by rw [V.out]; exact hT1.out), K1.out.trans hK.out⟩
end
end Go.Proofs.YtkapldpmjkdmcaaGreat
/- The types of steps, operation by operation, plain. -/
namespace Go.Proofs.YtkapldpmjkdmcaaGreat
open Go.RowKit

section
variable (ds : List DeclL) (sg : List SigL) (sc : List Int) (op num into : Int) (args : List Int) (ks : List BlockL)
theorem stp_num (h : num ≠ 0) (hop : ¬ (op = 0 ∨ op = 6 ∨ op = 8 ∨ op = 9 ∨ op = 10)) : stpT ds sg sc (.mk op num into args ks) = -1 := by
  rw [stpT]
  split
  · rfl
  split
  · rw [if_neg (fun h2 => h h2.1)]
  split
  · omega
  split
  · rfl
  · rw [leafL]
    split
    · rw [cntL, if_neg (fun h2 => h h2.1)]
    split
    · rfl
    · unfold simpleL
      rw [if_neg (by omega)]
      split
      · rw [if_neg (fun h2 => h h2.1)]
      split
      · rw [if_neg (fun h2 => h h2.1)]
      split
      · rw [if_neg (fun h2 => h h2.1)]
      rw [if_neg (by omega), if_neg (by omega), if_neg (by omega)]
theorem stp_rout (h2 : intoOk sc op into = true) (h7 : op ≠ 7) (h8 : op ≠ 8) (h : ks.length = 0) : stpT ds sg sc (.mk op num into args ks) = routS ds sg sc op num args := by
  rw [routS]
  cases ha : argsIn sc args
  · rw [stp_args _ _ _ _ _ _ _ _ ha]; rfl
  · rw [stp_leaf _ _ _ _ _ _ _ _ ha h2 h7 h8 h]; rfl
theorem stp_7 (h2 : intoOk sc 7 into = true) : stpT ds sg sc (.mk 7 0 into args ks) = if typedL sc args [0] = true then kids7 ds sg sc ks else -1 := by
  cases ha : argsIn sc args
  · rw [stp_args _ _ _ _ _ _ _ _ ha, if_neg (fun h => by rw [typedL_iff, ha] at h; exact absurd h.1 (by simp))]
  · rw [stp_if _ _ _ _ _ _ _ ha h2, kids7]
    by_cases h : tysOf sc args = [0]
    · rw [if_pos (typedL_iff.2 ⟨ha, h⟩)]
      by_cases hk : ks.length = 2
      · rw [if_pos ⟨rfl, h, hk⟩, if_pos hk]
      · rw [if_neg (fun h3 => hk h3.2.2), if_neg hk]
    · rw [if_neg (fun h3 => h h3.2.1), if_neg (fun h3 => h (typedL_iff.1 h3).2)]
theorem stp_8 (h2 : intoOk sc 8 into = true) : stpT ds sg sc (.mk 8 num into args ks) = if typedL sc args [num] = true then kids8 ds sg sc num ks else -1 := by
  cases ha : argsIn sc args
  · rw [stp_args _ _ _ _ _ _ _ _ ha, if_neg (fun h => by rw [typedL_iff, ha] at h; exact absurd h.1 (by simp))]
  · rw [stp_match _ _ _ _ _ _ _ ha h2, kids8]
    by_cases h : tysOf sc args = [num]
    · rw [if_pos (typedL_iff.2 ⟨ha, h⟩)]
      by_cases hk : 0 < (armsL ds num).length ∧ ks.length = (armsL ds num).length
      · rw [if_pos ⟨hk.1, hk.2, h⟩, if_pos hk]
      · rw [if_neg (fun h3 => hk ⟨h3.1, h3.2.1⟩), if_neg hk]
    · rw [if_neg (fun h3 => h h3.2.2), if_neg (fun h3 => h (typedL_iff.1 h3).2)]
end
section
variable (ds : List DeclL) (sg : List SigL) (sc : List Int) (num : Int) (args : List Int)
theorem leafL_low {op : Int} (h : op < 10 ∨ 17 < op ∨ 10 < op ∧ op < 14) (tys : List Int) : leafL ds sg op num tys = simpleL ds sg op num tys := by rw [leafL, if_neg (by omega), if_neg (by omega)]
theorem routS_int : routS ds sg sc 0 num args = if args.length = 0 ∧ -999 ≤ num ∧ num ≤ 999 then 0 else -1 := by
  rw [routS, leafL_low _ _ _ (.inl (by omega)), simpleL, if_pos rfl]
  by_cases h : args.length = 0
  · have ha : args = [] := List.eq_nil_of_length_eq_zero h
    subst ha
    rw [if_pos (by rfl)]
    by_cases hr : -999 ≤ num ∧ num ≤ 999
    · rw [if_pos ⟨by rfl, hr⟩, if_pos ⟨rfl, hr⟩]
    · rw [if_neg (fun h3 => hr h3.2), if_neg (fun h3 => hr h3.2)]
  · refine Eq.trans ?_ (if_neg (fun h3 => h h3.1)).symm
    split
    · rw [if_neg (fun h3 => h (by have := congrArg List.length h3.1; rw [tysOf_len] at this; exact this))]
    · rfl
theorem typed_or {T : List Int} {x : Int} : (if argsIn sc args = true then (if tysOf sc args = T then x else -1) else -1) = if typedL sc args T = true then x else -1 := by
  by_cases h : typedL sc args T = true
  · rw [if_pos h, if_pos (typedL_iff.1 h).1, if_pos (typedL_iff.1 h).2]
  · rw [if_neg h]
    split
    · next h1 => rw [if_neg (fun h2 => h (typedL_iff.2 ⟨h1, h2⟩))]
    · rfl
theorem routS_two {op : Int} (h : op = 1 ∨ op = 2 ∨ op = 3 ∨ op = 4) : routS ds sg sc op 0 args = if typedL sc args [0, 0] = true then 0 else -1 := by
  rw [routS, leafL_low _ _ _ (.inl (by omega)), ← typed_or]
  simp only [simpleL, if_neg (show ¬ op = 0 by omega), if_pos h, true_and]
theorem routS_one : routS ds sg sc 5 0 args = if typedL sc args [0] = true then 0 else -1 := by
  rw [routS, leafL_low _ _ _ (.inl (by omega)), ← typed_or]
  simp [simpleL]
theorem routS_con : routS ds sg sc 6 num args = if 0 < conTypeL ds num then (if typedL sc args (conFieldsL ds num) = true then conTypeL ds num else -1) else -1 := by
  rw [routS, leafL_low _ _ _ (.inl (by omega)), ← typed_or]
  by_cases h : 0 < conTypeL ds num
  · simp [simpleL, h]
  · simp [simpleL, h]
theorem routS_cnt {op : Int} (h : 14 ≤ op ∧ op ≤ 17) : routS ds sg sc op 0 args = cntS ds sc op args := by
  rw [routS, cntS, leafL, if_pos h]
theorem routS_other {op : Int} (h : op < 0 ∨ op = 7 ∨ op = 8 ∨ op = 12 ∨ op = 13 ∨ 17 < op) : routS ds sg sc op num args = -1 := by
  rw [routS]
  split
  · rw [leafL_low _ _ _ (by omega)]
    simp only [simpleL]
    rw [if_neg (by omega), if_neg (by omega), if_neg (by omega), if_neg (by omega), if_neg (by omega), if_neg (by omega), if_neg (by omega)]
  · rfl
theorem routS_app : routS ds sg sc 11 0 args = if args.length = 2 ∧ (0 ≤ iAt args 0 ∧ iAt args 0 < (sc.length : Int)) ∧ isArr ds (iAt sc (iAt args 0).toNat) = true ∧ typedL sc (args.drop 1) [(dAt ds ((iAt sc (iAt args 0).toNat).toNat - 1)).from_] = true then (dAt ds ((iAt sc (iAt args 0).toNat).toNat - 1)).to_ else -1 := by
  rw [routS, leafL_low _ _ _ (by omega)]
  have e11 : simpleL ds sg 11 0 (tysOf sc args) = if (tysOf sc args).length = 2 ∧ isArr ds (iAt (tysOf sc args) 0) = true ∧ iAt (tysOf sc args) 1 = (dAt ds ((iAt (tysOf sc args) 0).toNat - 1)).from_ then (dAt ds ((iAt (tysOf sc args) 0).toNat - 1)).to_ else -1 := by simp [simpleL]
  rw [e11]
  by_cases hl : args.length = 2
  · match args, hl with
    | [x, y], _ =>
      have t : tysOf sc [x, y] = [iAt sc x.toNat, iAt sc y.toNat] := rfl
      have a0 : iAt [x, y] 0 = x := rfl
      have d1 : ([x, y] : List Int).drop 1 = [y] := rfl
      rw [t, a0, d1]
      have t0 : iAt [iAt sc x.toNat, iAt sc y.toNat] 0 = iAt sc x.toNat := rfl
      have t1 : iAt [iAt sc x.toNat, iAt sc y.toNat] 1 = iAt sc y.toNat := rfl
      rw [t0, t1]
      have ai : argsIn sc [x, y] = true ↔ (0 ≤ x ∧ x < (sc.length : Int)) ∧ (0 ≤ y ∧ y < (sc.length : Int)) := by simp [argsIn]
      have ty : ∀ f, typedL sc [y] [f] = true ↔ (0 ≤ y ∧ y < (sc.length : Int)) ∧ iAt sc y.toNat = f := fun f => by rw [typedL_iff]; simp [argsIn, tysOf]
      by_cases hall : (0 ≤ x ∧ x < (sc.length : Int)) ∧ isArr ds (iAt sc x.toNat) = true ∧ typedL sc [y] [(dAt ds ((iAt sc x.toNat).toNat - 1)).from_] = true
      · obtain ⟨h1, h2, h3⟩ := hall
        have h4 := (ty _).1 h3
        rw [if_pos (ai.2 ⟨h1, h4.1⟩), if_pos ⟨rfl, h2, h4.2⟩, if_pos ⟨rfl, h1, h2, h3⟩]
      · refine Eq.trans ?_ (if_neg (fun h => hall h.2)).symm
        split
        · next h1 =>
          have h2 := ai.1 h1
          rw [if_neg (fun h => hall ⟨h2.1, h.2.1, (ty _).2 ⟨h2.2, h.2.2⟩⟩)]
        · rfl
  · refine Eq.trans ?_ (if_neg (fun h => hl h.1)).symm
    split
    · rw [if_neg (fun h => hl (by rw [← tysOf_len sc args]; exact h.1))]
    · rfl
end
end Go.Proofs.YtkapldpmjkdmcaaGreat
/- What stepType of the reference does. -/
namespace Go.Proofs.YtkapldpmjkdmcaaGreat
open Go.RowKit

/-- What stepType of the reference does for one step. -/
def StS (ds : List DeclL) (rs : List RoutL) (s : StepL) : Prop := ∀ (a0 : Option Addr) (n0 c0 : Nat) (a1 : Option Addr) (n1 c1 : Nat) (av : Option Addr) (nv cv : Nat) (sc : List Int) (aa : Option Addr) (na ca : Nat) (ak : Option Addr) (nk ck : Nat) (w : World),
  NR w ds rs a0 n0 c0 a1 n1 c1 → Rd w (fun _ => True) (encInts sc) (.slice av nv cv) → Rd w (fun _ => True) (encInts s.args) (.slice aa na ca) → Rd w (fun _ => True) (encBlocks s.kids) (.slice ak nk ck) → sc.length + 4 * nS s ≤ 1052000 → allT ds.length sc = true →
  Calls Tryz.prog 129 #[.agg #[.slice a0 n0 c0, .slice a1 n1 c1], .slice av nv cv, .agg #[.int .i64 s.op, .int .i64 s.num, .int .i64 s.into, .slice aa na ca, .slice ak nk ck]] w fun r w' => r = .returned (.int .i64 (stpT ds (rs.map sigR) sc s)) ∧ Keep w w'

end Go.Proofs.YtkapldpmjkdmcaaGreat
