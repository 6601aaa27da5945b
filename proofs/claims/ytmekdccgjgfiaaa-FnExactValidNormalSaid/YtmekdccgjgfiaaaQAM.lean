/- The reference's types of steps: calls and closures. -/
import Derived.Test.YtmekdccgjgfiaaaQAL
import Derived.Test.YtmekdccgjgfiaaaQAH
namespace Go.Proofs.Ytmekdccgjgfiaaa
open Go.RowKit

def routS (ds : List DeclL) (sg : List SigL) (sc : List Int) (op num : Int) (args : List Int) : Int := if argsIn sc args = true then leafL ds sg op num (tysOf sc args) else -1
theorem leafL_neg {ds : List DeclL} {sg : List SigL} {op num : Int} {tys : List Int} (hop : op = 9 ∨ op = 10) (h : simpleL ds sg op num tys = -1) : leafL ds sg op num tys = -1 := by
  rw [leafL, if_neg (by omega)]
  split
  · rfl
  · exact h
theorem routS_range {ds : List DeclL} {sg : List SigL} {op num : Int} {sc args : List Int} (hop : op = 9 ∨ op = 10) (h : ¬ (0 ≤ num ∧ num < (sg.length : Int))) : routS ds sg sc op num args = -1 := by
  rw [routS]
  split
  · exact leafL_neg hop (simpleL_range hop h)
  · rfl
theorem leafL_9 {ds : List DeclL} {sg : List SigL} {num : Int} {tys : List Int} : leafL ds sg 9 num tys = simpleL ds sg 9 num tys := by rw [leafL, if_neg (by omega), if_neg (by omega)]
theorem leafL_10 {ds : List DeclL} {sg : List SigL} {k : Nat} {tys : List Int} : leafL ds sg 10 (k : Int) tys = if 0 < (sgAt sg k).lent.length then -1 else simpleL ds sg 10 (k : Int) tys := by
  rw [leafL, if_neg (by omega), show ((k : Int)).toNat = k from rfl]
  by_cases h : 0 < (sgAt sg k).lent.length
  · rw [if_pos ⟨rfl, h⟩, if_pos h]
  · rw [if_neg (fun h2 => h h2.2), if_neg h]
theorem routS_call {ds : List DeclL} {sg : List SigL} {sc args : List Int} {k : Nat} (hk : k < sg.length) : routS ds sg sc 9 (k : Int) args = if typedL sc args (sgAt sg k).params = true then (sgAt sg k).result else -1 := by
  rw [routS, leafL_9, simpleL_call hk]
  by_cases h : typedL sc args (sgAt sg k).params = true
  · rw [if_pos h, if_pos (typedL_iff.1 h).1, if_pos (typedL_iff.1 h).2]
  · rw [if_neg h]
    split
    · next h1 => rw [if_neg (fun h2 => h (typedL_iff.2 ⟨h1, h2⟩))]
    · rfl
theorem routS_close {ds : List DeclL} {sg : List SigL} {sc args : List Int} {k : Nat} (hk : k < sg.length) : routS ds sg sc 10 (k : Int) args = if 0 < (sgAt sg k).params.length ∧ (sgAt sg k).lent.length = 0 ∧ typedL sc args ((sgAt sg k).params.take ((sgAt sg k).params.length - 1)) = true then arrowL ds (iAt (sgAt sg k).params ((sgAt sg k).params.length - 1)) (sgAt sg k).result else -1 := by
  rw [routS, leafL_10, simpleL_close hk]
  by_cases h : 0 < (sgAt sg k).params.length ∧ (sgAt sg k).lent.length = 0 ∧ typedL sc args ((sgAt sg k).params.take ((sgAt sg k).params.length - 1)) = true
  · rw [if_pos h, if_pos (typedL_iff.1 h.2.2).1, if_neg (by omega), if_pos ⟨h.1, (typedL_iff.1 h.2.2).2⟩]
  · rw [if_neg h]
    split
    · next h1 =>
      split
      · rfl
      · next h2 => rw [if_neg (fun h3 => h ⟨h3.1, by omega, typedL_iff.2 ⟨h1, h3.2⟩⟩)]
    · rfl

/-- A normal form that can be read. -/
def NR (w : World) (ds : List DeclL) (rs : List RoutL) (a0 : Option Addr) (n0 c0 : Nat) (a1 : Option Addr) (n1 c1 : Nat) : Prop :=
  Rd w (fun _ => True) (encDecls ds) (.slice a0 n0 c0) ∧ Rd w (fun _ => True) (encRouts rs) (.slice a1 n1 c1)
theorem NR.k {w w' : World} {ds : List DeclL} {rs : List RoutL} {a0 : Option Addr} {n0 c0 : Nat} {a1 : Option Addr} {n1 c1 : Nat} (h : NR w ds rs a0 n0 c0 a1 n1 c1) (k : Keep w w') : NR w' ds rs a0 n0 c0 a1 n1 c1 := ⟨h.1.k k, h.2.k k⟩

set_option maxRecDepth 100000 in
set_option maxHeartbeats 4000000 in
theorem specRoutineType (ds : List DeclL) (rs : List RoutL) (op num into : Int) (hop : op = 9 ∨ op = 10) (a0 : Option Addr) (n0 c0 : Nat) (a1 : Option Addr) (n1 c1 : Nat) (av : Option Addr) (nv cv : Nat) (sc : List Int) (aa : Option Addr) (na ca : Nat) (args : List Int) (ak : Option Addr) (nk ck : Nat) (D1 : Nat → Prop) (w : World)
    (hp : NR w ds rs a0 n0 c0 a1 n1 c1) (hv : Rd w (fun _ => True) (encInts sc) (.slice av nv cv)) (ha : Rd w D1 (encInts args) (.slice aa na ca)) (hnv : nv ≤ 4000000) (hds : ds.length ≤ 4) (hrs : rs.length ≤ 4) :
    Calls Try.prog 68 #[.agg #[.slice a0 n0 c0, .slice a1 n1 c1], .slice av nv cv, .agg #[.int .i64 op, .int .i64 num, .int .i64 into, .slice aa na ca, .slice ak nk ck]] w fun r w' => r = .returned (.int .i64 (routS ds (rs.map sigR) sc op num args)) ∧ Keep w w' := by
  refine calls_k fun Q hQ => ?_
  have hd0 := hp.1
  have hna : na ≤ 9223372036854775807 := (ints_at ha).2.2.1
  have hn0 : n0 ≤ 4 := by have := (decls_at hp.1).1; omega
  have K0 := (Keep.al w (.cells #[.slice a0 n0 c0, .slice a1 n1 c1] 36)).trans (Keep.al _ (.cells #[.int .i64 op, .int .i64 num, .int .i64 into, .slice aa na ca, .slice ak nk ck] 89))
  have R0 := (rowOf w #[.slice a0 n0 c0, .slice a1 n1 c1] 36).alloc (.cells #[.int .i64 op, .int .i64 num, .int .i64 into, .slice aa na ca, .slice ak nk ck] 89)
  have R1 := rowOf (w.alloc (.cells #[.slice a0 n0 c0, .slice a1 n1 c1] 36)) #[.int .i64 op, .int .i64 num, .int .i64 into, .slice aa na ca, .slice ak nk ck] 89
  simp only [World.size_alloc] at R1
  obtain ⟨e1, hf1, hf2, hat⟩ := routs_at hp.2
  have HL := Lib.hid e1
  have HA := Lib.hid hat
  have hn1 : n1 ≤ 4 := by omega
  have SL : Hid ((rs.map sigR).length = n1) := by show _ = _; rw [List.length_map]; exact e1
  clear e1 hat
  by_cases hr : 0 ≤ num ∧ num < (n1 : Int)
  case neg =>
    have V := Lib.hid (routS_range (ds := ds) (sc := sc) (args := args) hop (by rw [SL.out]; exact hr))
    have hd : decide (0 ≤ num ∧ num ≤ (n1 : Int) - 1) = false := decide_eq_false (fun h => hr (by omega))
    have HD := Lib.hid hd
    clear hr hd
    go_enter Try.func68, Try.ntmps68
    go_wp2_with fail
    refine (specInRange _ _ _ _).mono ?_
    rw [HD.out]
    rintro e w1 ⟨rfl, rfl⟩
    go_wp2_with fail
    exact fin_ hQ ⟨ret_i V.out.symm, K0⟩
  obtain ⟨k, rfl⟩ : ∃ k : Nat, num = (k : Int) := ⟨num.toNat, by omega⟩
  have hk : k < n1 := by omega
  have hd : decide (0 ≤ (k : Int) ∧ (k : Int) ≤ (n1 : Int) - 1) = true := decide_eq_true (by omega)
  have HD := Lib.hid hd
  have HS : Hid (sgAt (rs.map sigR) k = sigR (rtAt rs k)) := sgAt_sigR rs (by have := HL.out; omega)
  clear hr hd
  obtain ⟨b, o, rfl, _, ap, np, cp, al, nl, cl, ab, nb, cb, d0, d1, d2, d3, d4, r0, rl, r4⟩ := HA.out k hk
  generalize hF : rtAt rs k = f at d2 d4 r0 rl r4 HS
  have g0 := (K0.cell (World.block_lt_of_cell? w _ d0) (fun h => h)).trans d0
  have g1 := (K0.cell (World.block_lt_of_cell? w _ d1) (fun h => h)).trans d1
  have g2 := (K0.cell (World.block_lt_of_cell? w _ d2) (fun h => h)).trans d2
  have g3 := (K0.cell (World.block_lt_of_cell? w _ d3) (fun h => h)).trans d3
  have g4 := (K0.cell (World.block_lt_of_cell? w _ d4) (fun h => h)).trans d4
  have HPL := Lib.hid (ints_at r0).1
  have HLL := Lib.hid (ints_at rl).1
  have K1 := K0.trans (Keep.al _ (.cells #[.slice ap np cp, .slice al nl cl, .int .i64 f.result, .slice ab nb cb, .int .i64 f.body.result] 67))
  clear d0 d1 d2 d3 d4 hF
  rcases hop with rfl | rfl
  · have V0 := Lib.hid (routS_call (ds := ds) (sg := rs.map sigR) (k := k) (sc := sc) (args := args) (by rw [SL.out]; exact hk))
    have RF := rowOf ((w.alloc (.cells #[.slice a0 n0 c0, .slice (some ⟨b, o, none⟩) n1 c1] 36)).alloc (.cells #[.int .i64 9, .int .i64 (k : Int), .int .i64 into, .slice aa na ca, .slice ak nk ck] 89)) #[.slice ap np cp, .slice al nl cl, .int .i64 f.result, .slice ab nb cb, .int .i64 f.body.result] 67
    simp only [World.size_alloc] at RF
    cases ht : typedL sc args f.params
    · have V : Hid (routS ds (rs.map sigR) sc 9 (k : Int) args = -1) := by show _ = _; rw [V0.out, if_neg (by rw [HS.out]; show ¬ (typedL sc args f.params = true); rw [ht]; simp)]
      have HT := Lib.hid ht
      clear ht
      go_enter Try.func68, Try.ntmps68
      go_wp2_with fail
      refine (specInRange _ _ _ _).mono ?_
      rw [HD.out]
      rintro e w1 ⟨rfl, rfl⟩
      go_wp2_with fail
      refine (specTyped _ _ _ _ _ _ _ _ _ _ _ _ _ _ _ _ (hv.k K1).toInts (ha.k K1).toInts (r0.k K1).toInts hnv hna).mono ?_
      rw [HT.out]
      rintro e w2 ⟨rfl, p2⟩
      have y1 := (row_ext RF p2 (fun h => h)).cell (i := 2) (by simp)
      simp at y1
      go_wp2_with fail
      exact fin_ hQ ⟨ret_i V.out.symm, K1.trans p2⟩
    · have V : Hid (routS ds (rs.map sigR) sc 9 (k : Int) args = f.result) := by show _ = _; rw [V0.out, if_pos (by rw [HS.out]; exact ht), HS.out]; rfl
      have HT := Lib.hid ht
      clear ht
      go_enter Try.func68, Try.ntmps68
      go_wp2_with fail
      refine (specInRange _ _ _ _).mono ?_
      rw [HD.out]
      rintro e w1 ⟨rfl, rfl⟩
      go_wp2_with fail
      refine (specTyped _ _ _ _ _ _ _ _ _ _ _ _ _ _ _ _ (hv.k K1).toInts (ha.k K1).toInts (r0.k K1).toInts hnv hna).mono ?_
      rw [HT.out]
      rintro e w2 ⟨rfl, p2⟩
      have y1 := (row_ext RF p2 (fun h => h)).cell (i := 2) (by simp)
      simp at y1
      go_wp2_with fail
      exact fin_ hQ ⟨ret_i V.out.symm, K1.trans p2⟩
  · have V0 := Lib.hid (routS_close (ds := ds) (sg := rs.map sigR) (k := k) (sc := sc) (args := args) (by rw [SL.out]; exact hk))
    have RF := rowOf ((w.alloc (.cells #[.slice a0 n0 c0, .slice (some ⟨b, o, none⟩) n1 c1] 36)).alloc (.cells #[.int .i64 10, .int .i64 (k : Int), .int .i64 into, .slice aa na ca, .slice ak nk ck] 89)) #[.slice ap np cp, .slice al nl cl, .int .i64 f.result, .slice ab nb cb, .int .i64 f.body.result] 67
    simp only [World.size_alloc] at RF
    rcases Nat.eq_zero_or_pos np with h0 | h0
    · subst h0
      have V : Hid (routS ds (rs.map sigR) sc 10 (k : Int) args = -1) := by show _ = _; rw [V0.out, if_neg (by rw [HS.out]; intro h; have := HPL.out; have h1 : 0 < f.params.length := h.1; omega)]
      go_enter Try.func68, Try.ntmps68
      go_wp2_with fail
      refine (specInRange _ _ _ _).mono ?_
      rw [HD.out]
      rintro e w1 ⟨rfl, rfl⟩
      go_wp2_with fail
      go_quiet (fail)
      go_wp2_with fail
      exact fin_ hQ ⟨ret_i V.out.symm, by first | exact K1.drew | exact K1.drewN _⟩
    obtain ⟨m, rfl⟩ : ∃ m, np = m + 1 := ⟨np - 1, by omega⟩
    have hb : (((m + 1 : Nat) : Int) == 0) = false := by simp; omega
    have MP : Hid (f.params.length = m + 1) := HPL.out
    by_cases hl0 : nl = 0
    case neg =>
      have hl1 : 0 < nl := by omega
      have hb2 : ((m : Int) + 1 == 0) = false := by simp; omega
      have V : Hid (routS ds (rs.map sigR) sc 10 (k : Int) args = -1) := by show _ = _; rw [V0.out, if_neg (by rw [HS.out]; intro h; have := HLL.out; have h1 : f.lent.length = 0 := h.2.1; omega)]
      have z1 := RF.cell (i := 1) (by simp)
      simp at z1
      clear hl0
      go_enter Try.func68, Try.ntmps68
      go_wp2_with fail
      refine (specInRange _ _ _ _).mono ?_
      rw [HD.out]
      rintro e w1 ⟨rfl, rfl⟩
      go_wp2_with fail
      generalize hW : ((w.alloc (.cells #[.slice a0 n0 c0, .slice (some ⟨b, o, none⟩) n1 c1] 36)).alloc (.cells #[.int .i64 10, .int .i64 (k : Int), .int .i64 into, .slice aa na ca, .slice ak nk ck] 89)).alloc (.cells #[.slice ap (m + 1) cp, .slice al nl cl, .int .i64 f.result, .slice ab nb cb, .int .i64 f.body.result] 67) = W3 at *
      clear hW
      go_quiet (fail)
      go_wp2_with fail
      exact fin_ hQ ⟨ret_i V.out.symm, by first | exact K1.drew | exact K1.drewN _⟩
    subst hl0
    obtain ⟨b2, o2, rfl, _, _⟩ := (ints_at r0).2.2.2 0 (by omega)
    have hcp : m + 1 ≤ cp := (ints_at r0).2.1
    have hnp : m + 1 ≤ 9223372036854775807 := (ints_at r0).2.2.1
    have x0 := (R0.alloc (.cells #[.slice (some ⟨b2, o2, none⟩) (m + 1) cp, .slice al 0 cl, .int .i64 f.result, .slice ab nb cb, .int .i64 f.body.result] 67)).cell (i := 0) (by simp)
    have y3 := (R1.alloc (.cells #[.slice (some ⟨b2, o2, none⟩) (m + 1) cp, .slice al 0 cl, .int .i64 f.result, .slice ab nb cb, .int .i64 f.body.result] 67)).cell (i := 3) (by simp)
    have z0 := RF.cell (i := 0) (by simp)
    have z1 := RF.cell (i := 1) (by simp)
    have z2 := RF.cell (i := 2) (by simp)
    simp at x0 y3 z0 z1 z2
    have qd := hd0.k K1
    have qv := hv.k K1
    have qa := ha.k K1
    have qt := (((Rd.toInts r0).take (m := m) (by omega)).toRd (c := cp) (by have := (ints_at r0).2.1; omega) (by have := (ints_at r0).2.2.1; omega)).k K1
    clear RF R0 R1
    cases ht : typedL sc args (f.params.take m)
    · have V : Hid (routS ds (rs.map sigR) sc 10 (k : Int) args = -1) := by
        show _ = _
        rw [V0.out, HS.out, if_neg (fun h => by
          have h1 : typedL sc args (f.params.take (f.params.length - 1)) = true := h.2.2
          rw [MP.out] at h1
          exact absurd (ht.symm.trans h1) (by simp))]
      have HT := Lib.hid ht
      clear ht
      go_enter Try.func68, Try.ntmps68
      go_wp2_with fail
      refine (specInRange _ _ _ _).mono ?_
      rw [HD.out]
      rintro e w1 ⟨rfl, rfl⟩
      go_wp2_with fail
      generalize hW : ((w.alloc (.cells #[.slice a0 n0 c0, .slice (some ⟨b, o, none⟩) n1 c1] 36)).alloc (.cells #[.int .i64 10, .int .i64 (k : Int), .int .i64 into, .slice aa na ca, .slice ak nk ck] 89)).alloc (.cells #[.slice (some ⟨b2, o2, none⟩) (m + 1) cp, .slice al 0 cl, .int .i64 f.result, .slice ab nb cb, .int .i64 f.body.result] 67) = W3 at *
      have qdd := qd.k (w' := W3.drew) (Ext.refl (fun _ => False) W3).drew
      have qvd := qv.k (w' := W3.drew) (Ext.refl (fun _ => False) W3).drew
      have qad := qa.k (w' := W3.drew) (Ext.refl (fun _ => False) W3).drew
      have qtd := qt.k (w' := W3.drew) (Ext.refl (fun _ => False) W3).drew
      have pc : Keep W3.drew W3.drew := Ext.refl _ _
      clear hW
      have hw8 : IntKind.i64.wrap (m : Int) = (m : Int) := by rw [IntWalk.i64_in _ (by omega)]
      have hw3 : (m : Int) ≤ (cp : Int) := by omega
      have hw4 : (0 : Int) ≤ (m : Int) := by omega
      go_region_held3 (fun w' => w'.cell? ⟨w.heap.size, 0, none⟩ = some (.slice a0 n0 c0) ∧ w'.cell? ⟨w.heap.size + 1, 3, none⟩ = some (.slice aa na ca) ∧ w'.cell? ⟨w.heap.size + 2, 0, none⟩ = some (.slice (some ⟨b2, o2, none⟩) (m + 1) cp) ∧ w'.cell? ⟨w.heap.size + 2, 1, none⟩ = some (.slice al 0 cl))
        (first | exact ⟨Keep.at pc x0, Keep.at pc y3, Keep.at pc z0, Keep.at pc z1⟩ | go_keep)
        ((go_at_call 64; refine (specTyped _ _ _ _ _ _ _ _ _ _ _ _ _ _ _ _ (qvd.k pc).toInts (qad.k pc).toInts (qtd.k pc).toInts hnv hna).mono ?_; rw [HT.out]; rintro e w2 ⟨rfl, p2⟩; replace pc := pc.trans p2))
      have KE := Lib.hid (K1.trans ((Ext.refl (fun _ => False) W3).drew.trans pc))
      go_wp2_with fail
      exact fin_ hQ ⟨ret_i V.out.symm, KE.out⟩
    · have V : Hid (routS ds (rs.map sigR) sc 10 (k : Int) args = arrowL ds (iAt f.params m) f.result) := by
        show _ = _
        rw [V0.out, HS.out, if_pos ⟨by show 0 < f.params.length; rw [MP.out]; omega, by show f.lent.length = 0; exact HLL.out, by show typedL sc args (f.params.take (f.params.length - 1)) = true; rw [MP.out]; exact ht⟩]
        show arrowL ds (iAt f.params (f.params.length - 1)) f.result = _
        rw [MP.out]; rfl
      have HT := Lib.hid ht
      clear ht
      go_enter Try.func68, Try.ntmps68
      go_wp2_with fail
      refine (specInRange _ _ _ _).mono ?_
      rw [HD.out]
      rintro e w1 ⟨rfl, rfl⟩
      go_wp2_with fail
      generalize hW : ((w.alloc (.cells #[.slice a0 n0 c0, .slice (some ⟨b, o, none⟩) n1 c1] 36)).alloc (.cells #[.int .i64 10, .int .i64 (k : Int), .int .i64 into, .slice aa na ca, .slice ak nk ck] 89)).alloc (.cells #[.slice (some ⟨b2, o2, none⟩) (m + 1) cp, .slice al 0 cl, .int .i64 f.result, .slice ab nb cb, .int .i64 f.body.result] 67) = W3 at *
      have qdd := qd.k (w' := W3.drew) (Ext.refl (fun _ => False) W3).drew
      have qvd := qv.k (w' := W3.drew) (Ext.refl (fun _ => False) W3).drew
      have qad := qa.k (w' := W3.drew) (Ext.refl (fun _ => False) W3).drew
      have qtd := qt.k (w' := W3.drew) (Ext.refl (fun _ => False) W3).drew
      have pc : Keep W3.drew W3.drew := Ext.refl _ _
      clear hW
      have hw8 : IntKind.i64.wrap (m : Int) = (m : Int) := by rw [IntWalk.i64_in _ (by omega)]
      have hw3 : (m : Int) ≤ (cp : Int) := by omega
      have hw4 : (0 : Int) ≤ (m : Int) := by omega
      go_region_held3 (fun w' => w'.cell? ⟨w.heap.size, 0, none⟩ = some (.slice a0 n0 c0) ∧ w'.cell? ⟨w.heap.size + 1, 3, none⟩ = some (.slice aa na ca) ∧ w'.cell? ⟨w.heap.size + 2, 0, none⟩ = some (.slice (some ⟨b2, o2, none⟩) (m + 1) cp) ∧ w'.cell? ⟨w.heap.size + 2, 1, none⟩ = some (.slice al 0 cl))
        (first | exact ⟨Keep.at pc x0, Keep.at pc y3, Keep.at pc z0, Keep.at pc z1⟩ | go_keep)
        ((go_at_call 64; refine (specTyped _ _ _ _ _ _ _ _ _ _ _ _ _ _ _ _ (qvd.k pc).toInts (qad.k pc).toInts (qtd.k pc).toInts hnv hna).mono ?_; rw [HT.out]; rintro e w2 ⟨rfl, p2⟩; replace pc := pc.trans p2))
      have K2 := Lib.hid ((Ext.refl (fun _ => False) W3).drew.trans pc)
      have KE := Lib.hid (K1.trans K2.out)
      obtain ⟨b3, o3, e3, _, d3⟩ := (ints_at r0).2.2.2 m (by omega)
      injection e3 with e3
      injection e3 with e3 e4
      subst e3 e4
      have u0 := Keep.at pc x0
      have v0 := Keep.at pc z0
      have v1 := Keep.at pc z2
      have v2 := (KE.out.cell (World.block_lt_of_cell? _ _ d3) (fun h => h)).trans d3
      have qq := (((Rd.toDecls hd0).ext KE.out (fun _ _ h => h)).ext (S := fun _ => False) (w' := w2.drew) (Ext.refl (fun _ => False) w2).drew (fun _ _ h => h))
      have hw9 : (m : Int) < (m : Int) + 1 := by omega
      clear qdd qvd qad qtd pc x0 y3 z0 z1 z2 d3 hw3
      go_wp2_with fail
      go_region_held3 (fun w' => w'.cell? ⟨w.heap.size, 0, none⟩ = some (.slice a0 n0 c0) ∧ w'.cell? ⟨w.heap.size + 2, 0, none⟩ = some (.slice (some ⟨b2, o2, none⟩) (m + 1) cp) ∧ w'.cell? ⟨w.heap.size + 2, 2, none⟩ = some (.int .i64 f.result) ∧ w'.cell? ⟨b2, o2 + m, none⟩ = some (.int .i64 (iAt f.params m)))
        (first | exact ⟨u0, v0, v1, v2⟩ | go_keep)
        ((go_at_call 85; refine (specArrowOf0 _ _ _ ds _ _ _ _ qq (by omega)).mono ?_; rintro e w3 ⟨rfl, rfl⟩))
      go_wp2_with fail
      exact fin_ hQ ⟨ret_i V.out.symm, KE.out.drew⟩
end Go.Proofs.Ytmekdccgjgfiaaa
