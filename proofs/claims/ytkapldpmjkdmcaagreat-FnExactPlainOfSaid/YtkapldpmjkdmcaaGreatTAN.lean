/- The program's types of expressions: other operations. -/
import Derived.Test.YtkapldpmjkdmcaaGreatTAK
import Derived.Test.YtkapldpmjkdmcaaGreatTAM
import Derived.Test.YtkapldpmjkdmcaaGreatTAL
import Derived.Test.YtkapldpmjkdmcaaGreatTAF
import Derived.Test.YtkapldpmjkdmcaaGreatTAI
import Derived.Deep.DeepCutAuto
import Derived.Test.YtkapldpmjkdmcaaGreatTAE
import Derived.Test.YtkapldpmjkdmcaaGreatTAC
import Derived.Test.YtkapldpmjkdmcaaGreatShelf
namespace Go.Proofs.YtkapldpmjkdmcaaGreat
open Go.RowKit

section
variable (ds : List DeclL) (sg : List SigL) (hok : sigsOk ds sg = true)
include hok

theorem implSimple (op num : Int) (hnum : fitN op num) (tys : List Int) (D : Nat → Prop) (a0 : Option Addr) (n0 c0 : Nat) (a1 : Option Addr) (n1 c1 : Nat) (a : Option Addr) (n c : Nat) (E : Nat → Prop) (w : World) (hp : SR w D ds sg a0 n0 c0 a1 n1 c1) (h : IntsL w E a n tys) (hn : n ≤ 1049576) :
    Calls Tryz.prog 162 #[.agg #[.slice a0 n0 c0, .slice a1 n1 c1], .int .i64 op, .int .i64 num, .slice a n c] w (SimR ds sg op num tys w) := by
  by_cases hr : op < 0 ∨ 13 < op ∨ op = 7 ∨ op = 8 ∨ op = 12 ∨ op = 13
  · exact implSim_other ds sg hok op hr num tys D a0 n0 c0 a1 n1 c1 a n c E w hp h hn
  · rcases (show op = 0 ∨ op = 1 ∨ op = 2 ∨ op = 3 ∨ op = 4 ∨ op = 5 ∨ op = 6 ∨ op = 9 ∨ op = 10 ∨ op = 11 by omega) with rfl | rfl | rfl | rfl | rfl | rfl | rfl | rfl | rfl | rfl
    · exact implSim_0 ds sg hok num tys D a0 n0 c0 a1 n1 c1 a n c E w hp h hn
    · exact implSim_1 ds sg hok num tys D a0 n0 c0 a1 n1 c1 a n c E w hp h hn
    · exact implSim_2 ds sg hok num tys D a0 n0 c0 a1 n1 c1 a n c E w hp h hn
    · exact implSim_3 ds sg hok num tys D a0 n0 c0 a1 n1 c1 a n c E w hp h hn
    · exact implSim_4 ds sg hok num tys D a0 n0 c0 a1 n1 c1 a n c E w hp h hn
    · exact implSim_5 ds sg hok num tys D a0 n0 c0 a1 n1 c1 a n c E w hp h hn
    · exact implSim_6 ds sg hok num tys D a0 n0 c0 a1 n1 c1 a n c E w hp h hn hnum.1 hnum.2
    · exact implSim_9 ds sg hok num tys D a0 n0 c0 a1 n1 c1 a n c E w hp h hn
    · exact implSim_10 ds sg hok num tys D a0 n0 c0 a1 n1 c1 a n c E w hp h hn
    · exact implSim_11 ds sg hok num tys D a0 n0 c0 a1 n1 c1 a n c E w hp h hn

end
end Go.Proofs.YtkapldpmjkdmcaaGreat
/- The program's types of expressions: all operations; the signatures of a program. -/
namespace Go.Proofs.YtkapldpmjkdmcaaGreat
open Go.RowKit

section
variable (ds : List DeclL) (sg : List SigL) (hok : sigsOk ds sg = true)
include hok
end
end Go.Proofs.YtkapldpmjkdmcaaGreat
/- The signatures of a normal form, by the program; counting steps. -/
namespace Go.Proofs.YtkapldpmjkdmcaaGreat
open Go.RowKit

theorem implIsCounting (op : Int) (w : World) : Calls Tryz.prog 86 #[.int .i64 op] w fun e w' => e = .returned (.bool (decide (14 ≤ op ∧ op ≤ 17))) ∧ w = w' := by
  refine calls_k fun Q hQ => ?_
  go_enter Tryz.func86, Tryz.ntmps86
  by_cases h1 : 14 ≤ op
  · by_cases h2 : op ≤ 17
    · go_wp2
      exact fin_ hQ ⟨ret_b (by simp [h1, h2]), rfl⟩
    · go_wp2
      exact fin_ hQ ⟨ret_b (by simp [h1, h2]), rfl⟩
  · go_wp2
    exact fin_ hQ ⟨ret_b (by simp; omega), rfl⟩

/-- What normalSigs tells: the signatures, if they are valid. -/
def NsP (ds : List DeclL) (rs : List RoutL) (w : World) (e : Ending) (w' : World) : Prop := ∃ (b0 : Option Addr) (m0 d0 : Nat) (b1 : Option Addr) (m1 d1 : Nat) (ok : Bool), e = .returned (.tuple #[.agg #[.slice b0 m0 d0, .slice b1 m1 d1], .bool ok]) ∧ ok = sigsOk ds (rs.map sigR) ∧ (ok = true → SR w' (fun _ => True) ds (rs.map sigR) b0 m0 d0 b1 m1 d1) ∧ Keep w w'

set_option maxRecDepth 100000 in
set_option maxHeartbeats 1000000 in
theorem implNormalSigs (ds : List DeclL) (rs : List RoutL) (a0 : Option Addr) (n0 c0 : Nat) (a1 : Option Addr) (n1 c1 : Nat) (D0 D1 : Nat → Prop) (w : World) (r0 : Rd w D0 (encDecls ds) (.slice a0 n0 c0)) (r1 : Rd w D1 (encRouts rs) (.slice a1 n1 c1)) :
    Calls Tryz.prog 84 #[.agg #[.slice a0 n0 c0, .slice a1 n1 c1]] w (NsP ds rs w) := by
  refine calls_k fun Q hQ => ?_
  obtain ⟨e1, hnc, hm, hat⟩ := routs_at r1
  have R0 := Lib.hid r0.lt
  have HL := Lib.hid e1
  have HA := Lib.hid hat
  have hx : w.heap.size ≠ w.heap.size + 1 := by omega
  have hy : w.heap.size + 1 + 1 ≠ w.heap.size + 1 := by omega
  by_cases hn4 : n1 ≤ 4
  case neg =>
    have HS : Hid (sigsOk ds (rs.map sigR) = false) := by
      show _ = _
      cases h : sigsOk ds (rs.map sigR)
      · rfl
      · have := (sigsOk_parts h).2.2.1; simp at this; omega
    have hgt : (4 : Int) < (n1 : Int) := by omega
    have KB := Lib.hid ((Keep.al w (.cells #[.slice a0 n0 c0, .slice a1 n1 c1] 30)).trans (Keep.al _ (.cells #[.slice none 0 0, .slice none 0 0] 130)))
    have RZ := rowOf (w.alloc (.cells #[.slice a0 n0 c0, .slice a1 n1 c1] 30)) #[.slice none 0 0, .slice none 0 0] 130
    simp only [World.size_alloc] at RZ
    clear e1 hat r0 r1
    go_enter Tryz.func84, Tryz.ntmps84
    go_upto_region 2 with fail
    generalize hW : ((w.alloc (.cells #[.slice a0 n0 c0, .slice a1 n1 c1] 30)).alloc (.cells #[.slice none 0 0, .slice none 0 0] 130)) = W at *
    clear hW
    have c0 := RZ.cell (i := 0) (by simp)
    have c1 := RZ.cell (i := 1) (by simp)
    simp at c0 c1
    have f0 : W.frozen? ⟨w.heap.size + 1, 0, none⟩ = false := RZ.frozen 0
    have f1 : W.frozen? ⟨w.heap.size + 1, 1, none⟩ = false := RZ.frozen 1
    have RY := Lib.hid ((RZ.set 0 (.slice none 0 0)).set 1 (.slice none 0 0))
    have z0 := RY.out.cell (i := 0) (by simp)
    have z1 := RY.out.cell (i := 1) (by simp)
    simp at z0 z1
    have sx := Lib.hid (Ext.setCell (S := fun q => q = w.heap.size + 1) (Ext.setCell (S := fun q => q = w.heap.size + 1) (Ext.refl _ W) (p := ⟨w.heap.size + 1, 0, none⟩) (.inr rfl) (.slice none 0 0)) (p := ⟨w.heap.size + 1, 1, none⟩) (.inr rfl) (.slice none 0 0))
    clear RZ RY
    go_wp2_with fail
    refine bodyPost_ret (v := .tuple #[.agg #[.slice none 0 0, .slice none 0 0], .bool false]) (by simp [results, Tryz.results84, go_sem, z0, z1]) rfl (fin_ hQ ⟨none, 0, 0, none, 0, 0, false, rfl, HS.out.symm, (fun h => by cases h), KB.out.then_ sx.out (fun q hq h => by omega)⟩)
  have hn4' : ¬ (4 : Int) < (n1 : Int) := by omega
  have HLM : Hid ((rs.map sigR).length = n1) := by show _ = _; simp [e1]
  have ER : Hid (∀ j, j < n1 → (rs.map sigR).take (j + 1) = (rs.map sigR).take j ++ [sigR (rtAt rs j)]) := fun j hj => by
    have hj' : j < (rs.map sigR).length := by have := HLM.out; omega
    rw [List.take_succ_eq_append_getElem hj', ← sgAt_get hj', sgAt_sigR _ (by simpa using hj')]
  clear e1 hat r0 r1
  go_enter Tryz.func84, Tryz.ntmps84
  have K0 := (((Keep.al w (.cells #[.slice a0 n0 c0, .slice a1 n1 c1] 30)).trans (Keep.al _ (.cells #[.slice none 0 0, .slice none 0 0] 130))).trans (Keep.al _ (.cells #[.slice a0 n0 c0, .slice none 0 0] 130)))
  have RX := ((rowOf w #[.slice a0 n0 c0, .slice a1 n1 c1] 30).alloc (.cells #[.slice none 0 0, .slice none 0 0] 130)).alloc (.cells #[.slice a0 n0 c0, .slice none 0 0] 130)
  have RB := rowOf ((w.alloc (.cells #[.slice a0 n0 c0, .slice a1 n1 c1] 30)).alloc (.cells #[.slice none 0 0, .slice none 0 0] 130)) #[.slice a0 n0 c0, .slice none 0 0] 130
  have RR := (rowOf (w.alloc (.cells #[.slice a0 n0 c0, .slice a1 n1 c1] 30)) #[.slice none 0 0, .slice none 0 0] 130).alloc (.cells #[.slice a0 n0 c0, .slice none 0 0] 130)
  simp only [World.size_alloc] at RB RR RX
  have HRB := Lib.hid RB
  have HRR := Lib.hid RR
  have HRX := Lib.hid RX
  have HK0 := Lib.hid K0
  have HW3 : Hid ((((w.alloc (.cells #[.slice a0 n0 c0, .slice a1 n1 c1] 30)).alloc (.cells #[.slice none 0 0, .slice none 0 0] 130)).alloc (.cells #[.slice a0 n0 c0, .slice none 0 0] 130)).heap.size = w.heap.size + 3) := by show _ = _; simp
  clear RB RR RX K0
  go_wp2_with fail
  go_loopw [18] (fun iv wr => ∃ (j : Nat) (sv : Value), j ≤ n1 ∧ iv = .int .i64 j ∧ Hid (AccR wr (w.heap.size + 3) (fun k => k < w.heap.size ∨ w.heap.size + 3 ≤ k) 164 3 sv (((rs.map sigR).take j).map rowG)) ∧ Hid (wr.rowIs (w.heap.size + 2) 130 2 (fun i => (#[.slice a0 n0 c0, sv] : Array Value).getD i undef)) ∧ Hid (Ext (fun q => q = w.heap.size + 2) (((w.alloc (.cells #[.slice a0 n0 c0, .slice a1 n1 c1] 30)).alloc (.cells #[.slice none 0 0, .slice none 0 0] 130)).alloc (.cells #[.slice a0 n0 c0, .slice none 0 0] 130)) wr)) (fun iv _ => n1 - (intOf iv).toNat)
  case atStart => exact ⟨0, .slice none 0 0, Nat.zero_le _, rfl, (show AccR _ _ _ _ _ _ _ from by simpa using AccR.nil _ _ _ _ _), HRB.out, Ext.refl _ _⟩
  case round =>
    obtain ⟨j, sv, hj, rfl, hB, hR, hK⟩ := hrel
    have hs : w.heap.size + 3 ≤ wr.heap.size := by have := hK.out.size; have := HW3.out; omega
    have HSZ := Lib.hid hs
    have KW := Lib.hid (HK0.out.then_ hK.out (fun q hq h => by omega))
    by_cases hlt : j < n1
    · obtain ⟨b, o, rfl, hd, p0, q0, r0, p1, q1, r1, p3, q3, r3, d0, d1, d2, d3, d4, s0, s1, s3⟩ := HA.out j hlt
      have g0 := KW.out.cq d0 (fun h => h)
      have g1 := KW.out.cq d1 (fun h => h)
      have g2 := KW.out.cq d2 (fun h => h)
      have g3 := KW.out.cq d3 (fun h => h)
      have g4 := KW.out.cq d4 (fun h => h)
      have ka := Keep.al wr (.cells #[.slice p0 q0 r0, .slice p1 q1 r1, .int .i64 (rtAt rs j).result, .slice p3 q3 r3, .int .i64 (rtAt rs j).body.result] 71)
      have bnd := hB.out.bound
      have t0 := ((s0.lt.k KW.out).k ka).mono (D' := fun k => (fun k => k < w.heap.size ∨ w.heap.size + 3 ≤ k) k ∧ sv.ownBlock ≠ some k) (fun k hk => ⟨.inl (by omega), fun e => by have := bnd k e; omega⟩)
      have t1 := ((s1.lt.k KW.out).k ka).mono (D' := fun k => (fun k => k < w.heap.size ∨ w.heap.size + 3 ≤ k) k ∧ sv.ownBlock ≠ some k) (fun k hk => ⟨.inl (by omega), fun e => by have := bnd k e; omega⟩)
      have kl := Keep.al (wr.alloc (.cells #[.slice p0 q0 r0, .slice p1 q1 r1, .int .i64 (rtAt rs j).result, .slice p3 q3 r3, .int .i64 (rtAt rs j).body.result] 71)) (.cells #[.slice p0 q0 r0, .slice p1 q1 r1, .int .i64 (rtAt rs j).result] 164)
      have hX := lit_sig (wr.alloc (.cells #[.slice p0 q0 r0, .slice p1 q1 r1, .int .i64 (rtAt rs j).result, .slice p3 q3 r3, .int .i64 (rtAt rs j).body.result] 71)) (fun k => (fun k => k < w.heap.size ∨ w.heap.size + 3 ≤ k) k ∧ sv.ownBlock ≠ some k) 164 (sigR (rtAt rs j)) p0 q0 r0 p1 q1 r1 ⟨.inr (by simp; omega), fun e => by have := bnd _ e; simp at this; omega⟩ t0 t1
      simp only [World.size_alloc, sigR] at hX
      have hO2 := (hB.out.keep ka).keep kl
      have hlr : (((rs.map sigR).take j).map rowG).length = j := by
        rw [List.length_map, List.length_take, HLM.out]; omega
      have HLR := Lib.hid hlr
      have hBB := Lib.hid (hK.out.trans (Keep.to (ka.trans kl)))
      have hR1 := hR.out.alloc (.cells #[.slice p0 q0 r0, .slice p1 q1 r1, .int .i64 (rtAt rs j).result, .slice p3 q3 r3, .int .i64 (rtAt rs j).body.result] 71)
      have hR2 := hR1.alloc (.cells #[.slice p0 q0 r0, .slice p1 q1 r1, .int .i64 (rtAt rs j).result] 164)
      have HR2 := Lib.hid hR2
      have y1 : wr.cell? ⟨w.heap.size + 1 + 1, 1, none⟩ = some sv := hR.out.cell (i := 1) (by omega)
      have y1a : (wr.alloc (.cells #[.slice p0 q0 r0, .slice p1 q1 r1, .int .i64 (rtAt rs j).result, .slice p3 q3 r3, .int .i64 (rtAt rs j).body.result] 71)).cell? ⟨w.heap.size + 1 + 1, 1, none⟩ = some sv := hR1.cell (i := 1) (by omega)
      have y1b : ((wr.alloc (.cells #[.slice p0 q0 r0, .slice p1 q1 r1, .int .i64 (rtAt rs j).result, .slice p3 q3 r3, .int .i64 (rtAt rs j).body.result] 71)).alloc (.cells #[.slice p0 q0 r0, .slice p1 q1 r1, .int .i64 (rtAt rs j).result] 164)).cell? ⟨w.heap.size + 1 + 1, 1, none⟩ = some sv := hR2.cell (i := 1) (by omega)
      clear d0 d1 d2 d3 d4 s0 s1 s3 bnd t0 t1 hlr ka kl hB hR1 hR2
      go_wp2_with (at_builtin; go_must (refine wpList_appR _ rfl (.tmp 23) (.tmp 31) 128 rfl (w.heap.size + 3) 164 (.agg #[.slice none 0 0, .slice none 0 0, .int .i64 0]) 3 56 Tryz.underlying128 (by kernel_rfl) rfl (by omega) (fun k => k < w.heap.size ∨ w.heap.size + 3 ≤ k) _ _ rfl hO2 _ 1 1 _ _ rfl hX (fun k _ hk => hk) (by rw [HLR.out]; omega) (by rw [HLR.out]; omega) (by simp; omega) ?_); intro v1 w10 hA2 xA sA; obtain ⟨av, nv, cv, rfl⟩ : ∃ av nv cv, v1 = .slice av nv cv := (by obtain ⟨a9, c9, e9, _⟩ := hA2.read (by omega); exact ⟨_, _, _, e9⟩); have hr10 := Lib.hid (row_ext HR2.out xA (fun (h : w.heap.size + 3 ≤ _) => by omega)); have fz : w10.frozen? ⟨w.heap.size + 1 + 1, 1, none⟩ = false := hr10.out.frozen 1; have cz : w10.cell? ⟨w.heap.size + 1 + 1, 1, none⟩ = some sv := hr10.out.cell (i := 1) (by omega); have HA2 := Lib.hid hA2; have HX10 := Lib.hid (hBB.out.then_ xA (fun q hq h => by have := HW3.out; omega)); clear hA2 xA sA)
      have hs2 : Ext (fun q => q = w.heap.size + 2) w10 (w10.setCell ⟨w.heap.size + 1 + 1, 1, none⟩ (.slice av nv cv)) := Ext.setCell (S := fun q => q = w.heap.size + 2) (Ext.refl _ w10) (p := ⟨w.heap.size + 1 + 1, 1, none⟩) (.inr rfl) _
      go_roundw
      case rel => exact ⟨j + 1, .slice av nv cv, by omega, by go_num, by
        show AccR _ _ _ _ _ _ _
        rw [ER.out j hlt, List.map_append]; exact HA2.out.ext hs2 (fun k _ hk => by rcases hk with (hk | hk) | hk <;> omega), by
        refine (hr10.out.set 1 (.slice av nv cv)).congr (fun i hi => ?_)
        rcases (show i = 0 ∨ i = 1 by omega) with rfl | rfl <;> rfl, HX10.out.trans hs2⟩
      case measure => simp [intOf]; omega
    · have HJ : Hid (j = n1) := by show _ = _; omega
      have hB2 := hB.out
      rw [List.take_of_length_le (by have := HLM.out; have := HJ.out; omega)] at hB2
      obtain ⟨a', c', e, _, _, rd⟩ := hB2.read (by omega)
      rw [List.length_map, HLM.out] at e
      subst e
      obtain ⟨ok, hok⟩ : ∃ ok, sigsOk ds (rs.map sigR) = ok := ⟨_, rfl⟩
      have HS := Lib.hid hok
      have KD : Keep wr wr.drew := (Ext.refl (fun _ => False) wr).drew
      have QS : Hid (Rd wr.drew (fun k => k < w.heap.size ∨ w.heap.size + 3 ≤ k) (encSigs (rs.map sigR)) (.slice a' n1 c')) := (rd.k KD).mono (fun k hk => by rcases hk with hk | hk; exact hk; exact .inr hk)
      have QD : Hid (Rd wr.drew (fun k => k < w.heap.size) (encDecls ds) (.slice a0 n0 c0)) := ((R0.out.k KW.out).k KD).mono (fun k hk => hk.2)
      have RZ := Lib.hid (row_ext (row_ext HRR.out hK.out (fun h => by omega)) KD (fun h => h))
      have KW2 := Lib.hid (KW.out.trans KD)
      have x0 : wr.drew.cell? ⟨w.heap.size, 0, none⟩ = some (.slice a0 n0 c0) := by
        have h := (row_ext HRX.out hK.out (fun h => by omega)).cell (i := 0) (by simp)
        simp at h; exact h
      have m0 : wr.drew.cell? ⟨w.heap.size + 1 + 1, 0, none⟩ = some (.slice a0 n0 c0) := hR.out.cell (i := 0) (by omega)
      have m1 : wr.drew.cell? ⟨w.heap.size + 1 + 1, 1, none⟩ = some (.slice a' n1 c') := hR.out.cell (i := 1) (by omega)
      clear hB hB2 rd KD hok hR hK KW
      go_wp2_with fail
      refine wp_region_held_drew (S := fun w' => w'.cell? ⟨w.heap.size, 0, none⟩ = some (.slice a0 n0 c0) ∧ w'.cell? ⟨w.heap.size + 1 + 1, 0, none⟩ = some (.slice a0 n0 c0) ∧ w'.cell? ⟨w.heap.size + 1 + 1, 1, none⟩ = some (.slice a' n1 c')) (by kernel_rfl) ⟨x0, m0, m1⟩ (fun hHeld => ?_)
      have pc : Hid (Keep wr.drew wr.drew) := Ext.refl _ _
      refine wT 0 hHeld ?_
      try go_frame
      refine wT 1 hHeld ?_
      try go_frame
      refine wT 2 hHeld ?_
      try go_frame
      refine wT 3 hHeld ?_
      try go_frame
      refine wT 4 hHeld ?_
      try go_frame
      refine wO 5 (fun K0 hK0 => ?_)
      go_simp
      go_at_call 114
      refine (implValidSigs0 ds (rs.map sigR) _ _ _ _ _ _ _ _ _ QD.out QS.out).mono ?_
      rw [HS.out]
      rintro e y1 ⟨rfl, kk⟩
      replace pc := Lib.hid (pc.out.trans kk)
      replace QD := Lib.hid (QD.out.k kk)
      replace QS := Lib.hid (QS.out.k kk)
      replace RZ := Lib.hid (row_ext RZ.out kk (fun h => h))
      clear kk
      refine hK0.out _ _ ⟨pc.out.cq x0 (fun h => h), pc.out.cq m0 (fun h => h), pc.out.cq m1 (fun h => h)⟩ (fun hHeld => ?_)
      clear hK0
      try go_frame
      refine wO 6 (fun K0 hK0 => ?_)
      have c0 := RZ.out.cell (i := 0) (by simp)
      have c1 := RZ.out.cell (i := 1) (by simp)
      simp at c0 c1
      have f0 : y1.frozen? ⟨w.heap.size + 1, 0, none⟩ = false := RZ.out.frozen 0
      have f1 : y1.frozen? ⟨w.heap.size + 1, 1, none⟩ = false := RZ.out.frozen 1
      go_simp
      clear c0 c1 f0 f1
      refine hK0.out _ _ ⟨at_put2 (pc.out.cq x0 (fun h => h)) hx, at_put2 (pc.out.cq m0 (fun h => h)) hy, at_put2 (pc.out.cq m1 (fun h => h)) hy⟩ (fun hHeld => ?_)
      clear hK0
      try go_frame
      refine wT 7 hHeld ?_
      try go_frame
      refine wpAnyH_done (by kernel_rfl) ?_ _
      have RY := (RZ.out.set 0 (.slice a0 n0 c0)).set 1 (.slice a' n1 c')
      have z0 := RY.cell (i := 0) (by simp)
      have z1 := RY.cell (i := 1) (by simp)
      simp at z0 z1
      have sx : Ext (fun q => q = w.heap.size + 1) y1 ((y1.setCell ⟨w.heap.size + 1, 0, none⟩ (.slice a0 n0 c0)).setCell ⟨w.heap.size + 1, 1, none⟩ (.slice a' n1 c')) := Ext.setCell (S := fun q => q = w.heap.size + 1) (Ext.setCell (S := fun q => q = w.heap.size + 1) (Ext.refl _ y1) (p := ⟨w.heap.size + 1, 0, none⟩) (.inr rfl) _) (p := ⟨w.heap.size + 1, 1, none⟩) (.inr rfl) _
      have QD2 := Lib.hid (QD.out.ext sx (fun k hk h => by omega))
      have QS2 := Lib.hid (QS.out.ext sx (fun k hk h => by omega))
      have KE := Lib.hid ((KW2.out.trans pc.out).then_ sx (fun q hq h => by omega))
      clear RY sx pc QD QS RZ hHeld
      go_wp2_with fail
      refine bodyPost_ret (v := .tuple #[.agg #[.slice a0 n0 c0, .slice a' n1 c'], .bool ok]) (by simp [results, Tryz.results84, go_sem, z0, z1]) rfl (fin_ hQ ⟨a0, n0, c0, a', n1, c', ok, rfl, HS.out.symm, fun _ => ⟨QD2.out.mono (fun _ _ => trivial), QS2.out.mono (fun _ _ => trivial)⟩, KE.out⟩)
end Go.Proofs.YtkapldpmjkdmcaaGreat
/- The signatures of a program, by the program. -/
namespace Go.Proofs.YtkapldpmjkdmcaaGreat
open Go.RowKit

end Go.Proofs.YtkapldpmjkdmcaaGreat
/- TypeOf of both packages. -/
namespace Go.Proofs.YtkapldpmjkdmcaaGreat
open Go.RowKit

/-- What both functions TypeOf return. -/
def typeTop (ds : List DeclL) (fs : List FuncL) (vars : List Int) (e : ExprL) : Int :=
  if sigsOk ds (fs.map sigF) = true ∧ ¬ nodesL e.kids < 0 ∧ allT ds.length vars = true then tyE ds (fs.map sigF) vars e else -1

theorem cloneInts (a : Option Addr) (n c : Nat) (xs : List Int) (D : Nat → Prop) (w : World) (h : IntsL w D a n xs) (hn : n ≤ 1052000) :
    Calls Tryz.prog 54 #[.slice a n c] w fun e w' => ∃ v', e = .returned v' ∧ VR w' w.heap.size v' xs ∧ Keep w w' := by
  obtain ⟨h1, h2⟩ := h
  rcases Nat.eq_zero_or_pos n with h0 | h0
  · subst h0
    have hx : xs = [] := List.eq_nil_of_length_eq_zero h1
    subst hx
    rcases a with _ | a
    · refine (Tryz.slices_Clone_int_nil 0 c w).mono ?_
      rintro e w' ⟨rfl, rfl⟩
      exact ⟨_, rfl, World.ownsRow_nil _ _ _ _, Ext.refl _ _⟩
    · refine (Tryz.slices_Clone_int_zero a c w).mono ?_
      rintro e w' ⟨v', rfl, ho, _, hb⟩
      exact ⟨_, rfl, ho, Ext.of_below hb⟩
  · obtain ⟨b, o, rfl, _, hc⟩ := h2 h0
    refine (Tryz.slices_Clone_int b o n c xs w (by omega) (by omega) (fun j hj => hc j (by omega))).mono ?_
    rintro e w' ⟨v', rfl, ho, _, hb⟩
    rw [← h1, List.take_length] at ho
    exact ⟨_, rfl, ho, Ext.of_below hb⟩
/- BY gen_tyi12 -/

end Go.Proofs.YtkapldpmjkdmcaaGreat
/- What the program's types of blocks are about; the fields of the constructors of a type. -/
namespace Go.Proofs.YtkapldpmjkdmcaaGreat
open Go.RowKit

mutual
/-- Numbers of steps are integers; arguments are not too many. -/
def okS : StepL → Prop
  | .mk op num _ args ks => fitN op num ∧ args.length ≤ 1048576 ∧ okBs ks
def okSs : List StepL → Prop
  | [] => True
  | s :: ss => okS s ∧ okSs ss
def okB : BlockL → Prop
  | .mk ss _ => okSs ss
def okBs : List BlockL → Prop
  | [] => True
  | b :: bs => okB b ∧ okBs bs
end
theorem okSs_at {ss : List StepL} (h : okSs ss) {j : Nat} (hj : j < ss.length) : okS (sAt ss j) := by
  induction ss generalizing j with
  | nil => simp at hj
  | cons s ss ih =>
    rw [okSs] at h
    rcases j with _ | j
    · exact h.1
    · have := ih h.2 (j := j) (by simpa using hj)
      simpa [sAt] using this
theorem okBs_at {bs : List BlockL} (h : okBs bs) {j : Nat} (hj : j < bs.length) : okSs (bAt bs j).steps := by
  induction bs generalizing j with
  | nil => simp at hj
  | cons b bs ih =>
    rw [okBs] at h
    rcases j with _ | j
    · have h1 := h.1
      have e : bAt (b :: bs) 0 = b := by simp [bAt]
      rw [e]
      cases b
      rw [okB] at h1; exact h1
    · have := ih h.2 (j := j) (by simpa using hj)
      simpa [bAt] using this

/-- What blockType of the program does for one block. -/
def BlI (ds : List DeclL) (sg : List SigL) (res : Int) (ss : List StepL) : Prop := ∀ (a0 : Option Addr) (n0 c0 : Nat) (a1 : Option Addr) (n1 c1 : Nat) (av : Option Addr) (nv cv : Nat) (sc : List Int) (a : Option Addr) (n c : Nat) (w : World),
  SR w (fun _ => True) ds sg a0 n0 c0 a1 n1 c1 → IntsL w (fun _ => True) av nv sc → Rd w (fun _ => True) (encSteps ss) (.slice a n c) → sc.length + 4 * nSs ss ≤ 1052000 → allT ds.length sc = true →
  Calls Tryz.prog 85 #[.agg #[.slice a0 n0 c0, .slice a1 n1 c1], .slice av nv cv, .agg #[.slice a n c, .int .i64 res]] w fun r w' => r = .returned (.int .i64 (runT ds sg res sc ss)) ∧ Keep w w'
/-- What stepType of the program tells. -/
def StR (ds : List DeclL) (sg : List SigL) (sc : List Int) (s : StepL) (w : World) (r : Ending) (w' : World) : Prop :=
  ∃ (t : Int) (ok : Bool), r = .returned (.tuple #[.int .i64 t, .bool ok]) ∧ ok = decide (0 ≤ stpT ds sg sc s) ∧ (ok = true → ¬ (14 ≤ s.op ∧ s.op ≤ 17) → t = stpT ds sg sc s) ∧ Keep w w'
/-- What stepType of the program does for one step. -/
def StI (ds : List DeclL) (sg : List SigL) (s : StepL) : Prop := ∀ (a0 : Option Addr) (n0 c0 : Nat) (a1 : Option Addr) (n1 c1 : Nat) (av : Option Addr) (nv cv : Nat) (sc : List Int) (aa : Option Addr) (na ca : Nat) (ak : Option Addr) (nk ck : Nat) (w : World),
  SR w (fun _ => True) ds sg a0 n0 c0 a1 n1 c1 → IntsL w (fun _ => True) av nv sc → Rd w (fun _ => True) (encInts s.args) (.slice aa na ca) → Rd w (fun _ => True) (encBlocks s.kids) (.slice ak nk ck) → sc.length + 4 * nS s ≤ 1052000 → allT ds.length sc = true →
  Calls Tryz.prog 134 #[.agg #[.slice a0 n0 c0, .slice a1 n1 c1], .slice av nv cv, .agg #[.int .i64 s.op, .int .i64 s.num, .int .i64 s.into, .slice aa na ca, .slice ak nk ck]] w (StR ds sg sc s w)

theorem armsL_take {ds : List DeclL} {t : Int} {j : Nat} (h : j < (consL ds t).length) : (armsL ds t).take (j + 1) = (armsL ds t).take j ++ [conFieldsL ds (iAt (consL ds t) j)] := by
  have h2 : j < (armsL ds t).length := by rw [armsL_len]; exact h
  rw [List.take_succ_eq_append_getElem h2]
  congr 2
  simp only [armsL, List.getElem_map]
  rw [iAt_eq h]
/-- One row of integers, just written down. -/
theorem lit_con (w : World) (D : Nat → Prop) (T : TypeId) (xs : List Int) (a : Option Addr) (n c : Nat) (hB : D w.heap.size) (h : Rd w D (encInts xs) (.slice a n c)) :
    Rd (w.alloc (.cells #[.slice a n c] T)) D (encCons [xs]) (.slice (some ⟨w.heap.size, 0, none⟩) 1 1) := by
  refine Rd.litD w D T 1 _ ([xs].map rowC) 1 hB (by simp) (by omega) (by omega) (by simp) (fun i hi => ?_) (fun i j hi hj => ?_)
  · obtain rfl : i = 0 := by simp at hi; exact hi
    rfl
  · obtain rfl : i = 0 := by simp at hi; exact hi
    obtain rfl : j = 0 := by omega
    exact ⟨_, rfl, h⟩

set_option maxRecDepth 100000 in
set_option maxHeartbeats 1000000 in
theorem implArmFields (ds : List DeclL) (num : Int) (a0 : Option Addr) (n0 c0 : Nat) (a1 : Option Addr) (n1 c1 : Nat) (D : Nat → Prop) (w : World) (r0 : Rd w D (encDecls ds) (.slice a0 n0 c0)) (ht : typesOk ds = true) :
    Calls Tryz.prog 191 #[.agg #[.slice a0 n0 c0, .slice a1 n1 c1], .int .i64 num] w fun e w' => ∃ a m c, e = .returned (.slice a m c) ∧ m = (consL ds num).length ∧ Rd w' (fun _ => True) (encCons (armsL ds num)) (.slice a m c) ∧ Keep w w' := by
  refine calls_k fun Q hQ => ?_
  have hf := Few.of_ok ht
  have K0 := Keep.al w (.cells #[.slice a0 n0 c0, .slice a1 n1 c1] 130)
  have R0 := rowOf w #[.slice a0 n0 c0, .slice a1 n1 c1] 130
  have x0 := R0.cell (i := 0) (by simp)
  simp at x0
  have hnc0 : n0 ≤ c0 := (decls_at r0).2.1
  have QD : Hid (Rd (w.alloc (.cells #[.slice a0 n0 c0, .slice a1 n1 c1] 130)) (fun k => k < w.heap.size) (encDecls ds) (.slice a0 n0 c0)) := (r0.lt.mono (fun k hk => hk.2)).k K0
  have HF := Lib.hid hf
  have HT := Lib.hid ht
  have hcl := consL_len hf num
  clear r0 ht
  go_enter Tryz.func191, Tryz.ntmps191
  go_wp2_with fail
  refine (implConsOf0 _ _ _ ds _ _ _ (Rd.toDecls QD.out) hnc0 HF.out).mono ?_
  rintro e w1 ⟨ac, m, cc, rfl, hmc, oc, p1⟩
  have hml : m = (consL ds num).length := oc.1.symm
  have HM := Lib.hid hml
  have hm3 : m ≤ 3 := by omega
  have OC := Lib.hid oc.read
  have K1 := Lib.hid (K0.trans p1)
  have R1 := Lib.hid (row_ext R0 p1 (fun h => h))
  have hw1 : w.heap.size + 1 ≤ w1.heap.size := by have := p1.size; simpa using this
  replace QD := Lib.hid (QD.out.k p1)
  have HAL := Lib.hid (armsL_len ds num)
  clear oc hml p1 R0 K0 x0 hcl hf
  go_wp2_with fail
  go_loopw [5, 13] (fun sv iv wr => ∃ (j : Nat), j ≤ m ∧ iv = .int .i64 j ∧ Hid (AccR wr w1.heap.size (fun _ => True) 52 1 sv (((armsL ds num).take j).map rowC)) ∧ Hid (Keep w1 wr)) (fun _ iv _ => m - (intOf iv).toNat)
  case atStart => exact ⟨0, Nat.zero_le _, rfl, (show AccR _ _ _ _ _ _ _ from by simpa using AccR.nil _ _ _ _ _), Ext.refl _ _⟩
  case round =>
    obtain ⟨j, hj, rfl, hB, hK⟩ := hrel
    obtain ⟨wo, rfl⟩ : ∃ wo : World, wo = wr := ⟨_, rfl⟩
    by_cases hlt : j < m
    · obtain ⟨b, o, rfl, _, d0⟩ := (OC.out.ext hK.out (fun _ _ h => h)).at hlt
      have HJ : Hid (j < (consL ds num).length) := by show _ < _; rw [← HM.out]; exact hlt
      have hrg := consL_rg HF.out num HJ.out
      obtain ⟨x, hx⟩ : ∃ x, iAt (consL ds num) j = x := ⟨_, rfl⟩
      rw [hx] at d0 hrg
      have HX := Lib.hid hx
      have x0 := (row_ext R1.out hK.out (fun h => h)).cell (i := 0) (by simp)
      simp at x0
      have qd := Lib.hid (QD.out.k hK.out)
      have hos := hK.out.size
      clear hx
      go_wp2_with fail
      refine (implFieldsOf _ _ _ ds _ _ _ (Rd.toDecls qd.out) HF.out (by omega) (by omega)).mono ?_
      rintro e w2 ⟨af, fm, fc, rfl, hfc, hfi, p2⟩
      have bnd := hB.out.bound
      have hlr : (((armsL ds num).take j).map rowC).length ≤ 3 := by rw [List.length_map, List.length_take]; omega
      have hfl : fm ≤ 3 := by have h1 := hfi.1; have h2 := (conFieldsL_ok HT.out x).1; omega
      have hs2 := p2.size
      have hX := Lib.hid (lit_con w2 (fun k => True ∧ u5.ownBlock ≠ some k) 52 (conFieldsL ds x) af fm fc ⟨trivial, fun e => by have := bnd _ e; omega⟩ ((hfi.toRd hfc (by omega)).mono (fun k hk => ⟨trivial, fun e => by have := bnd _ e; rcases hk with h | h <;> omega⟩)))
      have KL := Keep.al w2 (.cells #[.slice af fm fc] 52)
      have hO2 := Lib.hid ((hB.out.keep p2).keep KL)
      have hKK := Lib.hid ((hK.out.trans p2).trans KL)
      have hzl : w1.heap.size ≤ (w2.alloc (.cells #[.slice af fm fc] 52)).heap.size := by have := hKK.out.size; exact this
      clear bnd p2 KL hfi hB x0 d0
      go_wp2_with (at_builtin; go_must (refine wpList_appR _ rfl (.tmp 17) (.tmp 22) 205 rfl w1.heap.size 52 (.slice none 0 0) 1 24 Tryz.underlying205 (by kernel_rfl) rfl (by omega) (fun _ => True) _ _ rfl hO2.out _ 1 1 _ _ rfl hX.out (fun k _ hk => hk) (by omega) (by omega) hzl ?_); intro v1 w10 hA2 xA sA; have HA2 := Lib.hid hA2; have HK2 := Lib.hid (hKK.out.then_ xA (fun q hq h => by omega)); clear hA2 xA sA)
      go_roundw
      case rel => exact ⟨j + 1, by omega, by go_num, by
        show AccR _ _ _ _ _ _ _
        rw [armsL_take HJ.out, List.map_append, HX.out]; exact HA2.out, HK2⟩
      case measure => simp [intOf]; omega
    · have HJ : Hid (j = m) := by show _ = _; omega
      have hB2 := hB.out
      rw [List.take_of_length_le (by rw [HAL.out, ← HM.out]; have := HJ.out; omega)] at hB2
      obtain ⟨a', c', e, _, _, rd⟩ := hB2.read (by omega)
      rw [List.length_map, HAL.out, ← HM.out] at e
      subst e
      have RD := Lib.hid rd.t
      have KE := Lib.hid (K1.out.trans hK.out)
      clear hB hB2 rd hK
      go_wp2_with fail
      exact fin_ hQ ⟨a', m, c', rfl, HM.out, RD.out, KE.out⟩
end Go.Proofs.YtkapldpmjkdmcaaGreat
/- The program's types of blocks: choices. -/
namespace Go.Proofs.YtkapldpmjkdmcaaGreat
open Go.RowKit

set_option maxRecDepth 100000 in
set_option maxHeartbeats 2000000 in
theorem implKids (ds : List DeclL) (sg : List SigL) (ks : List BlockL) (IH0 : ∀ j, j < ks.length → BlI ds sg (bAt ks j).result (bAt ks j).steps) (a0 : Option Addr) (n0 c0 : Nat) (a1 : Option Addr) (n1 c1 : Nat) (av : Option Addr) (nv cv : Nat) (sc : List Int) (a : Option Addr) (n c : Nat) (am : Option Addr) (nm cm : Nat) (fs : List (List Int)) (w : World)
    (hp : SR w (fun _ => True) ds sg a0 n0 c0 a1 n1 c1) (hv : IntsL w (fun _ => True) av nv sc) (h : Rd w (fun _ => True) (encBlocks ks) (.slice a n c)) (hm : Rd w (fun _ => True) (encCons fs) (.slice am nm cm)) (hfl : fs.length = ks.length) (h0 : 0 < ks.length)
    (hlen : sc.length + 4 * (nBs ks + 1) ≤ 1052000) (hall : allT ds.length sc = true) (hfs : ∀ i, i < fs.length → (cAt fs i).length ≤ 3 ∧ allT ds.length (cAt fs i) = true) :
    Calls Tryz.prog 190 #[.agg #[.slice a0 n0 c0, .slice a1 n1 c1], .slice av nv cv, .slice a n c, .slice am nm cm] w fun r w' => ∃ (t : Int) (ok : Bool), r = .returned (.tuple #[.int .i64 t, .bool ok]) ∧ ok = decide (0 ≤ oneT (armT ds sg sc ks fs)) ∧ (ok = true → t = oneT (armT ds sg sc ks fs)) ∧ Keep w w' := by
  refine calls_k fun Q hQ => ?_
  have K0 := Keep.al w (.cells #[.slice a0 n0 c0, .slice a1 n1 c1] 130)
  have R0 := rowOf w #[.slice a0 n0 c0, .slice a1 n1 c1] 130
  obtain ⟨e1, hnc, hnm, hat⟩ := blocks_at h
  obtain ⟨e2, hmc, hmm, hmat⟩ := cons_at hm
  have HL := Lib.hid e1
  have HM := Lib.hid e2
  have HA := Lib.hid hat
  have HMA := Lib.hid hmat
  have IH := Lib.hid IH0
  have hnm2 : nm = n := by omega
  have HLen := Lib.hid hlen
  have HAll := Lib.hid hall
  have HFS := Lib.hid hfs
  have HFL := Lib.hid hfl
  have hnv : nv ≤ 1052000 := by have := hv.1; omega
  have hn0 : 0 < n := by omega
  obtain ⟨T, hT⟩ : ∃ T, armT ds sg sc ks fs = T := ⟨_, rfl⟩
  have TL : Hid (T.length = ks.length) := by show _ = _; rw [← hT, armT_len]
  have TA : Hid (∀ i, i < ks.length → iAt T i = blkT ds sg (sc ++ cAt fs i) (bAt ks i)) := fun i hi => by rw [← hT, armT_at ds sg sc hi]
  rw [hT] at hQ
  subst hnm2
  clear e1 e2 hat hmat IH0 hlen hall hfs hfl h hm hT h0
  go_enter Tryz.func190, Tryz.ntmps190
  go_wp2_with fail
  go_loopw [10, 16] (fun rv iv wr => ∃ (j : Nat) (r : Int), j ≤ nm ∧ iv = .int .i64 j ∧ rv = .int .i64 r ∧ Hid (0 < j → 0 ≤ r ∧ ∀ l, l < j → iAt T l = r) ∧ Hid (Keep (w.alloc (.cells #[.slice a0 n0 c0, .slice a1 n1 c1] 130)) wr)) (fun _ iv _ => nm - (intOf iv).toNat)
  case atStart => exact ⟨0, -1, Nat.zero_le _, rfl, rfl, (show 0 < 0 → _ from fun h => absurd h (by omega)), Ext.refl _ _⟩
  case round =>
    obtain ⟨j, r, hj, rfl, rfl, hI, hK⟩ := hrel
    obtain ⟨wo, rfl⟩ : ∃ wo : World, wo = wr := ⟨_, rfl⟩
    by_cases hlt : j < nm
    · have HJ : Hid (j < ks.length) := by have := HL.out; show _ < _; omega
      have KW := Lib.hid (K0.trans hK.out)
      obtain ⟨b, o, rfl, _, a5, n5, c5, d0, d1, r5⟩ := HA.out j hlt
      obtain ⟨bm, om, rfl, _, fa, fm, fc, dm, rm⟩ := HMA.out j hlt
      have g0 := KW.out.cq d0 (fun h => h)
      have g1 := KW.out.cq d1 (fun h => h)
      have HFO := Lib.hid (HFS.out j (by have := HFL.out; have := HJ.out; omega))
      have hfm3 : fm ≤ 3 := by have := HFO.out.1; have := (ints_at rm).1; omega
      obtain ⟨zs, hzs⟩ : ∃ zs, zs = sc ++ cAt fs j := ⟨_, rfl⟩
      have HZS := Lib.hid hzs
      have HBB : Hid (zs.length + 4 * nSs (bAt ks j).steps ≤ 1052000) := by show _ ≤ _; have := nB_le ks HJ.out; have := nB_eq (bAt ks j); have := HLen.out; have := HFO.out.1; rw [hzs, List.length_append]; omega
      have HAL2 : Hid (allT ds.length zs = true) := by show _ = _; rw [hzs]; exact allT_append HAll.out HFO.out.2
      obtain ⟨z, hz⟩ : ∃ z, runT ds sg (bAt ks j).result zs (bAt ks j).steps = z := ⟨_, rfl⟩
      have HZ2 := Lib.hid hz
      have hTj : Hid (iAt T j = z) := by show _ = _; rw [TA.out j HJ.out, blkT_eq, ← hzs, hz]
      have KB := Lib.hid (Keep.al wo (.cells #[.slice a5 n5 c5, .int .i64 (bAt ks j).result] 69))
      have KX := Lib.hid (KW.out.trans KB.out)
      have gm := KX.out.cq dm (fun h => h)
      have QP := Lib.hid (hp.k KX.out)
      have QV := Lib.hid (hv.ext KX.out (fun _ _ h => h))
      have QK := Lib.hid (r5.k KX.out)
      have QM := Lib.hid ((Rd.toInts rm).ext KX.out (fun _ _ h => h))
      have RS := row_ext R0 (hK.out.trans KB.out) (fun h => h)
      have x0 := RS.cell (i := 0) (by simp)
      have x1 := RS.cell (i := 1) (by simp)
      simp at x0 x1
      have b0 : (wo.alloc (.cells #[.slice a5 n5 c5, .int .i64 (bAt ks j).result] 69)).cell? ⟨wo.heap.size, 0, none⟩ = some (.slice a5 n5 c5) := boxk (Ext.refl _ _) 0
      have b1 : (wo.alloc (.cells #[.slice a5 n5 c5, .int .i64 (bAt ks j).result] 69)).cell? ⟨wo.heap.size, 1, none⟩ = some (.int .i64 (bAt ks j).result) := boxk (Ext.refl _ _) 1
      clear d0 d1 dm r5 rm hz RS hzs
      go_upto_region 5 with fail
      have KN0 := Lib.hid (hK.out.trans KB.out)
      generalize hW : wo.alloc (.cells #[.slice a5 n5 c5, .int .i64 (bAt ks j).result] 69) = wq at *
      clear hW g0 g1 KB
      generalize hS : wo.heap.size = s12 at *
      clear hS
      have KD : Keep wq wq.drew := (Ext.refl (fun _ => False) wq).drew
      replace KX := Lib.hid (KX.out.trans KD)
      replace KN0 := Lib.hid (KN0.out.trans KD)
      replace QP := Lib.hid (QP.out.k KD)
      replace QV := Lib.hid (QV.out.ext KD (fun _ _ h => h))
      replace QK := Lib.hid (QK.out.k KD)
      replace QM := Lib.hid (QM.out.ext KD (fun _ _ h => h))
      replace x0 : wq.drew.cell? ⟨w.heap.size, 0, none⟩ = some (.slice a0 n0 c0) := x0
      replace x1 : wq.drew.cell? ⟨w.heap.size, 1, none⟩ = some (.slice a1 n1 c1) := x1
      replace gm : wq.drew.cell? ⟨bm, om + j, none⟩ = some (.slice fa fm fc) := gm
      replace b0 : wq.drew.cell? ⟨s12, 0, none⟩ = some (.slice a5 n5 c5) := b0
      replace b1 : wq.drew.cell? ⟨s12, 1, none⟩ = some (.int .i64 (bAt ks j).result) := b1
      clear KD
      refine wp_region_held_drew (S := fun w' => w'.cell? ⟨w.heap.size, 0, none⟩ = some (.slice a0 n0 c0) ∧ w'.cell? ⟨w.heap.size, 1, none⟩ = some (.slice a1 n1 c1) ∧ w'.cell? ⟨bm, om + j, none⟩ = some (.slice fa fm fc) ∧ w'.cell? ⟨s12, 0, none⟩ = some (.slice a5 n5 c5) ∧ w'.cell? ⟨s12, 1, none⟩ = some (.int .i64 (bAt ks j).result)) (by kernel_rfl) ⟨x0, x1, gm, b0, b1⟩ (fun hHeld => ?_)
      have pc : Hid (Keep wq.drew wq.drew) := Ext.refl _ _
      generalize wq.drew = W0 at *
      refine wT 0 hHeld ?_
      try go_frame
      refine wT 1 hHeld ?_
      try go_frame
      refine wT 2 hHeld ?_
      try go_frame
      refine wT 3 hHeld ?_
      try go_frame
      refine wT 4 hHeld ?_
      try go_frame
      refine wT 5 hHeld ?_
      try go_frame
      refine wT 8 hHeld ?_
      try go_frame
      refine wO 6 (fun K0 hK0 => ?_)
      go_simp
      obtain ⟨y1, hW⟩ : ∃ N, N = W0.alloc (.cells #[.slice av nv cv, .slice fa fm fc] 52) := ⟨_, rfl⟩
      obtain ⟨sl, hsl⟩ : ∃ s, s = W0.heap.size := ⟨_, rfl⟩
      rw [← hsl, ← hW]
      have l0 : y1.cell? ⟨sl, 0, none⟩ = some (.slice av nv cv) := by rw [hW, hsl]; exact boxk (Ext.refl _ _) 0
      have l1 : y1.cell? ⟨sl, 1, none⟩ = some (.slice fa fm fc) := by rw [hW, hsl]; exact boxk (Ext.refl _ _) 1
      have kk : Keep W0 y1 := by rw [hW]; exact Keep.al _ _
      replace pc := Lib.hid (pc.out.trans kk)
      replace QP := Lib.hid (QP.out.k kk)
      replace QV := Lib.hid (QV.out.ext kk (fun _ _ h => h))
      replace QM := Lib.hid (QM.out.ext kk (fun _ _ h => h))
      replace QK := Lib.hid (QK.out.k kk)
      have L0 := Lib.hid l0
      have L1 := Lib.hid l1
      clear kk hW hsl l0 l1
      refine hK0.out _ _ ⟨pc.out.cq x0 (fun h => h), pc.out.cq x1 (fun h => h), pc.out.cq gm (fun h => h), pc.out.cq b0 (fun h => h), pc.out.cq b1 (fun h => h)⟩ (fun hHeld => ?_)
      clear hK0
      try go_frame
      refine wO 7 (fun K0 hK0 => ?_)
      go_simp
      go_at_call 202
      refine (concatTwo _ _ _ _ _ sc _ _ _ _ (cAt fs j) _ _ L0.out L1.out QV.out QM.out (by omega) (by omega)).mono ?_
      rintro e y2 ⟨v2, rfl, hv2, kk⟩
      rw [← HZS.out] at hv2
      obtain ⟨a2, c2, rfl, hc2, ho2⟩ := hv2.slice
      replace pc := Lib.hid (pc.out.trans kk)
      replace QP := Lib.hid (QP.out.k kk)
      replace QV := Lib.hid (QV.out.ext kk (fun _ _ h => h))
      replace QM := Lib.hid (QM.out.ext kk (fun _ _ h => h))
      replace QK := Lib.hid (QK.out.k kk)
      have Q2 : Hid (IntsL y2 (fun _ => True) a2 zs.length zs) := ho2.read.mono (fun _ _ => trivial)
      clear kk hv2 ho2 hc2 L0 L1
      refine hK0.out _ _ ⟨pc.out.cq x0 (fun h => h), pc.out.cq x1 (fun h => h), pc.out.cq gm (fun h => h), pc.out.cq b0 (fun h => h), pc.out.cq b1 (fun h => h)⟩ (fun hHeld => ?_)
      clear hK0
      try go_frame
      refine wO 9 (fun K0 hK0 => ?_)
      go_simp
      go_at_call 85
      refine (IH.out j HJ.out _ _ _ _ _ _ a2 _ c2 zs _ _ _ y2 QP.out Q2.out QK.out HBB.out HAL2.out).mono ?_
      rw [HZ2.out]
      rintro e y3 ⟨rfl, kk⟩
      replace pc := Lib.hid (pc.out.trans kk)
      replace QP := Lib.hid (QP.out.k kk)
      replace QV := Lib.hid (QV.out.ext kk (fun _ _ h => h))
      replace QM := Lib.hid (QM.out.ext kk (fun _ _ h => h))
      replace QK := Lib.hid (QK.out.k kk)
      clear kk Q2
      refine hK0.out _ _ ⟨pc.out.cq x0 (fun h => h), pc.out.cq x1 (fun h => h), pc.out.cq gm (fun h => h), pc.out.cq b0 (fun h => h), pc.out.cq b1 (fun h => h)⟩ (fun hHeld => ?_)
      clear hK0
      try go_frame
      refine wT 10 hHeld ?_
      try go_frame
      refine wpAnyH_done (by kernel_rfl) ?_ _
      have KN := Lib.hid (KN0.out.trans pc.out)
      have KE := Lib.hid (KX.out.trans pc.out)
      clear pc x0 x1 b0 b1 gm QP QV QM QK hHeld KN0 KX
      by_cases hz0 : 0 ≤ z
      case neg =>
        have V : Hid (oneT T = -1) := oneT_neg (i := j) (by rw [TL.out]; exact HJ.out) (.inr (by rw [hTj.out]; omega))
        go_wp2_with fail
        exact fin_ hQ ⟨-1, false, rfl, by rw [V.out]; rfl, (fun h => by cases h), KE.out⟩
      rcases Nat.eq_zero_or_pos j with hj0 | hj0
      · subst hj0
        go_wp2_with fail
        go_roundw
        case rel => exact ⟨1, z, by omega, by go_num, rfl, fun _ => ⟨hz0, fun l hl => by
          have hl0 : l = 0 := by omega
          rw [hl0]; exact hTj.out⟩, KN⟩
        case measure => simp [intOf]; omega
      · by_cases hzr : z = r
        · have hzr' : (z != r) = false := by simpa using hzr
          have HZR := Lib.hid hzr
          clear hzr
          go_wp2_with fail
          go_roundw
          case rel => exact ⟨j + 1, z, by omega, by go_num, rfl, fun _ => ⟨hz0, fun l hl => by
            rcases Nat.lt_succ_iff_lt_or_eq.1 hl with h | h
            · rw [HZR.out]; exact (hI.out hj0).2 l h
            · rw [h]; exact hTj.out⟩, KN⟩
          case measure => simp [intOf]; omega
        · have hzr' : (z != r) = true := by simpa using hzr
          have V : Hid (oneT T = -1) := oneT_neg (i := j) (by rw [TL.out]; exact HJ.out) (.inl (by rw [hTj.out, (hI.out hj0).2 0 hj0]; exact hzr))
          clear hzr
          go_wp2_with fail
          exact fin_ hQ ⟨-1, false, rfl, by rw [V.out]; rfl, (fun h => by cases h), KE.out⟩
    · have hj0 : 0 < j := by omega
      have V : Hid (oneT T = r) := oneT_same (by rw [TL.out]; have := HL.out; omega) (by have := (hI.out hj0).1; omega) (fun i hi => (hI.out hj0).2 i (by rw [TL.out] at hi; have := HL.out; omega))
      have V0 := Lib.hid (hI.out hj0).1
      go_wp2_with fail
      exact fin_ hQ ⟨r, true, rfl, by rw [V.out]; exact (decide_eq_true V0.out).symm, fun _ => V.out.symm, K0.trans hK.out⟩
end Go.Proofs.YtkapldpmjkdmcaaGreat
/- The program's types of steps. -/
namespace Go.Proofs.YtkapldpmjkdmcaaGreat
open Go.RowKit

theorem run_idx0 (a : Act) (o : Oper) (t : Nat) (x : Addr) (n c : Nat) (w : World) (ho : o.op = .indexAddr 52 (.tmp t) (.const (.int .i64 0))) (hs : a.tmps[t]?.getD undef = .slice (some x) n c) (hn : 0 < n) : (execOp a.eval o).run Tryz.prog w = .ok (.value (.pointer (some x))) w := by
  have h2 : (0 : Int) < (n : Int) := by omega
  simp [execOp, ho, hs, go_sem, hn]
theorem stp_ifA {ds : List DeclL} {sg : List SigL} {sc : List Int} {op num into : Int} {args : List Int} {ks : List BlockL} (h : op = 7) (h1 : argsIn sc args = true) (h2 : intoOk sc op into = true) :
    stpT ds sg sc (.mk op num into args ks) = if num = 0 ∧ tysOf sc args = [0] ∧ ks.length = 2 then oneT (armT ds sg sc ks [[], []]) else -1 := by
  subst h; exact stp_if _ _ _ _ _ _ _ h1 h2
theorem stp_matchA {ds : List DeclL} {sg : List SigL} {sc : List Int} {op num into : Int} {args : List Int} {ks : List BlockL} (h : op = 8) (h1 : argsIn sc args = true) (h2 : intoOk sc op into = true) :
    stpT ds sg sc (.mk op num into args ks) = if 0 < (armsL ds num).length ∧ ks.length = (armsL ds num).length ∧ tysOf sc args = [num] then oneT (armT ds sg sc ks (armsL ds num)) else -1 := by
  subst h; exact stp_match _ _ _ _ _ _ _ h1 h2
theorem ints_one {xs : List Int} {x : Int} (h : xs.length = 1) (h0 : iAt xs 0 = x) : xs = [x] := by
  match xs, h with
  | [y], _ => have : y = x := h0; rw [this]
theorem stp_cnt {ds : List DeclL} {sg : List SigL} {sc : List Int} {op num into : Int} {args : List Int} {ks : List BlockL} (hc : 14 ≤ op ∧ op ≤ 17) (h1 : argsIn sc args = true) (h2 : intoOk sc op into = true) :
    stpT ds sg sc (.mk op num into args ks) = if ks.length = 0 ∧ num = 0 ∧ (tysOf sc args).length = 1 ∧ iAt (tysOf sc args) 0 ≠ 0 ∧ (op = 14 ∨ op = 15 ∨ isArr ds (iAt (tysOf sc args) 0) = false) then 0 else -1 := by
  by_cases hk : ks.length = 0
  · rw [stp_leaf _ _ _ _ _ _ _ _ h1 h2 (by omega) (by omega) hk, leafL, if_pos hc, cntL]
    by_cases h : num = 0 ∧ (tysOf sc args).length = 1 ∧ iAt (tysOf sc args) 0 ≠ 0 ∧ (op = 14 ∨ op = 15 ∨ isArr ds (iAt (tysOf sc args) 0) = false)
    · rw [if_pos h, if_pos ⟨hk, h⟩]
    · rw [if_neg h, if_neg (fun h3 => h h3.2)]
  · rw [stp_kids _ _ _ _ _ _ _ _ (by omega) (by omega) (by omega), if_neg (fun h => hk h.1)]

section
variable {ds : List DeclL} {sg : List SigL} {sc : List Int} {s : StepL} {w w' : World} {t : Int} {ok : Bool}
theorem stR_neg (h : stpT ds sg sc s = -1) (k : Keep w w') : StR ds sg sc s w (.returned (.tuple #[.int .i64 t, .bool false])) w' := ⟨t, false, rfl, by rw [h]; rfl, (fun h => by cases h), k⟩
theorem stR_cnt (h : stpT ds sg sc s = 0) (hop : 14 ≤ s.op ∧ s.op ≤ 17) (k : Keep w w') : StR ds sg sc s w (.returned (.tuple #[.int .i64 t, .bool true])) w' := ⟨t, true, rfl, by rw [h]; rfl, fun _ h2 => absurd hop h2, k⟩
theorem stR_any (h1 : ok = decide (0 ≤ stpT ds sg sc s)) (h2 : ok = true → t = stpT ds sg sc s) (k : Keep w w') : StR ds sg sc s w (.returned (.tuple #[.int .i64 t, .bool ok])) w' := ⟨t, ok, rfl, h1, fun h _ => h2 h, k⟩
end
theorem at_put3 {w : World} {s : Nat} {v0 v1 v2 v : Value} {p : Addr} (h : w.cell? p = some v) (hp : p.block ≠ s) : (((w.setCell ⟨s, 0, none⟩ v0).setCell ⟨s, 1, none⟩ v1).setCell ⟨s, 2, none⟩ v2).cell? p = some v :=
  (Ext.setCell (S := fun q => q = s) (Ext.setCell (S := fun q => q = s) (Ext.setCell (S := fun q => q = s) (Ext.refl _ w) (p := ⟨s, 0, none⟩) (.inr rfl) v0) (p := ⟨s, 1, none⟩) (.inr rfl) v1) (p := ⟨s, 2, none⟩) (.inr rfl) v2).cq h hp
theorem leafL_simple {ds : List DeclL} {sg : List SigL} {op num : Int} (h1 : ¬ (14 ≤ op ∧ op ≤ 17)) (h2 : ¬ (op = 10 ∧ 0 ≤ num ∧ num < (sg.length : Int) ∧ 0 < (sgAt sg num.toNat).lent.length)) (tys : List Int) : leafL ds sg op num tys = simpleL ds sg op num tys := by
  rw [leafL, if_neg h1]
  split
  · next h =>
    obtain ⟨rfl, h3⟩ := h
    by_cases h4 : 0 ≤ num ∧ num < (sg.length : Int)
    · exact absurd ⟨rfl, h4.1, h4.2, h3⟩ h2
    · have e : simpleL ds sg 10 num tys = -1 := by
        unfold simpleL
        rw [if_neg (by omega), if_neg (by omega), if_neg (by omega), if_neg (by omega), if_neg (by omega), if_neg (by omega), if_pos rfl, if_neg (fun h => h4 ⟨h.1, h.2.1⟩)]
      exact e.symm
  · rfl

end Go.Proofs.YtkapldpmjkdmcaaGreat
