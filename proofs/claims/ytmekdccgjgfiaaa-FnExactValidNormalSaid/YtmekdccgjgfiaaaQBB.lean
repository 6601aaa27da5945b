/- The program's types of expressions: other operations. -/
import Derived.Test.YtmekdccgjgfiaaaQAY
import Derived.Test.YtmekdccgjgfiaaaQBA
import Derived.Test.YtmekdccgjgfiaaaQAZ
import Derived.Test.YtmekdccgjgfiaaaQAL
import Derived.Test.YtmekdccgjgfiaaaQAK
import Derived.Test.YtmekdccgjgfiaaaQAU
import Derived.Deep.DeepCutAuto
import Derived.Test.YtmekdccgjgfiaaaQAJ
import Derived.Test.YtmekdccgjgfiaaaQAF
import Derived.Test.YtmekdccgjgfiaaaShelf
import Derived.Test.YtmekdccgjgfiaaaQAG
namespace Go.Proofs.Ytmekdccgjgfiaaa
open Go.RowKit

theorem simple_neg {ds : List DeclL} {sg : List SigL} (hok : sigsOk ds sg = true) {op num : Int} {tys : List Int} {i : Nat} (hi : i < tys.length) (h : iAt tys i < 0) : simpleL ds sg op num tys = -1 := by
  obtain ⟨ht, _, _, hs⟩ := sigsOk_parts hok
  have key : ∀ xs : List Int, (∀ k, k < xs.length → 0 ≤ iAt xs k) → tys ≠ xs := fun xs hx e => by
    subst e
    have := hx i hi
    omega
  have k2 : ∀ k : Nat, k < 2 → 0 ≤ iAt [0, 0] k := fun k hk => by
    rcases (show k = 0 ∨ k = 1 by omega) with rfl | rfl <;> simp [iAt]
  have k1 : ∀ k : Nat, k < 1 → 0 ≤ iAt [0] k := fun k hk => by
    obtain rfl : k = 0 := by omega
    simp [iAt]
  unfold simpleL
  split
  · exact if_neg (fun h => key [] (fun k hk => absurd hk (by simp)) h.1)
  split
  · exact if_neg (fun h => key [0, 0] k2 h.2)
  split
  · exact if_neg (fun h => key [0] k1 h.2)
  split
  · refine if_neg (fun h' => ?_)
    obtain ⟨_, h2, h3, h4⟩ := h'
    obtain ⟨g1, g2, g3⟩ := isArr_parts h3
    rcases (show i = 0 ∨ i = 1 by omega) with rfl | rfl
    · omega
    · have := isT_iff.1 (declOk_arrow (typesOk_decl ht (k := (iAt tys 0).toNat - 1) (by omega)) g3).1
      omega
  split
  · exact if_neg (fun h' => key _ (fun k hk => (allT_at (conFieldsL_ok ht num).2 hk).1) h'.2)
  split
  · refine if_neg (fun h' => key _ (fun k hk => ?_) h'.2.2)
    exact (allT_at (sigOk_parts (hs _ (by omega))).2.1 hk).1
  split
  · refine if_neg (fun h' => key _ (fun k hk => ?_) h'.2.2.2)
    have hk2 : k < (sgAt sg num.toNat).params.length := by rw [List.length_take] at hk; omega
    have h5 := (allT_at (sigOk_parts (hs num.toNat (by omega))).2.1 hk2).1
    rw [List.length_take] at hk
    have e : iAt ((sgAt sg num.toNat).params.take ((sgAt sg num.toNat).params.length - 1)) k = iAt (sgAt sg num.toNat).params k := by simp [iAt, List.getD, show k < (sgAt sg num.toNat).params.length - 1 by omega, List.getElem?_eq_getElem hk2]
    rw [e]; exact h5
  · rfl

section
variable (ds : List DeclL) (sg : List SigL) (hok : sigsOk ds sg = true)
include hok

theorem implSimple (op num : Int) (hnum : fitN op num) (tys : List Int) (D : Nat → Prop) (a0 : Option Addr) (n0 c0 : Nat) (a1 : Option Addr) (n1 c1 : Nat) (a : Option Addr) (n c : Nat) (E : Nat → Prop) (w : World) (hp : SR w D ds sg a0 n0 c0 a1 n1 c1) (h : IntsL w E a n tys) (hn : n ≤ 1049576) :
    Calls Try.prog 77 #[.agg #[.slice a0 n0 c0, .slice a1 n1 c1], .int .i64 op, .int .i64 num, .slice a n c] w (SimR ds sg op num tys w) := by
  by_cases hr : op < 0 ∨ 13 < op ∨ op = 7 ∨ op = 8 ∨ op = 12 ∨ op = 13
  · exact implSim_other ds sg hok op hr num tys D a0 n0 c0 a1 n1 c1 a n c E w hp h hn
  · rcases (show op = 0 ∨ op = 1 ∨ op = 2 ∨ op = 3 ∨ op = 4 ∨ op = 5 ∨ op = 6 ∨ op = 9 ∨ op = 10 ∨ op = 11 by omega) with rfl | rfl | rfl | rfl | rfl | rfl | rfl | rfl | rfl | rfl
    · exact implSim_0 ds sg hok num tys D a0 n0 c0 a1 n1 c1 a n c E w hp h hn
    · exact implSim_1 ds sg hok num tys D a0 n0 c0 a1 n1 c1 a n c E w hp h hn
    · exact implSim_2 ds sg hok num tys D a0 n0 c0 a1 n1 c1 a n c E w hp h hn
    · exact implSim_3 ds sg hok num tys D a0 n0 c0 a1 n1 c1 a n c E w hp h hn
    · exact implSim_4 ds sg hok num tys D a0 n0 c0 a1 n1 c1 a n c E w hp h hn
    · exact implSim_5 ds sg hok num tys D a0 n0 c0 a1 n1 c1 a n c E w hp h hn
    · exact implSim_6 ds sg hok num tys D a0 n0 c0 a1 n1 c1 a n c E w hp h hn hnum.1 hnum.2
    · exact implSim_9 ds sg hok num tys D a0 n0 c0 a1 n1 c1 a n c E w hp h hn
    · exact implSim_10 ds sg hok num tys D a0 n0 c0 a1 n1 c1 a n c E w hp h hn
    · exact implSim_11 ds sg hok num tys D a0 n0 c0 a1 n1 c1 a n c E w hp h hn

end
end Go.Proofs.Ytmekdccgjgfiaaa
/- The program's types of expressions: all operations; the signatures of a program. -/
namespace Go.Proofs.Ytmekdccgjgfiaaa
open Go.RowKit

section
variable (ds : List DeclL) (sg : List SigL) (hok : sigsOk ds sg = true)
include hok
end
end Go.Proofs.Ytmekdccgjgfiaaa
/- The signatures of a normal form, by the program; counting steps. -/
namespace Go.Proofs.Ytmekdccgjgfiaaa
open Go.RowKit

theorem implIsCounting (op : Int) (w : World) : Calls Try.prog 54 #[.int .i64 op] w fun e w' => e = .returned (.bool (decide (14 ≤ op ∧ op ≤ 17))) ∧ w = w' := by
  refine calls_k fun Q hQ => ?_
  go_enter Try.func54, Try.ntmps54
  by_cases h1 : 14 ≤ op
  · by_cases h2 : op ≤ 17
    · go_wp2
      exact fin_ hQ ⟨ret_b (by simp [h1, h2]), rfl⟩
    · go_wp2
      exact fin_ hQ ⟨ret_b (by simp [h1, h2]), rfl⟩
  · go_wp2
    exact fin_ hQ ⟨ret_b (by simp; omega), rfl⟩

/-- What normalSigs tells: the signatures, if they are valid. -/
def NsP (ds : List DeclL) (rs : List RoutL) (w : World) (e : Ending) (w' : World) : Prop := ∃ (b0 : Option Addr) (m0 d0 : Nat) (b1 : Option Addr) (m1 d1 : Nat) (ok : Bool), e = .returned (.tuple #[.agg #[.slice b0 m0 d0, .slice b1 m1 d1], .bool ok]) ∧ ok = sigsOk ds (rs.map sigR) ∧ (ok = true → SR w' (fun _ => True) ds (rs.map sigR) b0 m0 d0 b1 m1 d1) ∧ Keep w w'

set_option maxRecDepth 100000 in
set_option maxHeartbeats 1000000 in
theorem implNormalSigs (ds : List DeclL) (rs : List RoutL) (a0 : Option Addr) (n0 c0 : Nat) (a1 : Option Addr) (n1 c1 : Nat) (D0 D1 : Nat → Prop) (w : World) (r0 : Rd w D0 (encDecls ds) (.slice a0 n0 c0)) (r1 : Rd w D1 (encRouts rs) (.slice a1 n1 c1)) :
    Calls Try.prog 27 #[.agg #[.slice a0 n0 c0, .slice a1 n1 c1]] w (NsP ds rs w) := by
  refine calls_k fun Q hQ => ?_
  obtain ⟨e1, hnc, hm, hat⟩ := routs_at r1
  have R0 := Lib.hid r0.lt
  have HL := Lib.hid e1
  have HA := Lib.hid hat
  have hx : w.heap.size ≠ w.heap.size + 1 := by omega
  have hy : w.heap.size + 1 + 1 ≠ w.heap.size + 1 := by omega
  by_cases hn4 : n1 ≤ 4
  case neg =>
    have HS : Hid (sigsOk ds (rs.map sigR) = false) := by
      show _ = _
      cases h : sigsOk ds (rs.map sigR)
      · rfl
      · have := (sigsOk_parts h).2.2.1; simp at this; omega
    have hgt : (4 : Int) < (n1 : Int) := by omega
    have KB := Lib.hid ((Keep.al w (.cells #[.slice a0 n0 c0, .slice a1 n1 c1] 36)).trans (Keep.al _ (.cells #[.slice none 0 0, .slice none 0 0] 59)))
    have RZ := rowOf (w.alloc (.cells #[.slice a0 n0 c0, .slice a1 n1 c1] 36)) #[.slice none 0 0, .slice none 0 0] 59
    simp only [World.size_alloc] at RZ
    clear e1 hat r0 r1
    go_enter Try.func27, Try.ntmps27
    go_upto_region 2 with fail
    generalize hW : ((w.alloc (.cells #[.slice a0 n0 c0, .slice a1 n1 c1] 36)).alloc (.cells #[.slice none 0 0, .slice none 0 0] 59)) = W at *
    clear hW
    have c0 := RZ.cell (i := 0) (by simp)
    have c1 := RZ.cell (i := 1) (by simp)
    simp at c0 c1
    have f0 : W.frozen? ⟨w.heap.size + 1, 0, none⟩ = false := RZ.frozen 0
    have f1 : W.frozen? ⟨w.heap.size + 1, 1, none⟩ = false := RZ.frozen 1
    have RY := Lib.hid ((RZ.set 0 (.slice none 0 0)).set 1 (.slice none 0 0))
    have z0 := RY.out.cell (i := 0) (by simp)
    have z1 := RY.out.cell (i := 1) (by simp)
    simp at z0 z1
    have sx := Lib.hid (Ext.setCell (S := fun q => q = w.heap.size + 1) (Ext.setCell (S := fun q => q = w.heap.size + 1) (Ext.refl _ W) (p := ⟨w.heap.size + 1, 0, none⟩) (.inr rfl) (.slice none 0 0)) (p := ⟨w.heap.size + 1, 1, none⟩) (.inr rfl) (.slice none 0 0))
    clear RZ RY
    go_wp2_with fail
    refine bodyPost_ret (v := .tuple #[.agg #[.slice none 0 0, .slice none 0 0], .bool false]) (by simp [results, Try.results27, go_sem, z0, z1]) rfl (fin_ hQ ⟨none, 0, 0, none, 0, 0, false, rfl, HS.out.symm, (fun h => by cases h), KB.out.then_ sx.out (fun q hq h => by omega)⟩)
  have hn4' : ¬ (4 : Int) < (n1 : Int) := by omega
  have HLM : Hid ((rs.map sigR).length = n1) := by show _ = _; simp [e1]
  have ER : Hid (∀ j, j < n1 → (rs.map sigR).take (j + 1) = (rs.map sigR).take j ++ [sigR (rtAt rs j)]) := fun j hj => by
    have hj' : j < (rs.map sigR).length := by have := HLM.out; omega
    rw [List.take_succ_eq_append_getElem hj', ← sgAt_get hj', sgAt_sigR _ (by simpa using hj')]
  clear e1 hat r0 r1
  go_enter Try.func27, Try.ntmps27
  have K0 := (((Keep.al w (.cells #[.slice a0 n0 c0, .slice a1 n1 c1] 36)).trans (Keep.al _ (.cells #[.slice none 0 0, .slice none 0 0] 59))).trans (Keep.al _ (.cells #[.slice a0 n0 c0, .slice none 0 0] 59)))
  have RX := ((rowOf w #[.slice a0 n0 c0, .slice a1 n1 c1] 36).alloc (.cells #[.slice none 0 0, .slice none 0 0] 59)).alloc (.cells #[.slice a0 n0 c0, .slice none 0 0] 59)
  have RB := rowOf ((w.alloc (.cells #[.slice a0 n0 c0, .slice a1 n1 c1] 36)).alloc (.cells #[.slice none 0 0, .slice none 0 0] 59)) #[.slice a0 n0 c0, .slice none 0 0] 59
  have RR := (rowOf (w.alloc (.cells #[.slice a0 n0 c0, .slice a1 n1 c1] 36)) #[.slice none 0 0, .slice none 0 0] 59).alloc (.cells #[.slice a0 n0 c0, .slice none 0 0] 59)
  simp only [World.size_alloc] at RB RR RX
  have HRB := Lib.hid RB
  have HRR := Lib.hid RR
  have HRX := Lib.hid RX
  have HK0 := Lib.hid K0
  have HW3 : Hid ((((w.alloc (.cells #[.slice a0 n0 c0, .slice a1 n1 c1] 36)).alloc (.cells #[.slice none 0 0, .slice none 0 0] 59)).alloc (.cells #[.slice a0 n0 c0, .slice none 0 0] 59)).heap.size = w.heap.size + 3) := by show _ = _; simp
  clear RB RR RX K0
  go_wp2_with fail
  go_loopw [18] (fun iv wr => ∃ (j : Nat) (sv : Value), j ≤ n1 ∧ iv = .int .i64 j ∧ Hid (AccR wr (w.heap.size + 3) (fun k => k < w.heap.size ∨ w.heap.size + 3 ≤ k) 98 3 sv (((rs.map sigR).take j).map rowG)) ∧ Hid (wr.rowIs (w.heap.size + 2) 59 2 (fun i => (#[.slice a0 n0 c0, sv] : Array Value).getD i undef)) ∧ Hid (Ext (fun q => q = w.heap.size + 2) (((w.alloc (.cells #[.slice a0 n0 c0, .slice a1 n1 c1] 36)).alloc (.cells #[.slice none 0 0, .slice none 0 0] 59)).alloc (.cells #[.slice a0 n0 c0, .slice none 0 0] 59)) wr)) (fun iv _ => n1 - (intOf iv).toNat)
  case atStart => exact ⟨0, .slice none 0 0, Nat.zero_le _, rfl, (show AccR _ _ _ _ _ _ _ from by simpa using AccR.nil _ _ _ _ _), HRB.out, Ext.refl _ _⟩
  case round =>
    obtain ⟨j, sv, hj, rfl, hB, hR, hK⟩ := hrel
    have hs : w.heap.size + 3 ≤ wr.heap.size := by have := hK.out.size; have := HW3.out; omega
    have HSZ := Lib.hid hs
    have KW := Lib.hid (HK0.out.then_ hK.out (fun q hq h => by omega))
    by_cases hlt : j < n1
    · obtain ⟨b, o, rfl, hd, p0, q0, r0, p1, q1, r1, p3, q3, r3, d0, d1, d2, d3, d4, s0, s1, s3⟩ := HA.out j hlt
      have g0 := KW.out.cq d0 (fun h => h)
      have g1 := KW.out.cq d1 (fun h => h)
      have g2 := KW.out.cq d2 (fun h => h)
      have g3 := KW.out.cq d3 (fun h => h)
      have g4 := KW.out.cq d4 (fun h => h)
      have ka := Keep.al wr (.cells #[.slice p0 q0 r0, .slice p1 q1 r1, .int .i64 (rtAt rs j).result, .slice p3 q3 r3, .int .i64 (rtAt rs j).body.result] 67)
      have bnd := hB.out.bound
      have t0 := ((s0.lt.k KW.out).k ka).mono (D' := fun k => (fun k => k < w.heap.size ∨ w.heap.size + 3 ≤ k) k ∧ sv.ownBlock ≠ some k) (fun k hk => ⟨.inl (by omega), fun e => by have := bnd k e; omega⟩)
      have t1 := ((s1.lt.k KW.out).k ka).mono (D' := fun k => (fun k => k < w.heap.size ∨ w.heap.size + 3 ≤ k) k ∧ sv.ownBlock ≠ some k) (fun k hk => ⟨.inl (by omega), fun e => by have := bnd k e; omega⟩)
      have kl := Keep.al (wr.alloc (.cells #[.slice p0 q0 r0, .slice p1 q1 r1, .int .i64 (rtAt rs j).result, .slice p3 q3 r3, .int .i64 (rtAt rs j).body.result] 67)) (.cells #[.slice p0 q0 r0, .slice p1 q1 r1, .int .i64 (rtAt rs j).result] 98)
      have hX := lit_sig (wr.alloc (.cells #[.slice p0 q0 r0, .slice p1 q1 r1, .int .i64 (rtAt rs j).result, .slice p3 q3 r3, .int .i64 (rtAt rs j).body.result] 67)) (fun k => (fun k => k < w.heap.size ∨ w.heap.size + 3 ≤ k) k ∧ sv.ownBlock ≠ some k) 98 (sigR (rtAt rs j)) p0 q0 r0 p1 q1 r1 ⟨.inr (by simp; omega), fun e => by have := bnd _ e; simp at this; omega⟩ t0 t1
      simp only [World.size_alloc, sigR] at hX
      have hO2 := (hB.out.keep ka).keep kl
      have hlr : (((rs.map sigR).take j).map rowG).length = j := by
        rw [List.length_map, List.length_take, HLM.out]; omega
      have HLR := Lib.hid hlr
      have hBB := Lib.hid (hK.out.trans (Keep.to (ka.trans kl)))
      have hR1 := hR.out.alloc (.cells #[.slice p0 q0 r0, .slice p1 q1 r1, .int .i64 (rtAt rs j).result, .slice p3 q3 r3, .int .i64 (rtAt rs j).body.result] 67)
      have hR2 := hR1.alloc (.cells #[.slice p0 q0 r0, .slice p1 q1 r1, .int .i64 (rtAt rs j).result] 98)
      have HR2 := Lib.hid hR2
      have y1 : wr.cell? ⟨w.heap.size + 1 + 1, 1, none⟩ = some sv := hR.out.cell (i := 1) (by omega)
      have y1a : (wr.alloc (.cells #[.slice p0 q0 r0, .slice p1 q1 r1, .int .i64 (rtAt rs j).result, .slice p3 q3 r3, .int .i64 (rtAt rs j).body.result] 67)).cell? ⟨w.heap.size + 1 + 1, 1, none⟩ = some sv := hR1.cell (i := 1) (by omega)
      have y1b : ((wr.alloc (.cells #[.slice p0 q0 r0, .slice p1 q1 r1, .int .i64 (rtAt rs j).result, .slice p3 q3 r3, .int .i64 (rtAt rs j).body.result] 67)).alloc (.cells #[.slice p0 q0 r0, .slice p1 q1 r1, .int .i64 (rtAt rs j).result] 98)).cell? ⟨w.heap.size + 1 + 1, 1, none⟩ = some sv := hR2.cell (i := 1) (by omega)
      clear d0 d1 d2 d3 d4 s0 s1 s3 bnd t0 t1 hlr ka kl hB hR1 hR2
      go_wp2_with (at_builtin; go_must (refine wpList_appR _ rfl (.tmp 23) (.tmp 31) 57 rfl (w.heap.size + 3) 98 (.agg #[.slice none 0 0, .slice none 0 0, .int .i64 0]) 3 56 Try.underlying57 (by kernel_rfl) rfl (by omega) (fun k => k < w.heap.size ∨ w.heap.size + 3 ≤ k) _ _ rfl hO2 _ 1 1 _ _ rfl hX (fun k _ hk => hk) (by rw [HLR.out]; omega) (by rw [HLR.out]; omega) (by simp; omega) ?_); intro v1 w10 hA2 xA sA; obtain ⟨av, nv, cv, rfl⟩ : ∃ av nv cv, v1 = .slice av nv cv := (by obtain ⟨a9, c9, e9, _⟩ := hA2.read (by omega); exact ⟨_, _, _, e9⟩); have hr10 := Lib.hid (row_ext HR2.out xA (fun (h : w.heap.size + 3 ≤ _) => by omega)); have fz : w10.frozen? ⟨w.heap.size + 1 + 1, 1, none⟩ = false := hr10.out.frozen 1; have cz : w10.cell? ⟨w.heap.size + 1 + 1, 1, none⟩ = some sv := hr10.out.cell (i := 1) (by omega); have HA2 := Lib.hid hA2; have HX10 := Lib.hid (hBB.out.then_ xA (fun q hq h => by have := HW3.out; omega)); clear hA2 xA sA)
      have hs2 : Ext (fun q => q = w.heap.size + 2) w10 (w10.setCell ⟨w.heap.size + 1 + 1, 1, none⟩ (.slice av nv cv)) := Ext.setCell (S := fun q => q = w.heap.size + 2) (Ext.refl _ w10) (p := ⟨w.heap.size + 1 + 1, 1, none⟩) (.inr rfl) _
      go_roundw
      case rel => exact ⟨j + 1, .slice av nv cv, by omega, by go_num, by
        show AccR _ _ _ _ _ _ _
        rw [ER.out j hlt, List.map_append]; exact HA2.out.ext hs2 (fun k _ hk => by rcases hk with (hk | hk) | hk <;> omega), by
        refine (hr10.out.set 1 (.slice av nv cv)).congr (fun i hi => ?_)
        rcases (show i = 0 ∨ i = 1 by omega) with rfl | rfl <;> rfl, HX10.out.trans hs2⟩
      case measure => simp [intOf]; omega
    · have HJ : Hid (j = n1) := by show _ = _; omega
      have hB2 := hB.out
      rw [List.take_of_length_le (by have := HLM.out; have := HJ.out; omega)] at hB2
      obtain ⟨a', c', e, _, _, rd⟩ := hB2.read (by omega)
      rw [List.length_map, HLM.out] at e
      subst e
      obtain ⟨ok, hok⟩ : ∃ ok, sigsOk ds (rs.map sigR) = ok := ⟨_, rfl⟩
      have HS := Lib.hid hok
      have KD : Keep wr wr.drew := (Ext.refl (fun _ => False) wr).drew
      have QS : Hid (Rd wr.drew (fun k => k < w.heap.size ∨ w.heap.size + 3 ≤ k) (encSigs (rs.map sigR)) (.slice a' n1 c')) := (rd.k KD).mono (fun k hk => by rcases hk with hk | hk; exact hk; exact .inr hk)
      have QD : Hid (Rd wr.drew (fun k => k < w.heap.size) (encDecls ds) (.slice a0 n0 c0)) := ((R0.out.k KW.out).k KD).mono (fun k hk => hk.2)
      have RZ := Lib.hid (row_ext (row_ext HRR.out hK.out (fun h => by omega)) KD (fun h => h))
      have KW2 := Lib.hid (KW.out.trans KD)
      have x0 : wr.drew.cell? ⟨w.heap.size, 0, none⟩ = some (.slice a0 n0 c0) := by
        have h := (row_ext HRX.out hK.out (fun h => by omega)).cell (i := 0) (by simp)
        simp at h; exact h
      have m0 : wr.drew.cell? ⟨w.heap.size + 1 + 1, 0, none⟩ = some (.slice a0 n0 c0) := hR.out.cell (i := 0) (by omega)
      have m1 : wr.drew.cell? ⟨w.heap.size + 1 + 1, 1, none⟩ = some (.slice a' n1 c') := hR.out.cell (i := 1) (by omega)
      clear hB hB2 rd KD hok hR hK KW
      go_wp2_with fail
      refine wp_region_held_drew (S := fun w' => w'.cell? ⟨w.heap.size, 0, none⟩ = some (.slice a0 n0 c0) ∧ w'.cell? ⟨w.heap.size + 1 + 1, 0, none⟩ = some (.slice a0 n0 c0) ∧ w'.cell? ⟨w.heap.size + 1 + 1, 1, none⟩ = some (.slice a' n1 c')) (by kernel_rfl) ⟨x0, m0, m1⟩ (fun hHeld => ?_)
      have pc : Hid (Keep wr.drew wr.drew) := Ext.refl _ _
      refine wT 0 hHeld ?_
      try go_frame
      refine wT 1 hHeld ?_
      try go_frame
      refine wT 2 hHeld ?_
      try go_frame
      refine wT 3 hHeld ?_
      try go_frame
      refine wT 4 hHeld ?_
      try go_frame
      refine wO 5 (fun K0 hK0 => ?_)
      go_simp
      go_at_call 49
      refine (implValidSigs0 ds (rs.map sigR) _ _ _ _ _ _ _ _ _ QD.out QS.out).mono ?_
      rw [HS.out]
      rintro e y1 ⟨rfl, kk⟩
      replace pc := Lib.hid (pc.out.trans kk)
      replace QD := Lib.hid (QD.out.k kk)
      replace QS := Lib.hid (QS.out.k kk)
      replace RZ := Lib.hid (row_ext RZ.out kk (fun h => h))
      clear kk
      refine hK0.out _ _ ⟨pc.out.cq x0 (fun h => h), pc.out.cq m0 (fun h => h), pc.out.cq m1 (fun h => h)⟩ (fun hHeld => ?_)
      clear hK0
      try go_frame
      refine wO 6 (fun K0 hK0 => ?_)
      have c0 := RZ.out.cell (i := 0) (by simp)
      have c1 := RZ.out.cell (i := 1) (by simp)
      simp at c0 c1
      have f0 : y1.frozen? ⟨w.heap.size + 1, 0, none⟩ = false := RZ.out.frozen 0
      have f1 : y1.frozen? ⟨w.heap.size + 1, 1, none⟩ = false := RZ.out.frozen 1
      go_simp
      clear c0 c1 f0 f1
      refine hK0.out _ _ ⟨at_put2 (pc.out.cq x0 (fun h => h)) hx, at_put2 (pc.out.cq m0 (fun h => h)) hy, at_put2 (pc.out.cq m1 (fun h => h)) hy⟩ (fun hHeld => ?_)
      clear hK0
      try go_frame
      refine wT 7 hHeld ?_
      try go_frame
      refine wpAnyH_done (by kernel_rfl) ?_ _
      have RY := (RZ.out.set 0 (.slice a0 n0 c0)).set 1 (.slice a' n1 c')
      have z0 := RY.cell (i := 0) (by simp)
      have z1 := RY.cell (i := 1) (by simp)
      simp at z0 z1
      have sx : Ext (fun q => q = w.heap.size + 1) y1 ((y1.setCell ⟨w.heap.size + 1, 0, none⟩ (.slice a0 n0 c0)).setCell ⟨w.heap.size + 1, 1, none⟩ (.slice a' n1 c')) := Ext.setCell (S := fun q => q = w.heap.size + 1) (Ext.setCell (S := fun q => q = w.heap.size + 1) (Ext.refl _ y1) (p := ⟨w.heap.size + 1, 0, none⟩) (.inr rfl) _) (p := ⟨w.heap.size + 1, 1, none⟩) (.inr rfl) _
      have QD2 := Lib.hid (QD.out.ext sx (fun k hk h => by omega))
      have QS2 := Lib.hid (QS.out.ext sx (fun k hk h => by omega))
      have KE := Lib.hid ((KW2.out.trans pc.out).then_ sx (fun q hq h => by omega))
      clear RY sx pc QD QS RZ hHeld
      go_wp2_with fail
      refine bodyPost_ret (v := .tuple #[.agg #[.slice a0 n0 c0, .slice a' n1 c'], .bool ok]) (by simp [results, Try.results27, go_sem, z0, z1]) rfl (fin_ hQ ⟨a0, n0, c0, a', n1, c', ok, rfl, HS.out.symm, fun _ => ⟨QD2.out.mono (fun _ _ => trivial), QS2.out.mono (fun _ _ => trivial)⟩, KE.out⟩)
end Go.Proofs.Ytmekdccgjgfiaaa
/- The signatures of a program, by the program. -/
namespace Go.Proofs.Ytmekdccgjgfiaaa
open Go.RowKit

end Go.Proofs.Ytmekdccgjgfiaaa
/- TypeOf of both packages. -/
namespace Go.Proofs.Ytmekdccgjgfiaaa
open Go.RowKit

/-- What both functions TypeOf return. -/
def typeTop (ds : List DeclL) (fs : List FuncL) (vars : List Int) (e : ExprL) : Int :=
  if sigsOk ds (fs.map sigF) = true ∧ ¬ nodesL e.kids < 0 ∧ allT ds.length vars = true then tyE ds (fs.map sigF) vars e else -1

theorem cloneInts (a : Option Addr) (n c : Nat) (xs : List Int) (D : Nat → Prop) (w : World) (h : IntsL w D a n xs) (hn : n ≤ 1052000) :
    Calls Try.prog 52 #[.slice a n c] w fun e w' => ∃ v', e = .returned v' ∧ VR w' w.heap.size v' xs ∧ Keep w w' := by
  obtain ⟨h1, h2⟩ := h
  rcases Nat.eq_zero_or_pos n with h0 | h0
  · subst h0
    have hx : xs = [] := List.eq_nil_of_length_eq_zero h1
    subst hx
    rcases a with _ | a
    · refine (Try.slices_Clone_int_nil 0 c w).mono ?_
      rintro e w' ⟨rfl, rfl⟩
      exact ⟨_, rfl, World.ownsRow_nil _ _ _ _, Ext.refl _ _⟩
    · refine (Try.slices_Clone_int_zero a c w).mono ?_
      rintro e w' ⟨v', rfl, ho, _, hb⟩
      exact ⟨_, rfl, ho, Ext.of_below hb⟩
  · obtain ⟨b, o, rfl, _, hc⟩ := h2 h0
    refine (Try.slices_Clone_int b o n c xs w (by omega) (by omega) (fun j hj => hc j (by omega))).mono ?_
    rintro e w' ⟨v', rfl, ho, _, hb⟩
    rw [← h1, List.take_length] at ho
    exact ⟨_, rfl, ho, Ext.of_below hb⟩
/- BY gen_tyi12 -/

end Go.Proofs.Ytmekdccgjgfiaaa
/- What the program's types of blocks are about; the fields of the constructors of a type. -/
namespace Go.Proofs.Ytmekdccgjgfiaaa
open Go.RowKit

mutual
/-- Numbers of steps are integers; arguments are not too many. -/
def okS : StepL → Prop
  | .mk op num _ args ks => fitN op num ∧ args.length ≤ 1048576 ∧ okBs ks
def okSs : List StepL → Prop
  | [] => True
  | s :: ss => okS s ∧ okSs ss
def okB : BlockL → Prop
  | .mk ss _ => okSs ss
def okBs : List BlockL → Prop
  | [] => True
  | b :: bs => okB b ∧ okBs bs
end
theorem okSs_at {ss : List StepL} (h : okSs ss) {j : Nat} (hj : j < ss.length) : okS (sAt ss j) := by
  induction ss generalizing j with
  | nil => simp at hj
  | cons s ss ih =>
    rw [okSs] at h
    rcases j with _ | j
    · exact h.1
    · have := ih h.2 (j := j) (by simpa using hj)
      simpa [sAt] using this
theorem okBs_at {bs : List BlockL} (h : okBs bs) {j : Nat} (hj : j < bs.length) : okSs (bAt bs j).steps := by
  induction bs generalizing j with
  | nil => simp at hj
  | cons b bs ih =>
    rw [okBs] at h
    rcases j with _ | j
    · have h1 := h.1
      have e : bAt (b :: bs) 0 = b := by simp [bAt]
      rw [e]
      cases b
      rw [okB] at h1; exact h1
    · have := ih h.2 (j := j) (by simpa using hj)
      simpa [bAt] using this

/-- What blockType of the program does for one block. -/
def BlI (ds : List DeclL) (sg : List SigL) (res : Int) (ss : List StepL) : Prop := ∀ (a0 : Option Addr) (n0 c0 : Nat) (a1 : Option Addr) (n1 c1 : Nat) (av : Option Addr) (nv cv : Nat) (sc : List Int) (a : Option Addr) (n c : Nat) (w : World),
  SR w (fun _ => True) ds sg a0 n0 c0 a1 n1 c1 → IntsL w (fun _ => True) av nv sc → Rd w (fun _ => True) (encSteps ss) (.slice a n c) → sc.length + 4 * nSs ss ≤ 1052000 → allT ds.length sc = true →
  Calls Try.prog 30 #[.agg #[.slice a0 n0 c0, .slice a1 n1 c1], .slice av nv cv, .agg #[.slice a n c, .int .i64 res]] w fun r w' => r = .returned (.int .i64 (runT ds sg res sc ss)) ∧ Keep w w'
/-- What stepType of the program tells. -/
def StR (ds : List DeclL) (sg : List SigL) (sc : List Int) (s : StepL) (w : World) (r : Ending) (w' : World) : Prop :=
  ∃ (t : Int) (ok : Bool), r = .returned (.tuple #[.int .i64 t, .bool ok]) ∧ ok = decide (0 ≤ stpT ds sg sc s) ∧ (ok = true → ¬ (14 ≤ s.op ∧ s.op ≤ 17) → t = stpT ds sg sc s) ∧ Keep w w'
/-- What stepType of the program does for one step. -/
def StI (ds : List DeclL) (sg : List SigL) (s : StepL) : Prop := ∀ (a0 : Option Addr) (n0 c0 : Nat) (a1 : Option Addr) (n1 c1 : Nat) (av : Option Addr) (nv cv : Nat) (sc : List Int) (aa : Option Addr) (na ca : Nat) (ak : Option Addr) (nk ck : Nat) (w : World),
  SR w (fun _ => True) ds sg a0 n0 c0 a1 n1 c1 → IntsL w (fun _ => True) av nv sc → Rd w (fun _ => True) (encInts s.args) (.slice aa na ca) → Rd w (fun _ => True) (encBlocks s.kids) (.slice ak nk ck) → sc.length + 4 * nS s ≤ 1052000 → allT ds.length sc = true →
  Calls Try.prog 53 #[.agg #[.slice a0 n0 c0, .slice a1 n1 c1], .slice av nv cv, .agg #[.int .i64 s.op, .int .i64 s.num, .int .i64 s.into, .slice aa na ca, .slice ak nk ck]] w (StR ds sg sc s w)

theorem armsL_take {ds : List DeclL} {t : Int} {j : Nat} (h : j < (consL ds t).length) : (armsL ds t).take (j + 1) = (armsL ds t).take j ++ [conFieldsL ds (iAt (consL ds t) j)] := by
  have h2 : j < (armsL ds t).length := by rw [armsL_len]; exact h
  rw [List.take_succ_eq_append_getElem h2]
  congr 2
  simp only [armsL, List.getElem_map]
  rw [iAt_eq h]
/-- One row of integers, just written down. -/
theorem lit_con (w : World) (D : Nat → Prop) (T : TypeId) (xs : List Int) (a : Option Addr) (n c : Nat) (hB : D w.heap.size) (h : Rd w D (encInts xs) (.slice a n c)) :
    Rd (w.alloc (.cells #[.slice a n c] T)) D (encCons [xs]) (.slice (some ⟨w.heap.size, 0, none⟩) 1 1) := by
  refine Rd.litD w D T 1 _ ([xs].map rowC) 1 hB (by simp) (by omega) (by omega) (by simp) (fun i hi => ?_) (fun i j hi hj => ?_)
  · obtain rfl : i = 0 := by simp at hi; exact hi
    rfl
  · obtain rfl : i = 0 := by simp at hi; exact hi
    obtain rfl : j = 0 := by omega
    exact ⟨_, rfl, h⟩

set_option maxRecDepth 100000 in
set_option maxHeartbeats 1000000 in
theorem implArmFields (ds : List DeclL) (num : Int) (a0 : Option Addr) (n0 c0 : Nat) (a1 : Option Addr) (n1 c1 : Nat) (D : Nat → Prop) (w : World) (r0 : Rd w D (encDecls ds) (.slice a0 n0 c0)) (ht : typesOk ds = true) :
    Calls Try.prog 76 #[.agg #[.slice a0 n0 c0, .slice a1 n1 c1], .int .i64 num] w fun e w' => ∃ a m c, e = .returned (.slice a m c) ∧ m = (consL ds num).length ∧ Rd w' (fun _ => True) (encCons (armsL ds num)) (.slice a m c) ∧ Keep w w' := by
  refine calls_k fun Q hQ => ?_
  have hf := Few.of_ok ht
  have K0 := Keep.al w (.cells #[.slice a0 n0 c0, .slice a1 n1 c1] 59)
  have R0 := rowOf w #[.slice a0 n0 c0, .slice a1 n1 c1] 59
  have x0 := R0.cell (i := 0) (by simp)
  simp at x0
  have hnc0 : n0 ≤ c0 := (decls_at r0).2.1
  have QD : Hid (Rd (w.alloc (.cells #[.slice a0 n0 c0, .slice a1 n1 c1] 59)) (fun k => k < w.heap.size) (encDecls ds) (.slice a0 n0 c0)) := (r0.lt.mono (fun k hk => hk.2)).k K0
  have HF := Lib.hid hf
  have HT := Lib.hid ht
  have hcl := consL_len hf num
  clear r0 ht
  go_enter Try.func76, Try.ntmps76
  go_wp2_with fail
  refine (implConsOf0 _ _ _ ds _ _ _ (Rd.toDecls QD.out) hnc0 HF.out).mono ?_
  rintro e w1 ⟨ac, m, cc, rfl, hmc, oc, p1⟩
  have hml : m = (consL ds num).length := oc.1.symm
  have HM := Lib.hid hml
  have hm3 : m ≤ 3 := by omega
  have OC := Lib.hid oc.read
  have K1 := Lib.hid (K0.trans p1)
  have R1 := Lib.hid (row_ext R0 p1 (fun h => h))
  have hw1 : w.heap.size + 1 ≤ w1.heap.size := by have := p1.size; simpa using this
  replace QD := Lib.hid (QD.out.k p1)
  have HAL := Lib.hid (armsL_len ds num)
  clear oc hml p1 R0 K0 x0 hcl hf
  go_wp2_with fail
  go_loopw [5, 13] (fun sv iv wr => ∃ (j : Nat), j ≤ m ∧ iv = .int .i64 j ∧ Hid (AccR wr w1.heap.size (fun _ => True) 26 1 sv (((armsL ds num).take j).map rowC)) ∧ Hid (Keep w1 wr)) (fun _ iv _ => m - (intOf iv).toNat)
  case atStart => exact ⟨0, Nat.zero_le _, rfl, (show AccR _ _ _ _ _ _ _ from by simpa using AccR.nil _ _ _ _ _), Ext.refl _ _⟩
  case round =>
    obtain ⟨j, hj, rfl, hB, hK⟩ := hrel
    obtain ⟨wo, rfl⟩ : ∃ wo : World, wo = wr := ⟨_, rfl⟩
    by_cases hlt : j < m
    · obtain ⟨b, o, rfl, _, d0⟩ := (OC.out.ext hK.out (fun _ _ h => h)).at hlt
      have HJ : Hid (j < (consL ds num).length) := by show _ < _; rw [← HM.out]; exact hlt
      have hrg := consL_rg HF.out num HJ.out
      obtain ⟨x, hx⟩ : ∃ x, iAt (consL ds num) j = x := ⟨_, rfl⟩
      rw [hx] at d0 hrg
      have HX := Lib.hid hx
      have x0 := (row_ext R1.out hK.out (fun h => h)).cell (i := 0) (by simp)
      simp at x0
      have qd := Lib.hid (QD.out.k hK.out)
      have hos := hK.out.size
      clear hx
      go_wp2_with fail
      refine (implFieldsOf _ _ _ ds _ _ _ (Rd.toDecls qd.out) HF.out (by omega) (by omega)).mono ?_
      rintro e w2 ⟨af, fm, fc, rfl, hfc, hfi, p2⟩
      have bnd := hB.out.bound
      have hlr : (((armsL ds num).take j).map rowC).length ≤ 3 := by rw [List.length_map, List.length_take]; omega
      have hfl : fm ≤ 3 := by have h1 := hfi.1; have h2 := (conFieldsL_ok HT.out x).1; omega
      have hs2 := p2.size
      have hX := Lib.hid (lit_con w2 (fun k => True ∧ u5.ownBlock ≠ some k) 26 (conFieldsL ds x) af fm fc ⟨trivial, fun e => by have := bnd _ e; omega⟩ ((hfi.toRd hfc (by omega)).mono (fun k hk => ⟨trivial, fun e => by have := bnd _ e; rcases hk with h | h <;> omega⟩)))
      have KL := Keep.al w2 (.cells #[.slice af fm fc] 26)
      have hO2 := Lib.hid ((hB.out.keep p2).keep KL)
      have hKK := Lib.hid ((hK.out.trans p2).trans KL)
      have hzl : w1.heap.size ≤ (w2.alloc (.cells #[.slice af fm fc] 26)).heap.size := by have := hKK.out.size; exact this
      clear bnd p2 KL hfi hB x0 d0
      go_wp2_with (at_builtin; go_must (refine wpList_appR _ rfl (.tmp 17) (.tmp 22) 126 rfl w1.heap.size 26 (.slice none 0 0) 1 24 Try.underlying126 (by kernel_rfl) rfl (by omega) (fun _ => True) _ _ rfl hO2.out _ 1 1 _ _ rfl hX.out (fun k _ hk => hk) (by omega) (by omega) hzl ?_); intro v1 w10 hA2 xA sA; have HA2 := Lib.hid hA2; have HK2 := Lib.hid (hKK.out.then_ xA (fun q hq h => by omega)); clear hA2 xA sA)
      go_roundw
      case rel => exact ⟨j + 1, by omega, by go_num, by
        show AccR _ _ _ _ _ _ _
        rw [armsL_take HJ.out, List.map_append, HX.out]; exact HA2.out, HK2⟩
      case measure => simp [intOf]; omega
    · have HJ : Hid (j = m) := by show _ = _; omega
      have hB2 := hB.out
      rw [List.take_of_length_le (by rw [HAL.out, ← HM.out]; have := HJ.out; omega)] at hB2
      obtain ⟨a', c', e, _, _, rd⟩ := hB2.read (by omega)
      rw [List.length_map, HAL.out, ← HM.out] at e
      subst e
      have RD := Lib.hid rd.t
      have KE := Lib.hid (K1.out.trans hK.out)
      clear hB hB2 rd hK
      go_wp2_with fail
      exact fin_ hQ ⟨a', m, c', rfl, HM.out, RD.out, KE.out⟩
end Go.Proofs.Ytmekdccgjgfiaaa
