/- The signatures of a program, by the program. -/
import Derived.Test.YtbknmljfnjlieaaTyI10
import Derived.Test.YtbknmljfnjlieaaSigs3
import Derived.Test.YtbknmljfnjlieaaTyI5
namespace Go.Proofs.Ytbknmljfnjlieaa
open Go.RowKit

set_option maxRecDepth 100000 in
set_option maxHeartbeats 400000 in
theorem implSigsOf (fs : List FuncL) (a0 : Option Addr) (n0 c0 : Nat) (a1 : Option Addr) (n1 c1 : Nat) (D1 : Nat → Prop) (w : World) (r1 : Rd w D1 (encFuncs fs) (.slice a1 n1 c1)) (hn4 : n1 ≤ 4) :
    Calls Try.prog 54 #[.agg #[.slice a0 n0 c0, .slice a1 n1 c1]] w fun e w' => ∃ a' c', e = .returned (.agg #[.slice a0 n0 c0, .slice a' n1 c']) ∧ Rd w' (fun _ => True) (encSigs (fs.map sigF)) (.slice a' n1 c') ∧ Keep w w' := by
  refine calls_k fun Q hQ => ?_
  obtain ⟨e1, hnc, hm, hat⟩ := funcs_at r1
  have HL := Lib.hid e1
  have HA := Lib.hid hat
  have HLM : Hid ((fs.map sigF).length = n1) := by show _ = _; simp [e1]
  have ER : Hid (∀ j, j < n1 → (fs.map sigF).take (j + 1) = (fs.map sigF).take j ++ [sigF (fAt fs j)]) := fun j hj => by
    have hj' : j < (fs.map sigF).length := by have := HLM.out; omega
    rw [List.take_succ_eq_append_getElem hj', ← sgAt_get hj', sgAt_sigF _ (by simpa using hj')]
  clear e1 hat
  go_enter Try.func54, Try.ntmps54
  have K0 := (((Keep.al w (.cells #[.slice a0 n0 c0, .slice a1 n1 c1] 36)).trans (Keep.al _ (.cells #[.slice none 0 0, .slice none 0 0] 85))).trans (Keep.al _ (.cells #[.slice a0 n0 c0, .slice none 0 0] 85)))
  have RB := rowOf ((w.alloc (.cells #[.slice a0 n0 c0, .slice a1 n1 c1] 36)).alloc (.cells #[.slice none 0 0, .slice none 0 0] 85)) #[.slice a0 n0 c0, .slice none 0 0] 85
  have RR := (rowOf (w.alloc (.cells #[.slice a0 n0 c0, .slice a1 n1 c1] 36)) #[.slice none 0 0, .slice none 0 0] 85).alloc (.cells #[.slice a0 n0 c0, .slice none 0 0] 85)
  simp only [World.size_alloc] at RB RR
  have HRB := Lib.hid RB
  have HRR := Lib.hid RR
  have HK0 := Lib.hid K0
  have HW3 : Hid ((((w.alloc (.cells #[.slice a0 n0 c0, .slice a1 n1 c1] 36)).alloc (.cells #[.slice none 0 0, .slice none 0 0] 85)).alloc (.cells #[.slice a0 n0 c0, .slice none 0 0] 85)).heap.size = w.heap.size + 3) := by show _ = _; simp
  clear RB RR K0
  go_wp2_with fail
  go_loopw [12] (fun iv wr => ∃ (j : Nat) (sv : Value), j ≤ n1 ∧ iv = .int .i64 j ∧ Hid (AccR wr (w.heap.size + 3) (fun k => k < w.heap.size ∨ w.heap.size + 3 ≤ k) 132 3 sv (((fs.map sigF).take j).map rowG)) ∧ Hid (wr.rowIs (w.heap.size + 2) 85 2 (fun i => (#[.slice a0 n0 c0, sv] : Array Value).getD i undef)) ∧ Hid (Ext (fun q => q = w.heap.size + 2) (((w.alloc (.cells #[.slice a0 n0 c0, .slice a1 n1 c1] 36)).alloc (.cells #[.slice none 0 0, .slice none 0 0] 85)).alloc (.cells #[.slice a0 n0 c0, .slice none 0 0] 85)) wr)) (fun iv _ => n1 - (intOf iv).toNat)
  case atStart => exact ⟨0, .slice none 0 0, Nat.zero_le _, rfl, (show AccR _ _ _ _ _ _ _ from by simpa using AccR.nil _ _ _ _ _), HRB.out, Ext.refl _ _⟩
  case round =>
    obtain ⟨j, sv, hj, rfl, hB, hR, hK⟩ := hrel
    have hs : w.heap.size + 3 ≤ wr.heap.size := by have := hK.out.size; have := HW3.out; omega
    have HS := Lib.hid hs
    have KW := Lib.hid (HK0.out.then_ hK.out (fun q hq h => by omega))
    by_cases hlt : j < n1
    · obtain ⟨b, o, rfl, hd, a3, n3, c3, a4, n4, c4, d0, d1, d2, d3, d4, r3, r4⟩ := HA.out j hlt
      have g0 := (KW.out.cell (World.block_lt_of_cell? w _ d0) (fun h => h)).trans d0
      have g1 := (KW.out.cell (World.block_lt_of_cell? w _ d1) (fun h => h)).trans d1
      have g2 := (KW.out.cell (World.block_lt_of_cell? w _ d2) (fun h => h)).trans d2
      have g3 := (KW.out.cell (World.block_lt_of_cell? w _ d3) (fun h => h)).trans d3
      have g4 := (KW.out.cell (World.block_lt_of_cell? w _ d4) (fun h => h)).trans d4
      have ka := Keep.al wr (.cells #[.slice a3 n3 c3, .int .i64 (fAt fs j).result, .int .i64 (fAt fs j).body.op, .int .i64 (fAt fs j).body.num, .slice a4 n4 c4] 92)
      have bnd := hB.out.bound
      have q3 := ((r3.lt.k KW.out).k ka).mono (D' := fun k => (fun k => k < w.heap.size ∨ w.heap.size + 3 ≤ k) k ∧ sv.ownBlock ≠ some k) (fun k hk => ⟨.inl (by omega), fun e => by have := bnd k e; omega⟩)
      have kl := Keep.al (wr.alloc (.cells #[.slice a3 n3 c3, .int .i64 (fAt fs j).result, .int .i64 (fAt fs j).body.op, .int .i64 (fAt fs j).body.num, .slice a4 n4 c4] 92)) (.cells #[.slice a3 n3 c3, .slice none 0 0, .int .i64 (fAt fs j).result] 132)
      have hX := lit_sig (wr.alloc (.cells #[.slice a3 n3 c3, .int .i64 (fAt fs j).result, .int .i64 (fAt fs j).body.op, .int .i64 (fAt fs j).body.num, .slice a4 n4 c4] 92)) (fun k => (fun k => k < w.heap.size ∨ w.heap.size + 3 ≤ k) k ∧ sv.ownBlock ≠ some k) 132 (sigF (fAt fs j)) a3 n3 c3 none 0 0 ⟨.inr (by simp; omega), fun e => by have := bnd _ e; simp at this; omega⟩ q3 (.nil 1 none 0)
      simp only [World.size_alloc, sigF] at hX
      have hO2 := (hB.out.keep ka).keep kl
      have hlr : (((fs.map sigF).take j).map rowG).length = j := by
        rw [List.length_map, List.length_take, HLM.out]; omega
      have HLR := Lib.hid hlr
      have hBB := Lib.hid (hK.out.trans (Keep.to (ka.trans kl)))
      have hR1 := hR.out.alloc (.cells #[.slice a3 n3 c3, .int .i64 (fAt fs j).result, .int .i64 (fAt fs j).body.op, .int .i64 (fAt fs j).body.num, .slice a4 n4 c4] 92)
      have hR2 := hR1.alloc (.cells #[.slice a3 n3 c3, .slice none 0 0, .int .i64 (fAt fs j).result] 132)
      have HR2 := Lib.hid hR2
      have y1 : wr.cell? ⟨w.heap.size + 1 + 1, 1, none⟩ = some sv := hR.out.cell (i := 1) (by omega)
      have y1a : (wr.alloc (.cells #[.slice a3 n3 c3, .int .i64 (fAt fs j).result, .int .i64 (fAt fs j).body.op, .int .i64 (fAt fs j).body.num, .slice a4 n4 c4] 92)).cell? ⟨w.heap.size + 1 + 1, 1, none⟩ = some sv := hR1.cell (i := 1) (by omega)
      have y1b : ((wr.alloc (.cells #[.slice a3 n3 c3, .int .i64 (fAt fs j).result, .int .i64 (fAt fs j).body.op, .int .i64 (fAt fs j).body.num, .slice a4 n4 c4] 92)).alloc (.cells #[.slice a3 n3 c3, .slice none 0 0, .int .i64 (fAt fs j).result] 132)).cell? ⟨w.heap.size + 1 + 1, 1, none⟩ = some sv := hR2.cell (i := 1) (by omega)
      clear d0 d1 d2 d3 d4 r3 r4 bnd q3 hlr ka kl hB hR1 hR2
      go_wp2_with (at_builtin; go_must (refine wpList_appR _ rfl (.tmp 17) (.tmp 23) 83 rfl (w.heap.size + 3) 132 (.agg #[.slice none 0 0, .slice none 0 0, .int .i64 0]) 3 56 Try.underlying83 (by kernel_rfl) rfl (by omega) (fun k => k < w.heap.size ∨ w.heap.size + 3 ≤ k) _ _ rfl hO2 _ 1 1 _ _ rfl hX (fun k _ hk => hk) (by rw [HLR.out]; omega) (by rw [HLR.out]; omega) (by simp; omega) ?_); intro v1 w10 hA2 xA sA; obtain ⟨av, nv, cv, rfl⟩ : ∃ av nv cv, v1 = .slice av nv cv := (by obtain ⟨a9, c9, e9, _⟩ := hA2.read (by omega); exact ⟨_, _, _, e9⟩); have hr10 := Lib.hid (row_ext HR2.out xA (fun (h : w.heap.size + 3 ≤ _) => by omega)); have fz : w10.frozen? ⟨w.heap.size + 1 + 1, 1, none⟩ = false := hr10.out.frozen 1; have cz : w10.cell? ⟨w.heap.size + 1 + 1, 1, none⟩ = some sv := hr10.out.cell (i := 1) (by omega); have HA2 := Lib.hid hA2; have HX10 := Lib.hid (hBB.out.then_ xA (fun q hq h => by have := HW3.out; omega)); clear hA2 xA sA)
      have hs2 : Ext (fun q => q = w.heap.size + 2) w10 (w10.setCell ⟨w.heap.size + 1 + 1, 1, none⟩ (.slice av nv cv)) := Ext.setCell (S := fun q => q = w.heap.size + 2) (Ext.refl _ w10) (p := ⟨w.heap.size + 1 + 1, 1, none⟩) (.inr rfl) _
      go_roundw
      case rel => exact ⟨j + 1, .slice av nv cv, by omega, by go_num, by
        show AccR _ _ _ _ _ _ _
        rw [ER.out j hlt, List.map_append]; exact HA2.out.ext hs2 (fun k _ hk => by rcases hk with (hk | hk) | hk <;> omega), by
        refine (hr10.out.set 1 (.slice av nv cv)).congr (fun i hi => ?_)
        rcases (show i = 0 ∨ i = 1 by omega) with rfl | rfl <;> rfl, HX10.out.trans hs2⟩
      case measure => simp [intOf]; omega
    · have HJ : Hid (j = n1) := by show _ = _; omega
      have hB2 := hB.out
      rw [List.take_of_length_le (by have := HLM.out; have := HJ.out; omega)] at hB2
      obtain ⟨a', c', e, _, _, rd⟩ := hB2.read (by omega)
      rw [List.length_map, HLM.out] at e
      subst e
      have RD := Lib.hid rd
      have y0 : wr.cell? ⟨w.heap.size + 1 + 1, 0, none⟩ = some (.slice a0 n0 c0) := hR.out.cell (i := 0) (by omega)
      have y1 : wr.cell? ⟨w.heap.size + 1 + 1, 1, none⟩ = some (.slice a' n1 c') := hR.out.cell (i := 1) (by omega)
      have rr := row_ext HRR.out hK.out (fun h => by omega)
      have z0 := rr.cell (i := 0) (by simp)
      have z1 := rr.cell (i := 1) (by simp)
      simp at z0 z1
      have fr : ∀ i, wr.frozen? ⟨w.heap.size + 1, i, none⟩ = false := rr.frozen
      have fr0 := fr 0
      have fr1 := fr 1
      clear hB hB2 rd rr fr
      go_wp2_with fail
      have sx : Ext (fun q => q = w.heap.size + 1) wr ((wr.setCell ⟨w.heap.size + 1, 0, none⟩ (.slice a0 n0 c0)).setCell ⟨w.heap.size + 1, 1, none⟩ (.slice a' n1 c')) := Ext.setCell (S := fun q => q = w.heap.size + 1) (Ext.setCell (S := fun q => q = w.heap.size + 1) (Ext.refl _ wr) (p := ⟨w.heap.size + 1, 0, none⟩) (.inr rfl) _) (p := ⟨w.heap.size + 1, 1, none⟩) (.inr rfl) _
      refine bodyPost_ret (v := .agg #[.slice a0 n0 c0, .slice a' n1 c']) (by simp [results, Try.results54, go_sem, z0, z1]) rfl (fin_ hQ ⟨a', c', rfl, (RD.out.ext sx (fun k hk => by omega)).t, KW.out.then_ sx (fun q hq h => by omega)⟩)
end Go.Proofs.Ytbknmljfnjlieaa
