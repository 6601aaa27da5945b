/- lower of the reference for every expression; copyDecls. -/
import Derived.Test.YtkapldpmjkdmcaaGreatTAS
import Derived.Test.YtkapldpmjkdmcaaGreatTAF
import Derived.Test.YtkapldpmjkdmcaaGreatTAQ
import Derived.Test.YtkapldpmjkdmcaaGreatTAJ
import Derived.Test.YtkapldpmjkdmcaaGreatTAN
import Derived.Deep.RegionHeld3
namespace Go.Proofs.YtkapldpmjkdmcaaGreat
open Go.RowKit

section
variable (ds : List DeclL) (sg : List SigL) (hok : sigsOk ds sg = true)
include hok
end
theorem lit_con1 (w : World) (D : Nat → Prop) (T : TypeId) (xs : List Int) (a : Option Addr) (n c : Nat) (hB : D w.heap.size) (h : Rd w D (encInts xs) (.slice a n c)) :
    Rd (w.alloc (.cells #[.slice a n c] T)) D (.arr 1 [rowC xs]) (.slice (some ⟨w.heap.size, 0, none⟩) 1 1) := by
  refine Rd.litD w D T 1 _ [rowC xs] 1 hB (by simp) (by omega) (by omega) (by simp) (fun i hi => ?_) (fun i j hi hj => ?_)
  · obtain rfl : i = 0 := by simp at hi; exact hi
    rfl
  · obtain rfl : i = 0 := by simp at hi; exact hi
    obtain rfl : j = 0 := by omega
    exact ⟨_, rfl, h⟩
theorem lit_decl1 (w : World) (D : Nat → Prop) (T : TypeId) (d : DeclL) (a : Option Addr) (n c : Nat) (hB : D w.heap.size) (h : Rd w D (encCons d.cons) (.slice a n c)) :
    Rd (w.alloc (.cells #[.int .i64 d.from_, .int .i64 d.to_, .slice a n c] T)) D (.arr 3 [rowD d]) (.slice (some ⟨w.heap.size, 0, none⟩) 1 1) := by
  refine Rd.litD w D T 3 _ [rowD d] 1 hB (by simp) (by omega) (by omega) (by simp) (fun i hi => ?_) (fun i j hi hj => ?_)
  · obtain rfl : i = 0 := by simp at hi; exact hi
    rfl
  · obtain rfl : i = 0 := by simp at hi; exact hi
    rcases (show j = 0 ∨ j = 1 ∨ j = 2 by omega) with rfl | rfl | rfl
    · exact ⟨_, rfl, .num _⟩
    · exact ⟨_, rfl, .num _⟩
    · exact ⟨_, rfl, h⟩

set_option maxRecDepth 100000 in
set_option maxHeartbeats 2000000 in
theorem specCopyDecls (ds : List DeclL) (a : Option Addr) (n c : Nat) (D : Nat → Prop) (w : World) (h : Rd w D (encDecls ds) (.slice a n c)) (hf : Few ds) (hfl : ∀ j k, (cAt (dAt ds j).cons k).length ≤ 1000) :
    Calls Tryz.prog 79 #[.slice a n c] w fun e w' => ∃ a' n' c', e = .returned (.slice a' n' c') ∧ Rd w' (fun k => w.heap.size ≤ k) (encDecls ds) (.slice a' n' c') ∧ Keep w w' := by
  refine calls_k fun Q hQ => ?_
  obtain ⟨e1, hnc, hm, hat⟩ := decls_at h
  have HL := Lib.hid e1
  have HA0 := Lib.hid hat
  have HF := Lib.hid hf
  have HFL := Lib.hid hfl
  have hn : n ≤ 4 := by have := hf.1; omega
  clear e1 hat h hf hfl
  go_enter Tryz.func79, Tryz.ntmps79
  go_wp2
  have A0 := AccR.made w (fun q => w.heap.size ≤ q) 125 3
  go_loopw [3, 4] (fun ov iv wr => ∃ (j : Nat) (vd : Value), vd = ov ∧ j ≤ n ∧ iv = .int .i64 j ∧ Hid (AccR wr w.heap.size (fun q => w.heap.size ≤ q) 125 3 vd ((ds.take j).map rowD)) ∧ Hid (Keep w wr)) (fun _ i _ => n - (intOf i).toNat)
  case atStart => exact ⟨0, _, rfl, Nat.zero_le _, rfl, A0, Keep.al _ _⟩
  case round =>
    obtain ⟨j, vd, rfl, hj, rfl, HA, HK⟩ := hrel
    obtain ⟨wo, rfl⟩ : ∃ wo : World, wo = wr := ⟨_, rfl⟩
    clear A0
    by_cases hlt : j < n
    · obtain ⟨b, o, rfl, hd, a2, n2, c2, d0, d1, d2, r2⟩ := HA0.out j hlt
      have hbw : b < w.heap.size := World.block_lt_of_cell? _ _ d0
      have d0 := HK.out.cq d0 (fun h => h)
      have d1 := HK.out.cq d1 (fun h => h)
      have d2 := HK.out.cq d2 (fun h => h)
      have hjl : j < ds.length := by have := HL.out; omega
      have hn2 : n2 ≤ 3 := by have h1 := (cons_at r2).1; have h2 := HF.out.2 j hjl; omega
      obtain ⟨e2, hnc2, hm2, hat2⟩ := cons_at (r2.k HK.out)
      have HL2 := Lib.hid e2
      have HA2 := Lib.hid hat2
      have HS : Hid (ds.take (j + 1) = ds.take j ++ [dAt ds j]) := by show _ = _; rw [List.take_succ_eq_append_getElem hjl, dAt_get hjl]
      have HLR : Hid (((ds.take j).map rowD).length = j) := by show _ = _; rw [List.length_map, List.length_take, HL.out]; omega
      have hwo := HK.out.size
      have hbd := Lib.hid HA.out.bound
      have D0 := Lib.hid d0
      have D1 := Lib.hid d1
      have D2 := Lib.hid d2
      have C0 := Lib.hid (AccR.made wo (fun q => wo.heap.size ≤ q) 155 1)
      clear e2 hat2 r2 hjl
      go_wp2
      go_loopw [5, 6] (fun ov iv wi => ∃ (k : Nat) (vc : Value), vc = ov ∧ k ≤ n2 ∧ iv = .int .i64 k ∧ Hid (AccR wi wo.heap.size (fun q => wo.heap.size ≤ q) 155 1 vc (((dAt ds j).cons.take k).map rowC)) ∧ Hid (Keep wo wi)) (fun _ i _ => n2 - (intOf i).toNat)
      case atStart => exact ⟨0, _, rfl, Nat.zero_le _, rfl, C0, Keep.al _ _⟩
      case round =>
        obtain ⟨k, vc, rfl, hk, rfl, HC, KI⟩ := hrel
        obtain ⟨wi, rfl⟩ : ∃ wo : World, wo = wr := ⟨_, rfl⟩
        clear C0 d0 d1 d2
        have d0 := KI.out.cq D0.out (fun h => h)
        have d1 := KI.out.cq D1.out (fun h => h)
        have d2 := KI.out.cq D2.out (fun h => h)
        have hwi := KI.out.size
        by_cases hlk : k < n2
        · obtain ⟨b3, o3, rfl, _, a4, n4, c4, g0, r4⟩ := HA2.out k hlk
          have g0 := KI.out.cq g0 (fun h => h)
          have R4 := Lib.hid (r4.k KI.out)
          have hn4 : n4 ≤ 1000 := by have := (ints_at r4).1; have := HFL.out j k; omega
          have hkl : k < (dAt ds j).cons.length := by have := HL2.out; omega
          have HSK : Hid ((dAt ds j).cons.take (k + 1) = (dAt ds j).cons.take k ++ [cAt (dAt ds j).cons k]) := by show _ = _; rw [List.take_succ_eq_append_getElem hkl, cAt_get hkl]
          have HLK : Hid ((((dAt ds j).cons.take k).map rowC).length = k) := by show _ = _; rw [List.length_map, List.length_take, HL2.out]; omega
          have hbc := Lib.hid HC.out.bound
          clear r4 hkl
          go_wp2_with fail
          refine (copyInts_any _ _ _ _ _ _ R4.out.toInts (by omega)).mono ?_
          rintro e w1 ⟨a5, c5, rfl, hc5, o5, p1⟩
          have hw1 := p1.size
          have RL := Lib.hid (lit_con1 w1 (fun q => wo.heap.size ≤ q ∧ vc.ownBlock ≠ some q) 155 _ a5 n4 c5 ⟨by omega, fun e => by have := (hbc.out _ e).2; omega⟩ ((o5.read.toRd hc5 (by omega)).mono (fun q hq => ⟨by omega, fun e => by have := (hbc.out _ e).2; omega⟩)))
          have AC := Lib.hid ((HC.out.keep p1).keep (Keep.al w1 (.cells #[.slice a5 n4 c5] 155)))
          have KN := Lib.hid (p1.trans (Keep.al w1 (.cells #[.slice a5 n4 c5] 155)))
          have hbs : wo.heap.size ≤ (w1.alloc (.cells #[.slice a5 n4 c5] 155)).heap.size := by simp only [World.size_alloc]; omega
          clear o5 p1 d0 d1 d2 g0
          go_wp2_with (at_builtin; go_must (refine wpList_appR _ rfl (.tmp 25) (.tmp 37) 123 rfl wo.heap.size 155 (.agg #[.slice none 0 0]) 1 24 Tryz.underlying123 (by kernel_rfl) rfl (by omega) (fun q => wo.heap.size ≤ q) _ _ rfl AC.out _ 1 1 [rowC (cAt (dAt ds j).cons k)] _ rfl RL.out (fun q _ hq => hq) (by rw [HLK.out]; omega) (by rw [HLK.out]; omega) hbs ?_); intro v1 w2 hA2 xA sA)
          have XA := Lib.hid xA
          have A2 := Lib.hid hA2
          clear xA hA2
          go_roundw
          case rel => exact ⟨k + 1, v1, rfl, by omega, by go_num, by
            show AccR _ _ _ _ _ _ _
            rw [HSK.out, List.map_append]
            exact A2.out, (KI.out.trans KN.out).then_ XA.out (fun i hi e => by omega)⟩
          case measure => simp [intOf]; omega
        · have HKJ : Hid (k = n2) := by show _ = _; omega
          rw [List.take_of_length_le (by have := HL2.out; have := HKJ.out; omega)] at HC
          obtain ⟨ac, cc, rfl, hcc, hc63, rc⟩ := HC.out.read (by omega)
          have RC : Hid (Rd wi (fun q => w.heap.size ≤ q ∧ vd.ownBlock ≠ some q) (encCons (dAt ds j).cons) (.slice ac ((dAt ds j).cons.map rowC).length cc)) := rc.mono (fun q hq => by
            have h1 : wo.heap.size ≤ q := by rcases hq with h | h <;> exact h
            exact ⟨by omega, fun e => by have := (hbd.out _ e).2; omega⟩)
          obtain ⟨mc, hmc⟩ : ∃ m, ((dAt ds j).cons.map rowC).length = m := ⟨_, rfl⟩
          rw [hmc] at RC ⊢
          have ZI : Hid (w.heap.size ≤ wi.heap.size ∧ wo.heap.size ≤ wi.heap.size) := ⟨by omega, by omega⟩
          clear rc hmc hcc hc63 hwi hwo
          go_wp2_with fail
          refine wp_region_held_drew (S := fun w' => w'.cell? ⟨b, o + j * 3, none⟩ = some (.int .i64 (dAt ds j).from_) ∧ w'.cell? ⟨b, o + j * 3 + 1, none⟩ = some (.int .i64 (dAt ds j).to_)) (by kernel_rfl) ⟨d0, d1⟩ (fun hHeld => ?_)
          refine wT 0 hHeld ?_
          try go_frame
          refine wT 1 hHeld ?_
          try go_frame
          refine wT 2 hHeld ?_
          try go_frame
          refine wT 3 hHeld ?_
          try go_frame
          refine wT 4 hHeld ?_
          try go_frame
          refine wT 5 hHeld ?_
          try go_frame
          refine wT 6 hHeld ?_
          try go_frame
          refine wT 7 hHeld ?_
          try go_frame
          refine wT 8 hHeld ?_
          try go_frame
          refine wT 9 hHeld ?_
          try go_frame
          refine wT 10 hHeld ?_
          try go_frame
          refine wT 11 hHeld ?_
          try go_frame
          refine wT 12 hHeld ?_
          try go_frame
          refine wO 13 (fun K hK => ?_)
          go_simp
          obtain ⟨y1, hWy1⟩ : ∃ y : World, y = (wi.alloc (.cells #[.int .i64 (dAt ds j).from_, .int .i64 (dAt ds j).to_, .slice ac mc cc] 125)).drew := ⟨_, rfl⟩
          rw [← hWy1]
          have ky1 : Keep wi.drew y1 := by rw [hWy1]; exact Keep.al wi.drew (.cells #[.int .i64 (dAt ds j).from_, .int .i64 (dAt ds j).to_, .slice ac mc cc] 125)
          have hzy1 : Hid (y1.heap.size = wi.heap.size + 1) := by show _ = _; rw [hWy1]; exact World.size_alloc _ _
          have d0y1 := Keep.at ky1 d0
          have d1y1 := Keep.at ky1 d1
          have RL : Hid (Rd y1 (fun q => w.heap.size ≤ q ∧ vd.ownBlock ≠ some q) (.arr 3 [rowD (dAt ds j)]) (.slice (some ⟨wi.heap.size, 0, none⟩) 1 1)) := by
            show Rd _ _ _ _
            rw [hWy1]
            exact lit_decl1 wi.drew _ 125 (dAt ds j) ac mc cc ⟨by show _ ≤ wi.heap.size; have := ZI.out; omega, fun e => by have := hbd.out _ e; change _ ∧ wi.heap.size < _ at this; have := ZI.out; omega⟩ RC.out.kd
          have AC := Lib.hid ((HA.out.keep ((KI.out).trans (Ext.refl (fun _ => False) wi).drew)).keep ky1)
          have hbs : w.heap.size ≤ y1.heap.size := by have := ky1.size; change wi.heap.size ≤ _ at this; have := ZI.out; omega
          have KN := Lib.hid ky1
          clear RC
          refine hK.out _ _ ⟨d0y1, d1y1⟩ (fun hHeld => ?_)
          clear hK K
          try go_frame
          refine wO 14 (fun K hK => ?_)
          refine wp_appR _ (.tmp 39) (.tmp 52) 27 rfl w.heap.size 125 (.agg #[.int .i64 0, .int .i64 0, .slice none 0 0]) 3 40 Tryz.underlying27 (by kernel_rfl) rfl (by omega) (fun q => w.heap.size ≤ q) vd _ rfl AC.out _ 1 1 [rowD (dAt ds j)] _ rfl RL.out (fun q _ hq => hq) (by rw [HLR.out]; omega) (by rw [HLR.out]; omega) hbs ?_
          intro v1 w2 hA2 xA b2
          have XA := Lib.hid xA
          have A2 := Lib.hid hA2
          have d0z := XA.out.cq d0y1 (fun e => by have := (HA.out.bound _ e).1; change w.heap.size ≤ b at this; omega)
          have d1z := XA.out.cq d1y1 (fun e => by have := (HA.out.bound _ e).1; change w.heap.size ≤ b at this; omega)
          clear hA2 xA b2
          refine hK.out _ _ ⟨d0z, d1z⟩ (fun hHeld => ?_)
          clear hK K
          try go_frame
          refine wT 15 hHeld ?_
          try go_frame
          refine wpAnyH_done (by kernel_rfl) ?_ _
          go_wp2
          go_roundw
          case rel => exact ⟨j + 1, v1, rfl, by omega, by go_num, by
            show AccR _ _ _ _ _ _ _
            rw [HS.out, List.map_append]
            exact A2.out, ((HK.out.trans KI.out).trans ((Ext.refl (fun _ => False) wi).drew.trans KN.out)).then_ XA.out (fun i hi e => by have := (HA.out.bound _ e).1; omega)⟩
          case measure => simp [intOf]; omega
    · have HJ : Hid (j = n) := by show _ = _; omega
      rw [List.take_of_length_le (by have := HL.out; have := HJ.out; omega)] at HA
      obtain ⟨ac, cc, rfl, hcc, hc63, rc⟩ := HA.out.read (by omega)
      have RC : Hid (Rd wo (fun q => w.heap.size ≤ q) (encDecls ds) (.slice ac (ds.map rowD).length cc)) := rc.mono (fun q hq => by rcases hq with h | h <;> exact h)
      clear rc
      go_wp2
      exact fin_ hQ ⟨_, _, _, rfl, RC.out, HK.out⟩
end Go.Proofs.YtkapldpmjkdmcaaGreat
/- ValidProgram of both packages. -/
namespace Go.Proofs.YtkapldpmjkdmcaaGreat
open Go.RowKit

end Go.Proofs.YtkapldpmjkdmcaaGreat
