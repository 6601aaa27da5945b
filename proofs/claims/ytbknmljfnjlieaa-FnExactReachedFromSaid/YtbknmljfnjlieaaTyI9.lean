/- The program's types of expressions: other operations. -/
import Derived.Test.YtbknmljfnjlieaaTyI6
import Derived.Test.YtbknmljfnjlieaaTyI3
namespace Go.Proofs.Ytbknmljfnjlieaa
open Go.RowKit

theorem simple_neg {ds : List DeclL} {sg : List SigL} (hok : sigsOk ds sg = true) {op num : Int} {tys : List Int} {i : Nat} (hi : i < tys.length) (h : iAt tys i < 0) : simpleL ds sg op num tys = -1 := by
  obtain ⟨ht, _, _, hs⟩ := sigsOk_parts hok
  have key : ∀ xs : List Int, (∀ k, k < xs.length → 0 ≤ iAt xs k) → tys ≠ xs := fun xs hx e => by
    subst e
    have := hx i hi
    omega
  have k2 : ∀ k : Nat, k < 2 → 0 ≤ iAt [0, 0] k := fun k hk => by
    rcases (show k = 0 ∨ k = 1 by omega) with rfl | rfl <;> simp [iAt]
  have k1 : ∀ k : Nat, k < 1 → 0 ≤ iAt [0] k := fun k hk => by
    obtain rfl : k = 0 := by omega
    simp [iAt]
  unfold simpleL
  split
  · exact if_neg (fun h => key [] (fun k hk => absurd hk (by simp)) h.1)
  split
  · exact if_neg (fun h => key [0, 0] k2 h.2)
  split
  · exact if_neg (fun h => key [0] k1 h.2)
  split
  · refine if_neg (fun h' => ?_)
    obtain ⟨_, h2, h3, h4⟩ := h'
    obtain ⟨g1, g2, g3⟩ := isArr_parts h3
    rcases (show i = 0 ∨ i = 1 by omega) with rfl | rfl
    · omega
    · have := isT_iff.1 (declOk_arrow (typesOk_decl ht (k := (iAt tys 0).toNat - 1) (by omega)) g3).1
      omega
  split
  · exact if_neg (fun h' => key _ (fun k hk => (allT_at (conFieldsL_ok ht num).2 hk).1) h'.2)
  split
  · refine if_neg (fun h' => key _ (fun k hk => ?_) h'.2.2)
    exact (allT_at (sigOk_parts (hs _ (by omega))).2.1 hk).1
  split
  · refine if_neg (fun h' => key _ (fun k hk => ?_) h'.2.2.2)
    have hk2 : k < (sgAt sg num.toNat).params.length := by rw [List.length_take] at hk; omega
    have h5 := (allT_at (sigOk_parts (hs num.toNat (by omega))).2.1 hk2).1
    rw [List.length_take] at hk
    have e : iAt ((sgAt sg num.toNat).params.take ((sgAt sg num.toNat).params.length - 1)) k = iAt (sgAt sg num.toNat).params k := by simp [iAt, List.getD, show k < (sgAt sg num.toNat).params.length - 1 by omega, List.getElem?_eq_getElem hk2]
    rw [e]; exact h5
  · rfl

section
variable (ds : List DeclL) (sg : List SigL) (hok : sigsOk ds sg = true)
include hok

theorem implSimple (op num : Int) (hnum : fitN op num) (tys : List Int) (D : Nat → Prop) (a0 : Option Addr) (n0 c0 : Nat) (a1 : Option Addr) (n1 c1 : Nat) (a : Option Addr) (n c : Nat) (E : Nat → Prop) (w : World) (hp : SR w D ds sg a0 n0 c0 a1 n1 c1) (h : IntsL w E a n tys) (hn : n ≤ 1049576) :
    Calls Try.prog 103 #[.agg #[.slice a0 n0 c0, .slice a1 n1 c1], .int .i64 op, .int .i64 num, .slice a n c] w (SimR ds sg op num tys w) := by
  by_cases hr : op < 0 ∨ 13 < op ∨ op = 7 ∨ op = 8 ∨ op = 12 ∨ op = 13
  · exact implSim_other ds sg hok op hr num tys D a0 n0 c0 a1 n1 c1 a n c E w hp h hn
  · rcases (show op = 0 ∨ op = 1 ∨ op = 2 ∨ op = 3 ∨ op = 4 ∨ op = 5 ∨ op = 6 ∨ op = 9 ∨ op = 10 ∨ op = 11 by omega) with rfl | rfl | rfl | rfl | rfl | rfl | rfl | rfl | rfl | rfl
    · exact implSim_0 ds sg hok num tys D a0 n0 c0 a1 n1 c1 a n c E w hp h hn
    · exact implSim_1 ds sg hok num tys D a0 n0 c0 a1 n1 c1 a n c E w hp h hn
    · exact implSim_2 ds sg hok num tys D a0 n0 c0 a1 n1 c1 a n c E w hp h hn
    · exact implSim_3 ds sg hok num tys D a0 n0 c0 a1 n1 c1 a n c E w hp h hn
    · exact implSim_4 ds sg hok num tys D a0 n0 c0 a1 n1 c1 a n c E w hp h hn
    · exact implSim_5 ds sg hok num tys D a0 n0 c0 a1 n1 c1 a n c E w hp h hn
    · exact implSim_6 ds sg hok num tys D a0 n0 c0 a1 n1 c1 a n c E w hp h hn hnum.1 hnum.2
    · exact implSim_9 ds sg hok num tys D a0 n0 c0 a1 n1 c1 a n c E w hp h hn
    · exact implSim_10 ds sg hok num tys D a0 n0 c0 a1 n1 c1 a n c E w hp h hn
    · exact implSim_11 ds sg hok num tys D a0 n0 c0 a1 n1 c1 a n c E w hp h hn

set_option maxRecDepth 100000 in
set_option maxHeartbeats 4000000 in
theorem implTy_other (op : Int) (hop : op ≠ 12 ∧ op ≠ 13 ∧ op ≠ 7 ∧ op ≠ 8) (num : Int) (hnum : fitN op num) (es : List ExprL) (IH0 : ∀ j, j < es.length → TyI ds sg (eAt es j)) : TyI ds sg (.mk op num es) := by
  intro a0 n0 c0 a1 n1 c1 v vars a n c w base D hp hv h hD hb hlen hall
  refine calls_k fun Q hQ => ?_
  change Rd w D (encExprs es) _ at h
  rw [nE] at hlen
  simp only [ExprL.op, ExprL.num]
  obtain ⟨av, cv, rfl, hvc, hvo⟩ := hv.slice
  have VBL := Lib.hid hv.lt
  have ht := (sigsOk_parts hok).1
  have hf := Few.of_ok ht
  have hn0 : n0 ≤ 4 := by have := (decls_at hp.1).1; have := typesOk_len ht; omega
  have hvl : vars.length ≤ 1049576 := by omega
  have K0 := (Keep.al w (.cells #[.slice a0 n0 c0, .slice a1 n1 c1] 85)).trans (Keep.al _ (.cells #[.int .i64 op, .int .i64 num, .slice a n c] 41))
  have R0 := (rowOf w #[.slice a0 n0 c0, .slice a1 n1 c1] 85).alloc (.cells #[.int .i64 op, .int .i64 num, .slice a n c] 41)
  have R1 := rowOf (w.alloc (.cells #[.slice a0 n0 c0, .slice a1 n1 c1] 85)) #[.int .i64 op, .int .i64 num, .slice a n c] 41
  simp only [World.size_alloc] at R1
  have hv0 := hv.k K0
  have KT := Lib.hid (Keep.to (S := fun r => (Value.slice av vars.length cv).ownBlock = some r) K0)
  obtain ⟨e1, hnc, hnm, hat⟩ := exprs_at h
  have HL := Lib.hid e1
  have HA := Lib.hid hat
  have hn30 : n ≤ 262394 := by have := nEs_len es; omega
  have HOK := Lib.hid hok
  have HAll := Lib.hid hall
  have HLen := Lib.hid hlen
  have HT := Lib.hid ht
  have HD := Lib.hid hD
  have IH := Lib.hid IH0
  have HV := Lib.hid hv
  have HVO := Lib.hid hvo
  have HNUM := Lib.hid hnum
  clear e1 hat hok hall ht IH0 hD hv hvo hnum
  have HP := Lib.hid hp
  have HB := Lib.hid hb
  clear hp hb
  have V0 := Lib.hid (tyE_simple ds sg vars num es hop)
  have o12 : (op == 12) = false := by simp; omega
  have o13 : (op == 13) = false := by simp; omega
  have o7 : (op == 7) = false := by simp; omega
  have o8 : (op == 8) = false := by simp; omega
  have TL := Lib.hid (tyEs_len ds sg vars es)
  have TA := Lib.hid (fun i (hi : i < es.length) => tyEs_at ds sg vars (ks := es) hi)
  have SG := Lib.hid (fun i => simple_neg (ds := ds) (sg := sg) HOK.out (op := op) (num := num) (tys := tyEs ds sg vars es) (i := i))
  have TR := Lib.hid (fun (e : ExprL) => ty_ge HOK.out e HAll.out)
  have hkz : w.heap.size + 2 = ((w.alloc (.cells #[.slice a0 n0 c0, .slice a1 n1 c1] 85)).alloc (.cells #[.int .i64 op, .int .i64 num, .slice a n c] 41)).heap.size := by simp
  have HKZ := Lib.hid hkz
  have nsD : Hid (∀ q, D q → ¬ (Value.slice av vars.length cv).ownBlock = some q) := fun q hq e => by have := (VBL.out _ e).1; have := HD.out _ hq; omega
  clear hop hkz
  go_enter Try.func55, Try.ntmps55
  go_wp2_with (at_make; go_loud (refine wpList_makeN _ rfl _ _ 26 rfl 3 (.int .i64 0) #[.int .i64 0] 1 8 Try.underlying26 (by kernel_rfl) rfl rfl n rfl rfl (by omega) (by omega) ?_; intro w1 hrow hk1 hsz; have hsz2 : w1.heap.size = w.heap.size + 3 := (by rw [hsz, ← HKZ.out]); have hrow2 : w1.rowIs (w.heap.size + 2) 3 n (fun _ => .int .i64 0) := (by rw [HKZ.out]; have h2 := hrow; rw [Nat.mul_one] at h2; exact h2.congr (fun i hi => by simp [Nat.mod_one])); have R0' := Lib.hid (row_ext R0 hk1 (fun h => h)); have R1' := Lib.hid (row_ext R1 hk1 (fun h => h)); have KT1 := Lib.hid (KT.out.trans (Keep.to (S := fun r => (Value.slice av vars.length cv).ownBlock = some r) hk1)); have HV1 := Lib.hid (hv0.k hk1); have HROW := Lib.hid hrow2; have HSZ := Lib.hid hsz2; clear hrow hrow2 hsz hsz2 K0 hk1 hv0 R0 R1; have y0 := R1'.out.cell (i := 0) (by simp); have y1 := R1'.out.cell (i := 1) (by simp); have y2 := R1'.out.cell (i := 2) (by simp); simp at y0 y1 y2))
  go_loopw [163] (fun iv wr => ∃ (j : Nat) (f : Nat → Value), j ≤ n ∧ iv = .int .i64 j ∧ Hid (wr.rowIs (w.heap.size + 2) 3 n f ∧ ∀ l, l < j → f l = .int .i64 (iAt (tyEs ds sg vars es) l)) ∧ Hid (VR wr base (.slice av vars.length cv) vars) ∧ Hid (Ext (fun q => (Value.slice av vars.length cv).ownBlock = some q ∨ q = w.heap.size + 2) w1 wr)) (fun iv _ => n - (intOf iv).toNat)
  case atStart => exact ⟨0, _, Nat.zero_le _, rfl, ⟨HROW.out, fun l hl => absurd hl (by omega)⟩, HV1.out, Ext.refl _ _⟩
  case round =>
    obtain ⟨j, f, hj, rfl, hI, hV, hK⟩ := hrel
    have KE := Lib.hid (Ext.then_ KT1.out hK.out (fun q hq h => by rcases h with h | h; exact h; omega))
    have RS := row_ext R0'.out hK.out (fun e => by rcases e with e | e; (have := (VBL.out _ e).2; omega); omega)
    have RE := row_ext R1'.out hK.out (fun e => by rcases e with e | e; (have := (VBL.out _ e).2; omega); omega)
    have hsw : w.heap.size + 3 ≤ wr.heap.size := by have := hK.out.size; have := HSZ.out; omega
    have HSW := Lib.hid hsw
    by_cases hlt : j < n
    · have HJ : Hid (j < es.length) := by have := HL.out; show _ < _; omega
      obtain ⟨b, o, rfl, hd, a2, n2, c2, d0, d1, d2, r2⟩ := HA.out j hlt
      have nsb : ¬ (Value.slice av vars.length cv).ownBlock = some b := nsD.out _ hd
      have g0 := (KE.out.cell (World.block_lt_of_cell? _ _ d0) nsb).trans d0
      have g1 := (KE.out.cell (World.block_lt_of_cell? _ _ d1) nsb).trans d1
      have g2 := (KE.out.cell (World.block_lt_of_cell? _ _ d2) nsb).trans d2
      have KB := (Keep.al wr (.cells #[.int .i64 (eAt es j).op, .int .i64 (eAt es j).num, .slice a2 n2 c2] 41))
      have KX := Lib.hid (KE.out.trans (Keep.to KB))
      have qp := Lib.hid (HP.out.ext KX.out nsD.out)
      have qv := Lib.hid (hV.out.k (Keep.al wr (.cells #[.int .i64 (eAt es j).op, .int .i64 (eAt es j).num, .slice a2 n2 c2] 41)))
      have qe := Lib.hid (r2.ext KX.out nsD.out)
      have hbw : base ≤ wr.heap.size := by have := HB.out; omega
      have HBW := Lib.hid hbw
      have hbb : Hid (vars.length + 4 * nE (eAt es j) ≤ 1049576) := by have := nE_le es HJ.out; have := HLen.out; show _ ≤ _; omega
      have x0 := RS.cell (i := 0) (by simp)
      have x1 := RS.cell (i := 1) (by simp)
      have x0b := (RS.alloc (.cells #[.int .i64 (eAt es j).op, .int .i64 (eAt es j).num, .slice a2 n2 c2] 41)).cell (i := 0) (by simp)
      have x1b := (RS.alloc (.cells #[.int .i64 (eAt es j).op, .int .i64 (eAt es j).num, .slice a2 n2 c2] 41)).cell (i := 1) (by simp)
      simp only [Array.getD] at x0b x1b
      simp at x0 x1
      have HROW2 := Lib.hid (hI.out.1.alloc (.cells #[.int .i64 (eAt es j).op, .int .i64 (eAt es j).num, .slice a2 n2 c2] 41))
      have HK2 := Lib.hid (hK.out.trans (Keep.to KB))
      obtain ⟨z, hz⟩ : ∃ z, tyE ds sg vars (eAt es j) = z := ⟨_, rfl⟩
      have HZ := Lib.hid hz
      have HT1 : Hid (iAt (tyEs ds sg vars es) j = z) := by show _ = _; rw [TA.out j HJ.out, hz]
      clear d0 d1 d2 r2 hz KB hbw RS RE
      go_wp2_with fail
      refine (IH.out j HJ.out _ _ _ _ _ _ _ vars _ _ _ _ base D qp.out qv.out qe.out HD.out (by simp; have := HBW.out; omega) hbb.out HAll.out).mono ?_
      rw [HZ.out]
      rintro e w2 ⟨rfl, hv2, x2⟩
      have hrw := row_ext HROW2.out x2 (fun e => by have := (VBL.out _ e).2; omega)
      have fz : w2.frozen? ⟨w.heap.size + 1 + 1, j, none⟩ = false := hrw.frozen j
      have cz : w2.cell? ⟨w.heap.size + 1 + 1, j, none⟩ = some (f j) := hrw.cell hlt
      have hrs := Lib.hid (hrw.set j (.int .i64 z))
      have hs2 : Ext (fun q => q = w.heap.size + 2) w2 (w2.setCell ⟨w.heap.size + 1 + 1, j, none⟩ (.int .i64 z)) := Ext.setCell (S := fun q => q = w.heap.size + 2) (Ext.refl _ w2) (p := ⟨w.heap.size + 1 + 1, j, none⟩) (.inr rfl) _
      have K2 := Lib.hid ((HK2.out.trans (x2.mono (fun _ _ h => .inl h))).trans (hs2.mono (fun _ _ h => .inr h)))
      have KF := Lib.hid ((KX.out.trans x2).then_ hs2 (fun q hq h => by omega))
      have HV2 := Lib.hid (hv2.ext hs2 (fun g hg h => by have := (VBL.out _ hg).2; omega))
      clear hrw hs2 x2 hv2 x0 x1 x0b x1b g0 g1 g2
      have hzr := TR.out (eAt es j)
      rw [HZ.out] at hzr
      by_cases hz0 : z < 0
      · have V : Hid (tyE ds sg vars (.mk op num es) = -1) := by show _ = _; rw [V0.out]; exact SG.out j (by rw [TL.out]; exact HJ.out) (by rw [HT1.out]; exact hz0)
        go_wp2_with fail
        exact fin_ hQ ⟨ret_i V.out.symm, HV2.out, KF.out⟩
      · go_wp2_with fail
        go_roundw
        case rel => exact ⟨j + 1, _, by omega, by go_num, ⟨hrs.out, fun l hl => by
          by_cases hlj : l = j
          · rw [hlj, if_pos rfl, HT1.out]
          · rw [if_neg hlj]; exact hI.out.2 l (by omega)⟩, HV2.out, K2.out⟩
        case measure => simp [intOf]; omega
    · have hjn : j = n := by omega
      have hIL : IntsL wr (fun _ => True) (some ⟨w.heap.size + 2, 0, none⟩) n (tyEs ds sg vars es) := ⟨by rw [TL.out]; exact HL.out, fun _ => ⟨_, _, rfl, trivial, fun i hi => by
        rw [Nat.zero_add]; exact (hI.out.1.cell hi).trans (congrArg some (hI.out.2 i (by omega)))⟩⟩
      have x0 := RS.cell (i := 0) (by simp)
      have x1 := RS.cell (i := 1) (by simp)
      have y0 := RE.cell (i := 0) (by simp)
      have y1 := RE.cell (i := 1) (by simp)
      simp at x0 x1 y0 y1
      have qp := Lib.hid (HP.out.ext KE.out nsD.out)
      have HIL := Lib.hid hIL
      obtain ⟨u, hu⟩ : ∃ u, simpleL ds sg op num (tyEs ds sg vars es) = u := ⟨_, rfl⟩
      have HU := Lib.hid hu
      have SRG := Lib.hid (simple_range HOK.out op num (tyEs ds sg vars es))
      have V : Hid (tyE ds sg vars (.mk op num es) = u) := by show _ = _; rw [V0.out, hu]
      clear hu hIL hI RS RE
      go_wp2_with fail
      refine (implSimple ds sg HOK.out op num HNUM.out _ D _ _ _ _ _ _ _ _ _ _ _ qp.out HIL.out (by omega)).mono ?_
      rintro e w2 ⟨t, ok, rfl, hok, ht, p2⟩
      rw [HU.out] at hok ht
      have KF := Lib.hid (KE.out.trans (Keep.to p2))
      have HV2 := Lib.hid (hV.out.k p2)
      by_cases hu0 : 0 ≤ u
      · obtain rfl : ok = true := by rw [hok]; exact decide_eq_true hu0
        obtain rfl : t = u := ht rfl
        clear hok ht
        go_wp2_with fail
        exact fin_ hQ ⟨ret_i V.out.symm, HV2.out, KF.out⟩
      · obtain rfl : ok = false := by rw [hok]; exact decide_eq_false hu0
        have V2 : Hid (tyE ds sg vars (.mk op num es) = -1) := by
          show _ = _
          rw [V.out]
          rcases SRG.out with h | h
          · rw [HU.out] at h; exact h
          · rw [HU.out] at h; have := isT_iff.1 h; omega
        clear hok ht
        go_wp2_with fail
        exact fin_ hQ ⟨ret_i V2.out.symm, HV2.out, KF.out⟩
end
end Go.Proofs.Ytbknmljfnjlieaa
