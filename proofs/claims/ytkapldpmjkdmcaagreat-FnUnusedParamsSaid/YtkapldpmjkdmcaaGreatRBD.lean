/- The program's types of expressions: other operations. -/
import Derived.Test.YtkapldpmjkdmcaaGreatRBB
import Derived.Test.YtkapldpmjkdmcaaGreatRBC
import Derived.Test.YtkapldpmjkdmcaaGreatRAE
import Derived.Test.YtkapldpmjkdmcaaGreatRAF
import Derived.Test.YtkapldpmjkdmcaaGreatRAV
namespace Go.Proofs.YtkapldpmjkdmcaaGreat
open Go.RowKit

theorem simple_neg {ds : List DeclL} {sg : List SigL} (hok : sigsOk ds sg = true) {op num : Int} {tys : List Int} {i : Nat} (hi : i < tys.length) (h : iAt tys i < 0) : simpleL ds sg op num tys = -1 := by
  obtain ⟨ht, _, _, hs⟩ := sigsOk_parts hok
  have key : ∀ xs : List Int, (∀ k, k < xs.length → 0 ≤ iAt xs k) → tys ≠ xs := fun xs hx e => by
    subst e
    have := hx i hi
    omega
  have k2 : ∀ k : Nat, k < 2 → 0 ≤ iAt [0, 0] k := fun k hk => by
    rcases (show k = 0 ∨ k = 1 by omega) with rfl | rfl <;> simp [iAt]
  have k1 : ∀ k : Nat, k < 1 → 0 ≤ iAt [0] k := fun k hk => by
    obtain rfl : k = 0 := by omega
    simp [iAt]
  unfold simpleL
  split
  · exact if_neg (fun h => key [] (fun k hk => absurd hk (by simp)) h.1)
  split
  · exact if_neg (fun h => key [0, 0] k2 h.2)
  split
  · exact if_neg (fun h => key [0] k1 h.2)
  split
  · refine if_neg (fun h' => ?_)
    obtain ⟨_, h2, h3, h4⟩ := h'
    obtain ⟨g1, g2, g3⟩ := isArr_parts h3
    rcases (show i = 0 ∨ i = 1 by omega) with rfl | rfl
    · omega
    · have := isT_iff.1 (declOk_arrow (typesOk_decl ht (k := (iAt tys 0).toNat - 1) (by omega)) g3).1
      omega
  split
  · exact if_neg (fun h' => key _ (fun k hk => (allT_at (conFieldsL_ok ht num).2 hk).1) h'.2)
  split
  · refine if_neg (fun h' => key _ (fun k hk => ?_) h'.2.2)
    exact (allT_at (sigOk_parts (hs _ (by omega))).2.1 hk).1
  split
  · refine if_neg (fun h' => key _ (fun k hk => ?_) h'.2.2.2)
    have hk2 : k < (sgAt sg num.toNat).params.length := by rw [List.length_take] at hk; omega
    have h5 := (allT_at (sigOk_parts (hs num.toNat (by omega))).2.1 hk2).1
    rw [List.length_take] at hk
    have e : iAt ((sgAt sg num.toNat).params.take ((sgAt sg num.toNat).params.length - 1)) k = iAt (sgAt sg num.toNat).params k := by simp [iAt, List.getD, show k < (sgAt sg num.toNat).params.length - 1 by omega, List.getElem?_eq_getElem hk2]
    rw [e]; exact h5
  · rfl

section
variable (ds : List DeclL) (sg : List SigL) (hok : sigsOk ds sg = true)
include hok

theorem implSimple (op num : Int) (hnum : fitN op num) (tys : List Int) (D : Nat → Prop) (a0 : Option Addr) (n0 c0 : Nat) (a1 : Option Addr) (n1 c1 : Nat) (a : Option Addr) (n c : Nat) (E : Nat → Prop) (w : World) (hp : SR w D ds sg a0 n0 c0 a1 n1 c1) (h : IntsL w E a n tys) (hn : n ≤ 1049576) :
    Calls Tryz.prog 162 #[.agg #[.slice a0 n0 c0, .slice a1 n1 c1], .int .i64 op, .int .i64 num, .slice a n c] w (SimR ds sg op num tys w) := by
  by_cases hr : op < 0 ∨ 13 < op ∨ op = 7 ∨ op = 8 ∨ op = 12 ∨ op = 13
  · exact implSim_other ds sg hok op hr num tys D a0 n0 c0 a1 n1 c1 a n c E w hp h hn
  · rcases (show op = 0 ∨ op = 1 ∨ op = 2 ∨ op = 3 ∨ op = 4 ∨ op = 5 ∨ op = 6 ∨ op = 9 ∨ op = 10 ∨ op = 11 by omega) with rfl | rfl | rfl | rfl | rfl | rfl | rfl | rfl | rfl | rfl
    · exact implSim_0 ds sg hok num tys D a0 n0 c0 a1 n1 c1 a n c E w hp h hn
    · exact implSim_1 ds sg hok num tys D a0 n0 c0 a1 n1 c1 a n c E w hp h hn
    · exact implSim_2 ds sg hok num tys D a0 n0 c0 a1 n1 c1 a n c E w hp h hn
    · exact implSim_3 ds sg hok num tys D a0 n0 c0 a1 n1 c1 a n c E w hp h hn
    · exact implSim_4 ds sg hok num tys D a0 n0 c0 a1 n1 c1 a n c E w hp h hn
    · exact implSim_5 ds sg hok num tys D a0 n0 c0 a1 n1 c1 a n c E w hp h hn
    · exact implSim_6 ds sg hok num tys D a0 n0 c0 a1 n1 c1 a n c E w hp h hn hnum.1 hnum.2
    · exact implSim_9 ds sg hok num tys D a0 n0 c0 a1 n1 c1 a n c E w hp h hn
    · exact implSim_10 ds sg hok num tys D a0 n0 c0 a1 n1 c1 a n c E w hp h hn
    · exact implSim_11 ds sg hok num tys D a0 n0 c0 a1 n1 c1 a n c E w hp h hn

set_option maxRecDepth 100000 in
set_option maxHeartbeats 4000000 in
theorem implTy_other (op : Int) (hop : op ≠ 12 ∧ op ≠ 13 ∧ op ≠ 7 ∧ op ≠ 8) (num : Int) (hnum : fitN op num) (es : List ExprL) (IH0 : ∀ j, j < es.length → TyI ds sg (eAt es j)) : TyI ds sg (.mk op num es) := by
  intro a0 n0 c0 a1 n1 c1 v vars a n c w base D hp hv h hD hb hlen hall
  refine calls_k fun Q hQ => ?_
  change Rd w D (encExprs es) _ at h
  rw [nE] at hlen
  simp only [ExprL.op, ExprL.num]
  obtain ⟨av, cv, rfl, hvc, hvo⟩ := hv.slice
  have VBL := Lib.hid hv.lt
  have ht := (sigsOk_parts hok).1
  have hf := Few.of_ok ht
  have hn0 : n0 ≤ 4 := by have := (decls_at hp.1).1; have := typesOk_len ht; omega
  have hvl : vars.length ≤ 1049576 := by omega
  have K0 := (Keep.al w (.cells #[.slice a0 n0 c0, .slice a1 n1 c1] 130)).trans (Keep.al _ (.cells #[.int .i64 op, .int .i64 num, .slice a n c] 58))
  have R0 := (rowOf w #[.slice a0 n0 c0, .slice a1 n1 c1] 130).alloc (.cells #[.int .i64 op, .int .i64 num, .slice a n c] 58)
  have R1 := rowOf (w.alloc (.cells #[.slice a0 n0 c0, .slice a1 n1 c1] 130)) #[.int .i64 op, .int .i64 num, .slice a n c] 58
  simp only [World.size_alloc] at R1
  have hv0 := hv.k K0
  have KT := Lib.hid (Keep.to (S := fun r => (Value.slice av vars.length cv).ownBlock = some r) K0)
  obtain ⟨e1, hnc, hnm, hat⟩ := exprs_at h
  have HL := Lib.hid e1
  have HA := Lib.hid hat
  have hn30 : n ≤ 262394 := by have := nEs_len es; omega
  have HOK := Lib.hid hok
  have HAll := Lib.hid hall
  have HLen := Lib.hid hlen
  have HT := Lib.hid ht
  have HD := Lib.hid hD
  have IH := Lib.hid IH0
  have HV := Lib.hid hv
  have HVO := Lib.hid hvo
  have HNUM := Lib.hid hnum
  clear e1 hat hok hall ht IH0 hD hv hvo hnum
  have HP := Lib.hid hp
  have HB := Lib.hid hb
  clear hp hb
  have V0 := Lib.hid (tyE_simple ds sg vars num es hop)
  have o12 : (op == 12) = false := by simp; omega
  have o13 : (op == 13) = false := by simp; omega
  have o7 : (op == 7) = false := by simp; omega
  have o8 : (op == 8) = false := by simp; omega
  have TL := Lib.hid (tyEs_len ds sg vars es)
  have TA := Lib.hid (fun i (hi : i < es.length) => tyEs_at ds sg vars (ks := es) hi)
  have SG := Lib.hid (fun i => simple_neg (ds := ds) (sg := sg) HOK.out (op := op) (num := num) (tys := tyEs ds sg vars es) (i := i))
  have TR := Lib.hid (fun (e : ExprL) => ty_ge HOK.out e HAll.out)
  have hkz : w.heap.size + 2 = ((w.alloc (.cells #[.slice a0 n0 c0, .slice a1 n1 c1] 130)).alloc (.cells #[.int .i64 op, .int .i64 num, .slice a n c] 58)).heap.size := by simp
  have HKZ := Lib.hid hkz
  have nsD : Hid (∀ q, D q → ¬ (Value.slice av vars.length cv).ownBlock = some q) := fun q hq e => by have := (VBL.out _ e).1; have := HD.out _ hq; omega
  clear hop hkz
  go_enter Tryz.func117, Tryz.ntmps117
  go_wp2_with (at_make; go_loud (refine wpList_makeN _ rfl _ _ 52 rfl 3 (.int .i64 0) #[.int .i64 0] 1 8 Tryz.underlying52 (by kernel_rfl) rfl rfl n rfl rfl (by omega) (by omega) ?_; intro w1 hrow hk1 hsz; have hsz2 : w1.heap.size = w.heap.size + 3 := (by rw [hsz, ← HKZ.out]); have hrow2 : w1.rowIs (w.heap.size + 2) 3 n (fun _ => .int .i64 0) := (by rw [HKZ.out]; have h2 := hrow; rw [Nat.mul_one] at h2; exact h2.congr (fun i hi => by simp [Nat.mod_one])); have R0' := Lib.hid (row_ext R0 hk1 (fun h => h)); have R1' := Lib.hid (row_ext R1 hk1 (fun h => h)); have KT1 := Lib.hid (KT.out.trans (Keep.to (S := fun r => (Value.slice av vars.length cv).ownBlock = some r) hk1)); have HV1 := Lib.hid (hv0.k hk1); have HROW := Lib.hid hrow2; have HSZ := Lib.hid hsz2; clear hrow hrow2 hsz hsz2 K0 hk1 hv0 R0 R1; have y0 := R1'.out.cell (i := 0) (by simp); have y1 := R1'.out.cell (i := 1) (by simp); have y2 := R1'.out.cell (i := 2) (by simp); simp at y0 y1 y2))
  go_loopw [163] (fun iv wr => ∃ (j : Nat) (f : Nat → Value), j ≤ n ∧ iv = .int .i64 j ∧ Hid (wr.rowIs (w.heap.size + 2) 3 n f ∧ ∀ l, l < j → f l = .int .i64 (iAt (tyEs ds sg vars es) l)) ∧ Hid (VR wr base (.slice av vars.length cv) vars) ∧ Hid (Ext (fun q => (Value.slice av vars.length cv).ownBlock = some q ∨ q = w.heap.size + 2) w1 wr)) (fun iv _ => n - (intOf iv).toNat)
  case atStart => exact ⟨0, _, Nat.zero_le _, rfl, ⟨HROW.out, fun l hl => absurd hl (by omega)⟩, HV1.out, Ext.refl _ _⟩
  case round =>
    obtain ⟨j, f, hj, rfl, hI, hV, hK⟩ := hrel
    have KE := Lib.hid (Ext.then_ KT1.out hK.out (fun q hq h => by rcases h with h | h; exact h; omega))
    have RS := row_ext R0'.out hK.out (fun e => by rcases e with e | e; (have := (VBL.out _ e).2; omega); omega)
    have RE := row_ext R1'.out hK.out (fun e => by rcases e with e | e; (have := (VBL.out _ e).2; omega); omega)
    have hsw : w.heap.size + 3 ≤ wr.heap.size := by have := hK.out.size; have := HSZ.out; omega
    have HSW := Lib.hid hsw
    by_cases hlt : j < n
    · have HJ : Hid (j < es.length) := by have := HL.out; show _ < _; omega
      obtain ⟨b, o, rfl, hd, a2, n2, c2, d0, d1, d2, r2⟩ := HA.out j hlt
      have nsb : ¬ (Value.slice av vars.length cv).ownBlock = some b := nsD.out _ hd
      have g0 := (KE.out.cell (World.block_lt_of_cell? _ _ d0) nsb).trans d0
      have g1 := (KE.out.cell (World.block_lt_of_cell? _ _ d1) nsb).trans d1
      have g2 := (KE.out.cell (World.block_lt_of_cell? _ _ d2) nsb).trans d2
      have KB := (Keep.al wr (.cells #[.int .i64 (eAt es j).op, .int .i64 (eAt es j).num, .slice a2 n2 c2] 58))
      have KX := Lib.hid (KE.out.trans (Keep.to KB))
      have qp := Lib.hid (HP.out.ext KX.out nsD.out)
      have qv := Lib.hid (hV.out.k (Keep.al wr (.cells #[.int .i64 (eAt es j).op, .int .i64 (eAt es j).num, .slice a2 n2 c2] 58)))
      have qe := Lib.hid (r2.ext KX.out nsD.out)
      have hbw : base ≤ wr.heap.size := by have := HB.out; omega
      have HBW := Lib.hid hbw
      have hbb : Hid (vars.length + 4 * nE (eAt es j) ≤ 1049576) := by have := nE_le es HJ.out; have := HLen.out; show _ ≤ _; omega
      have x0 := RS.cell (i := 0) (by simp)
      have x1 := RS.cell (i := 1) (by simp)
      have x0b := (RS.alloc (.cells #[.int .i64 (eAt es j).op, .int .i64 (eAt es j).num, .slice a2 n2 c2] 58)).cell (i := 0) (by simp)
      have x1b := (RS.alloc (.cells #[.int .i64 (eAt es j).op, .int .i64 (eAt es j).num, .slice a2 n2 c2] 58)).cell (i := 1) (by simp)
      simp only [Array.getD] at x0b x1b
      simp at x0 x1
      have HROW2 := Lib.hid (hI.out.1.alloc (.cells #[.int .i64 (eAt es j).op, .int .i64 (eAt es j).num, .slice a2 n2 c2] 58))
      have HK2 := Lib.hid (hK.out.trans (Keep.to KB))
      obtain ⟨z, hz⟩ : ∃ z, tyE ds sg vars (eAt es j) = z := ⟨_, rfl⟩
      have HZ := Lib.hid hz
      have HT1 : Hid (iAt (tyEs ds sg vars es) j = z) := by show _ = _; rw [TA.out j HJ.out, hz]
      clear d0 d1 d2 r2 hz KB hbw RS RE
      go_wp2_with fail
      refine (IH.out j HJ.out _ _ _ _ _ _ _ vars _ _ _ _ base D qp.out qv.out qe.out HD.out (by simp; have := HBW.out; omega) hbb.out HAll.out).mono ?_
      rw [HZ.out]
      rintro e w2 ⟨rfl, hv2, x2⟩
      have hrw := row_ext HROW2.out x2 (fun e => by have := (VBL.out _ e).2; omega)
      have fz : w2.frozen? ⟨w.heap.size + 1 + 1, j, none⟩ = false := hrw.frozen j
      have cz : w2.cell? ⟨w.heap.size + 1 + 1, j, none⟩ = some (f j) := hrw.cell hlt
      have hrs := Lib.hid (hrw.set j (.int .i64 z))
      have hs2 : Ext (fun q => q = w.heap.size + 2) w2 (w2.setCell ⟨w.heap.size + 1 + 1, j, none⟩ (.int .i64 z)) := Ext.setCell (S := fun q => q = w.heap.size + 2) (Ext.refl _ w2) (p := ⟨w.heap.size + 1 + 1, j, none⟩) (.inr rfl) _
      have K2 := Lib.hid ((HK2.out.trans (x2.mono (fun _ _ h => .inl h))).trans (hs2.mono (fun _ _ h => .inr h)))
      have KF := Lib.hid ((KX.out.trans x2).then_ hs2 (fun q hq h => by omega))
      have HV2 := Lib.hid (hv2.ext hs2 (fun g hg h => by have := (VBL.out _ hg).2; omega))
      clear hrw hs2 x2 hv2 x0 x1 x0b x1b g0 g1 g2
      have hzr := TR.out (eAt es j)
      rw [HZ.out] at hzr
      by_cases hz0 : z < 0
      · have V : Hid (tyE ds sg vars (.mk op num es) = -1) := by show _ = _; rw [V0.out]; exact SG.out j (by rw [TL.out]; exact HJ.out) (by rw [HT1.out]; exact hz0)
        go_wp2_with fail
        exact fin_ hQ ⟨ret_i V.out.symm, HV2.out, KF.out⟩
      · go_wp2_with fail
        go_roundw
        case rel => exact ⟨j + 1, _, by omega, by go_num, ⟨hrs.out, fun l hl => by
          by_cases hlj : l = j
          · rw [hlj, if_pos rfl, HT1.out]
          · rw [if_neg hlj]; exact hI.out.2 l (by omega)⟩, HV2.out, K2.out⟩
        case measure => simp [intOf]; omega
    · have hjn : j = n := by omega
      have hIL : IntsL wr (fun _ => True) (some ⟨w.heap.size + 2, 0, none⟩) n (tyEs ds sg vars es) := ⟨by rw [TL.out]; exact HL.out, fun _ => ⟨_, _, rfl, trivial, fun i hi => by
        rw [Nat.zero_add]; exact (hI.out.1.cell hi).trans (congrArg some (hI.out.2 i (by omega)))⟩⟩
      have x0 := RS.cell (i := 0) (by simp)
      have x1 := RS.cell (i := 1) (by simp)
      have y0 := RE.cell (i := 0) (by simp)
      have y1 := RE.cell (i := 1) (by simp)
      simp at x0 x1 y0 y1
      have qp := Lib.hid (HP.out.ext KE.out nsD.out)
      have HIL := Lib.hid hIL
      obtain ⟨u, hu⟩ : ∃ u, simpleL ds sg op num (tyEs ds sg vars es) = u := ⟨_, rfl⟩
      have HU := Lib.hid hu
      have SRG := Lib.hid (simple_range HOK.out op num (tyEs ds sg vars es))
      have V : Hid (tyE ds sg vars (.mk op num es) = u) := by show _ = _; rw [V0.out, hu]
      clear hu hIL hI RS RE
      go_wp2_with fail
      refine (implSimple ds sg HOK.out op num HNUM.out _ D _ _ _ _ _ _ _ _ _ _ _ qp.out HIL.out (by omega)).mono ?_
      rintro e w2 ⟨t, ok, rfl, hok, ht, p2⟩
      rw [HU.out] at hok ht
      have KF := Lib.hid (KE.out.trans (Keep.to p2))
      have HV2 := Lib.hid (hV.out.k p2)
      by_cases hu0 : 0 ≤ u
      · obtain rfl : ok = true := by rw [hok]; exact decide_eq_true hu0
        obtain rfl : t = u := ht rfl
        clear hok ht
        go_wp2_with fail
        exact fin_ hQ ⟨ret_i V.out.symm, HV2.out, KF.out⟩
      · obtain rfl : ok = false := by rw [hok]; exact decide_eq_false hu0
        have V2 : Hid (tyE ds sg vars (.mk op num es) = -1) := by
          show _ = _
          rw [V.out]
          rcases SRG.out with h | h
          · rw [HU.out] at h; exact h
          · rw [HU.out] at h; have := isT_iff.1 h; omega
        clear hok ht
        go_wp2_with fail
        exact fin_ hQ ⟨ret_i V2.out.symm, HV2.out, KF.out⟩
end
end Go.Proofs.YtkapldpmjkdmcaaGreat
/- validSigs of the program. -/
namespace Go.Proofs.YtkapldpmjkdmcaaGreat
open Go.RowKit

theorem lentAt_neg {s : SigL} {k : Nat} (h : iAt s.lent k < 0) : lentAt s k = false := by
  have e : decide (0 ≤ iAt s.lent k) = false := decide_eq_false (by omega)
  simp only [lentAt, e, Bool.false_and]
theorem lentAt_big {s : SigL} {k : Nat} (h : (s.params.length : Int) ≤ iAt s.lent k) : lentAt s k = false := by
  have e : decide (iAt s.lent k < (s.params.length : Int)) = false := decide_eq_false (by omega)
  simp only [lentAt, e, Bool.false_and, Bool.and_false]
theorem lentAt_int {s : SigL} {k v : Nat} (hv : iAt s.lent k = (v : Int)) (h : iAt s.params v = 0) : lentAt s k = false := by
  have e : decide (iAt s.params (iAt s.lent k).toNat ≠ 0) = false := decide_eq_false (by rw [hv, Int.toNat_natCast]; simpa using h)
  simp only [lentAt, e, Bool.false_and, Bool.and_false]
theorem lentAt_order {s : SigL} {k : Nat} (hk : 0 < k) (h : iAt s.lent k ≤ iAt s.lent (k - 1)) : lentAt s k = false := by
  have e : (decide (k = 0) || decide (iAt s.lent (k - 1) < iAt s.lent k)) = false := by simp; omega
  simp only [lentAt, e, Bool.and_false]
theorem lentAt_yes {s : SigL} {k v : Nat} (hv : iAt s.lent k = (v : Int)) (h1 : v < s.params.length) (h2 : iAt s.params v ≠ 0) (h3 : k = 0 ∨ iAt s.lent (k - 1) < iAt s.lent k) : lentAt s k = true := by
  have e : (decide (k = 0) || decide (iAt s.lent (k - 1) < iAt s.lent k)) = true := by simpa using h3
  have e1 : decide (0 ≤ iAt s.lent k) = true := decide_eq_true (by omega)
  have e2 : decide (iAt s.lent k < (s.params.length : Int)) = true := decide_eq_true (by omega)
  have e3 : decide (iAt s.params (iAt s.lent k).toNat ≠ 0) = true := decide_eq_true (by rw [hv, Int.toNat_natCast]; exact h2)
  simp only [lentAt, e, e1, e2, e3, Bool.and_self]

set_option maxRecDepth 100000 in
set_option maxHeartbeats 4000000 in
theorem implValidSigs0 (ds : List DeclL) (sg : List SigL) (a0 : Option Addr) (n0 c0 : Nat) (a1 : Option Addr) (n1 c1 : Nat) (D0 D1 : Nat → Prop) (w : World) (r0 : Rd w D0 (encDecls ds) (.slice a0 n0 c0)) (r1 : Rd w D1 (encSigs sg) (.slice a1 n1 c1)) :
    Calls Tryz.prog 114 #[.slice a0 n0 c0, .slice a1 n1 c1] w fun e w' => e = .returned (.bool (sigsOk ds sg)) ∧ Keep w w' := by
  refine calls_k fun Q hQ => ?_
  have hd0 := Lib.hid (r0.toDecls.1)
  have hnc0 := (decls_at r0).2.1
  obtain ⟨e1, hnc, hm, hat⟩ := sigs_at r1
  have HL := Lib.hid e1
  have HA := Lib.hid hat
  clear e1 hat
  cases v1 : typesOk ds
  · have V := Lib.hid (sigsOk_types (sg := sg) v1)
    have V1 := Lib.hid v1
    clear v1
    go_enter Tryz.func114, Tryz.ntmps114
    go_wp2_with fail
    refine (implValidTypes _ _ _ _ _ _ r0.toDecls hnc0).mono ?_
    rw [V1.out]
    rintro e w1 ⟨rfl, p1⟩
    go_wp2_with fail
    exact fin_ hQ ⟨ret_b V.out.symm, p1⟩
  have V1 := Lib.hid v1
  clear v1
  by_cases hl1 : 1 ≤ n1
  case neg =>
    have V := Lib.hid (sigsOk_len (ds := ds) (sg := sg) (by have := HL.out; omega))
    go_enter Tryz.func114, Tryz.ntmps114
    go_wp2_with fail
    refine (implValidTypes _ _ _ _ _ _ r0.toDecls hnc0).mono ?_
    rw [V1.out]
    rintro e w1 ⟨rfl, p1⟩
    go_wp2_with fail
    exact fin_ hQ ⟨ret_b V.out.symm, p1⟩
  by_cases hl4 : n1 ≤ 4
  case neg =>
    have V := Lib.hid (sigsOk_len (ds := ds) (sg := sg) (by have := HL.out; omega))
    go_enter Tryz.func114, Tryz.ntmps114
    go_wp2_with fail
    refine (implValidTypes _ _ _ _ _ _ r0.toDecls hnc0).mono ?_
    rw [V1.out]
    rintro e w1 ⟨rfl, p1⟩
    go_wp2_with fail
    exact fin_ hQ ⟨ret_b V.out.symm, p1⟩
  obtain ⟨b, o, rfl, hd, a3, n3, c3, a4, n4, c4, d0, d1, d2, r3, r4⟩ := HA.out 0 (by omega)
  rw [Nat.zero_mul, Nat.add_zero] at d0 d1 d2
  have hP0 := Lib.hid r3.toInts.1
  clear r3 r4 d1
  by_cases h0 : n3 = 0
  case neg =>
    have V := Lib.hid (sigsOk_first (ds := ds) (sg := sg) (fun h => h0 (by have := h.1; have := hP0.out; omega)))
    go_enter Tryz.func114, Tryz.ntmps114
    go_wp2_with fail
    refine (implValidTypes _ _ _ _ _ _ r0.toDecls hnc0).mono ?_
    rw [V1.out]
    rintro e w1 ⟨rfl, p1⟩
    have g0 := (p1.cell (World.block_lt_of_cell? w _ d0) (fun h => h)).trans d0
    have g2 := (p1.cell (World.block_lt_of_cell? w _ d2) (fun h => h)).trans d2
    go_wp2_with fail
    exact fin_ hQ ⟨ret_b V.out.symm, p1⟩
  by_cases h5 : (sgAt sg 0).result = 0
  case neg =>
    have V := Lib.hid (sigsOk_first (ds := ds) (sg := sg) (fun h => h5 h.2))
    have h5' : ((sgAt sg 0).result != 0) = true := by simpa using h5
    subst h0
    go_enter Tryz.func114, Tryz.ntmps114
    go_wp2_with fail
    refine (implValidTypes _ _ _ _ _ _ r0.toDecls hnc0).mono ?_
    rw [V1.out]
    rintro e w1 ⟨rfl, p1⟩
    have g0 := (p1.cell (World.block_lt_of_cell? w _ d0) (fun h => h)).trans d0
    have g2 := (p1.cell (World.block_lt_of_cell? w _ d2) (fun h => h)).trans d2
    go_wp2_with fail
    exact fin_ hQ ⟨ret_b V.out.symm, p1⟩
  have V5 := Lib.hid h5
  subst h0
  rw [h5] at d2
  clear h5
  go_enter Tryz.func114, Tryz.ntmps114
  go_wp2_with fail
  refine (implValidTypes _ _ _ _ _ _ r0.toDecls hnc0).mono ?_
  rw [V1.out]
  rintro e w1 ⟨rfl, p1⟩
  have g0 := (p1.cell (World.block_lt_of_cell? w _ d0) (fun h => h)).trans d0
  have g2 := (p1.cell (World.block_lt_of_cell? w _ d2) (fun h => h)).trans d2
  go_wp2_with fail
  clear g0 g2 d0 d2
  go_loopw [39] (fun iv wr => ∃ j : Nat, j ≤ n1 ∧ iv = .int .i64 j ∧ Hid (∀ l, l < j → sigOk n0 (sgAt sg l) = true) ∧ Keep w wr) (fun i _ => n1 - (intOf i).toNat)
  case atStart => exact ⟨0, Nat.zero_le _, rfl, fun j hj => absurd hj (by omega), p1⟩
  case round =>
    obtain ⟨wo, rfl⟩ : ∃ wo : World, wo = wr := ⟨_, rfl⟩
    obtain ⟨j, hj, rfl, H, hK⟩ := hrel
    by_cases hlt : j < n1
    · obtain ⟨_, _, e, hd, a3, n3, c3, a4, n4, c4, d0, d1, d2, r3, r4⟩ := HA.out j hlt
      injection e with e
      injection e with e1 e2
      subst e1
      subst e2
      have g0 := (hK.cell (World.block_lt_of_cell? w _ d0) (fun h => h)).trans d0
      have g1 := (hK.cell (World.block_lt_of_cell? w _ d1) (fun h => h)).trans d1
      have g2 := (hK.cell (World.block_lt_of_cell? w _ d2) (fun h => h)).trans d2
      have hP := Lib.hid r3.toInts.1
      have ka := Keep.al wo (.cells #[.slice a3 n3 c3, .slice a4 n4 c4, .int .i64 (sgAt sg j).result] 164)
      have q3 := Lib.hid (((r3.k hK).k ka))
      have q4 := Lib.hid (((r4.k hK).k ka))
      have hKa := Lib.hid (hK.trans ka)
      have hj' := Lib.hid (show j < sg.length by have := HL.out; omega)
      clear d0 d1 d2 r3 r4 ka
      by_cases h3 : n3 ≤ 3
      case neg =>
        have V := Lib.hid (sigsOk_at (ds := ds) hd0.out hj'.out (sigOk_len (n := n0) (by have := hP.out; omega)))
        go_wp2_with fail
        exact fin_ hQ ⟨ret_b V.out.symm, hKa.out⟩
      cases v3 : allT n0 (sgAt sg j).params
      · have V := Lib.hid (sigsOk_at (ds := ds) hd0.out hj'.out (sigOk_params v3))
        have V3 := Lib.hid v3
        clear v3
        go_wp2_with fail
        refine (implAllTypes _ _ _ _ _ _ _ _ _ q3.out.toInts (by omega)).mono ?_
        rw [V3.out]
        rintro e w2 ⟨rfl, rfl⟩
        go_wp2_with fail
        exact fin_ hQ ⟨ret_b V.out.symm, hKa.out⟩
      have V3 := Lib.hid v3
      clear v3
      cases v4 : isT n0 (sgAt sg j).result
      · have V := Lib.hid (sigsOk_at (ds := ds) hd0.out hj'.out (sigOk_result v4))
        have V4 := Lib.hid v4
        clear v4
        go_wp2_with fail
        refine (implAllTypes _ _ _ _ _ _ _ _ _ q3.out.toInts (by omega)).mono ?_
        rw [V3.out]
        rintro e w2 ⟨rfl, rfl⟩
        go_wp2_with fail
        refine (implIsType_no _ _ _ _ _ V4.out).mono ?_
        rintro e w2 ⟨rfl, rfl⟩
        go_wp2_with fail
        exact fin_ hQ ⟨ret_b V.out.symm, hKa.out⟩
      have V4 := Lib.hid v4
      clear v4
      go_wp2_with fail
      refine (implAllTypes _ _ _ _ _ _ _ _ _ q3.out.toInts (by omega)).mono ?_
      rw [V3.out]
      rintro e w2 ⟨rfl, rfl⟩
      go_wp2_with fail
      refine (implIsType_yes _ _ _ _ _ V4.out).mono ?_
      rintro e w2 ⟨rfl, rfl⟩
      go_wp2_with fail
      clear g0 g1 g2
      obtain ⟨eP, _, _, hatP⟩ := ints_at q3.out
      obtain ⟨eL, _, hmL, hatL⟩ := ints_at q4.out
      have HP := Lib.hid hatP
      have HLn := Lib.hid hatL
      have EL := Lib.hid eL
      clear eP eL hatP hatL
      go_loopw [64] (fun iv wr => ∃ k : Nat, k ≤ n4 ∧ iv = .int .i64 k ∧ Hid (∀ l, l < k → lentAt (sgAt sg j) l = true) ∧ Keep (wo.alloc (.cells #[.slice a3 n3 c3, .slice a4 n4 c4, .int .i64 (sgAt sg j).result] 164)) wr) (fun i _ => n4 - (intOf i).toNat)
      case atStart => exact ⟨0, Nat.zero_le _, rfl, fun j hj => absurd hj (by omega), Ext.refl _ _⟩
      case round =>
        obtain ⟨wi, rfl⟩ : ∃ wi : World, wi = wr := ⟨_, rfl⟩
        obtain ⟨k, hk, rfl, H2, hK2⟩ := hrel
        have y0 := boxk hK2 0
        have y1 := boxk hK2 1
        simp only [List.getElem?_toArray, List.getElem?_cons_zero, List.getElem?_cons_succ] at y0 y1
        by_cases hltk : k < n4
        · obtain ⟨b4, o4, rfl, _, f0⟩ := HLn.out k hltk
          have t0 := (hK2.cell (World.block_lt_of_cell? _ _ f0) (fun h => h)).trans f0
          clear f0
          have hk' := Lib.hid (show k < (sgAt sg j).lent.length by have := EL.out; omega)
          by_cases c1 : iAt (sgAt sg j).lent k < 0
          · have V := Lib.hid (sigsOk_at (ds := ds) hd0.out hj'.out (sigOk_lent hk'.out (lentAt_neg c1)))
            go_wp2_with fail
            exact fin_ hQ ⟨ret_b V.out.symm, hKa.out.trans hK2⟩
          by_cases c2 : (n3 : Int) ≤ iAt (sgAt sg j).lent k
          · have V := Lib.hid (sigsOk_at (ds := ds) hd0.out hj'.out (sigOk_lent hk'.out (lentAt_big (by have := hP.out; omega))))
            go_wp2_with fail
            exact fin_ hQ ⟨ret_b V.out.symm, hKa.out.trans hK2⟩
          obtain ⟨v, hv⟩ : ∃ v : Nat, iAt (sgAt sg j).lent k = (v : Int) := ⟨(iAt (sgAt sg j).lent k).toNat, by omega⟩
          rw [hv] at t0 c1 c2
          have hv3 : v < n3 := by omega
          have HV := Lib.hid hv
          obtain ⟨b3, o3, rfl, _, f3⟩ := HP.out v hv3
          have t3 := (hK2.cell (World.block_lt_of_cell? _ _ f3) (fun h => h)).trans f3
          clear f3 c1 c2 hv
          by_cases c3 : iAt (sgAt sg j).params v = 0
          · have V := Lib.hid (sigsOk_at (ds := ds) hd0.out hj'.out (sigOk_lent hk'.out (lentAt_int HV.out c3)))
            rw [c3] at t3
            clear c3
            go_wp2_with fail
            exact fin_ hQ ⟨ret_b V.out.symm, hKa.out.trans hK2⟩
          have c3' : (iAt (sgAt sg j).params v == 0) = false := by simpa using c3
          by_cases c4 : k = 0
          · have V := Lib.hid (lentAt_yes HV.out (by have := hP.out; omega) c3 (.inl c4))
            have HK0 := Lib.hid c4
            have c4' : ¬ (0 : Int) < (k : Int) := by omega
            clear c3 c4
            go_wp2_with fail
            go_roundw
            case rel => exact ⟨k + 1, by omega, by go_num, fun l hl => by
              obtain rfl : l = k := by have := HK0.out; omega
              exact V.out, hK2⟩
            case measure => simp [intOf]; omega
          obtain ⟨k, rfl⟩ : ∃ m, k = m + 1 := ⟨k - 1, by omega⟩
          obtain ⟨_, _, e, _, f5⟩ := HLn.out k (by omega)
          injection e with e
          injection e with e1 e2
          subst e1
          subst e2
          have t5 := (hK2.cell (World.block_lt_of_cell? _ _ f5) (fun h => h)).trans f5
          clear f5 c4
          have wr1 : IntKind.i64.wrap (((k + 1 : Nat) : Int) - 1) = (k : Int) := by
            have : ((k + 1 : Nat) : Int) - 1 = (k : Int) := by omega
            rw [this]
            exact IntWalk.i64_in _ (by omega)
          have wr2 : IntKind.i64.wrap ((k : Int) + 1 - 1) = (k : Int) := by rw [show (k : Int) + 1 - 1 = (k : Int) by omega]; exact IntWalk.i64_in _ (by omega)
          by_cases c5 : (v : Int) ≤ iAt (sgAt sg j).lent k
          · have V := Lib.hid (sigsOk_at (ds := ds) hd0.out hj'.out (sigOk_lent hk'.out (lentAt_order (Nat.succ_pos k) (by rw [HV.out]; exact c5))))
            clear c3
            go_wp2_with fail
            exact fin_ hQ ⟨ret_b V.out.symm, hKa.out.trans hK2⟩
          · have V := Lib.hid (lentAt_yes HV.out (by have := hP.out; omega) c3 (.inr (by rw [HV.out]; show iAt _ k < _; omega)))
            clear c3
            go_wp2_with fail
            go_roundw
            case rel => exact ⟨k + 1 + 1, by omega, by go_num, fun l hl => by
              rcases Nat.lt_succ_iff_lt_or_eq.1 hl with h | rfl
              · exact H2.out l h
              · exact V.out, hK2⟩
            case measure => simp [intOf]; omega
        · have V := Lib.hid (sigOk_yes (n := n0) (s := sgAt sg j) (by have := hP.out; omega) V3.out V4.out (fun l hl => H2.out l (by have := EL.out; omega)))
          go_wp2_with fail
          go_roundw
          case rel => exact ⟨j + 1, by omega, by go_num, fun l hl => by
            rcases Nat.lt_succ_iff_lt_or_eq.1 hl with h | rfl
            · exact H.out l h
            · exact V.out, (hK.trans (Keep.al _ _)).trans hK2⟩
          case measure => simp [intOf]; omega
    · have V := Lib.hid (sigsOk_yes (n := n0) hd0.out V1.out (by have := HL.out; omega) (by have := HL.out; omega) hP0.out V5.out (fun i hi => H.out i (by have := HL.out; omega)))
      go_wp2_with fail
      exact fin_ hQ ⟨ret_b V.out.symm, hK⟩
end Go.Proofs.YtkapldpmjkdmcaaGreat
/- ValidSigs of both. -/
namespace Go.Proofs.YtkapldpmjkdmcaaGreat
open Go.RowKit


/-- An empty slice with room. -/
theorem wpList_makeR {P : Program} (w : World) {ops : Array Oper} {rest : List Oper} {o : Oper} {a : Act} {Q : Exit → Act → World → Prop}
    (hg : o.guard = none) (l c : Operand) (t : TypeId) (hop : o.op = Op.makeSlice t l c)
    (base : Nat) (e : TypeId) (z : Value) (size bytes : Nat) (h1 : P.underlying t = some (.slice e)) (hinfo : (P.info? e).map (fun i => (i.zero, i.size, i.bytes)) = some (some z, size, bytes))
    (C : Int) (n : Nat) (hl : a.eval l = .int .i64 0) (hc : a.eval c = .int .i64 C) (hC : C = (n : Int)) (b2 : bytes * n ≤ 281474976710656) (b3 : n ≤ maxLen) (b4 : base ≤ w.heap.size) (D : Nat → Prop)
    (hK : ∀ w', AccR w' base D e size (.slice (some ⟨w.heap.size, 0, none⟩) 0 n) [] → Keep w w' → wpList P ops Q rest (a.put o.dst (.slice (some ⟨w.heap.size, 0, none⟩) 0 n)) w') :
    wpList P ops Q (o :: rest) a w := by
  obtain ⟨i, hi, hz0, hz1, hz2⟩ := info_parts hinfo
  exact wpList_make_own w hg l c t hop base e i z size h1 hi hz0 hz1 .i64 .i64 C n hl hc hC (by rw [hz2]; exact b2) b3 b4 (fun w' h g => hK w' ⟨[], h, by simp, by simp⟩ (Ext.grown (Ext.refl _ _) g (fun k hk => by cases hk)))

/-- One signature, laid into a new block. -/
theorem lit_sig (w : World) (D : Nat → Prop) (T : TypeId) (s : SigL) (a : Option Addr) (n c : Nat) (a' : Option Addr) (n' c' : Nat) (hB : D w.heap.size) (h : Rd w D (encInts s.params) (.slice a n c)) (h' : Rd w D (encInts s.lent) (.slice a' n' c')) :
    Rd (w.alloc (.cells #[.slice a n c, .slice a' n' c', .int .i64 s.result] T)) D (encSigs [s]) (.slice (some ⟨w.heap.size, 0, none⟩) 1 1) := by
  refine Rd.litD w D T 3 _ ([s].map rowG) 1 hB (by simp) (by omega) (by omega) (by simp) (fun i hi => by rw [sigs_row [s] i (by simpa using hi)]; rfl) (fun i j hi hj => ?_)
  obtain rfl : i = 0 := by simpa using hi
  rcases (show j = 0 ∨ j = 1 ∨ j = 2 by omega) with rfl | rfl | rfl
  · exact ⟨_, rfl, h⟩
  · exact ⟨_, rfl, h'⟩
  · exact ⟨_, rfl, .num s.result⟩

set_option maxRecDepth 100000 in
set_option maxHeartbeats 2000000 in
theorem implValidSigs (ds : List DeclL) (fs : List FuncL) (a0 : Option Addr) (n0 c0 : Nat) (a1 : Option Addr) (n1 c1 : Nat) (D0 D1 : Nat → Prop) (w : World) (r0 : Rd w D0 (encDecls ds) (.slice a0 n0 c0)) (r1 : Rd w D1 (encFuncs fs) (.slice a1 n1 c1)) :
    Calls Tryz.prog 62 #[.agg #[.slice a0 n0 c0, .slice a1 n1 c1]] w fun e w' => e = .returned (.bool (sigsOk ds (fs.map sigF))) ∧ Keep w w' := by
  refine calls_k fun Q hQ => ?_
  have K0 := Keep.al w (.cells #[.slice a0 n0 c0, .slice a1 n1 c1] 44)
  obtain ⟨e1, hnc, hm, hat⟩ := funcs_at r1
  have HL := Lib.hid e1
  have HA := Lib.hid hat
  have HLM : Hid ((fs.map sigF).length = n1) := by show _ = _; simp [e1]
  clear e1 hat
  by_cases hl4 : n1 ≤ 4
  case neg =>
    have V := Lib.hid (sigsOk_len (ds := ds) (sg := fs.map sigF) (by have := HLM.out; omega))
    go_enter Tryz.func62, Tryz.ntmps62
    go_wp2_with (at_make; refine wpList_makeR _ rfl _ _ 128 rfl (w.heap.size + 1) 164 (.agg #[.slice none 0 0, .slice none 0 0, .int .i64 0]) 3 56 Tryz.underlying128 (by kernel_rfl) 4 4 rfl rfl rfl (by omega) (by simp [maxLen]) (by simp) (fun k => k ≠ w.heap.size) ?_; intro w1 hA hk1; have x1 := boxk hk1 1; simp at x1)
    exact fin_ hQ ⟨ret_b V.out.symm, K0.trans hk1⟩
  have ER : Hid (∀ j, j < n1 → (fs.map sigF).take (j + 1) = (fs.map sigF).take j ++ [sigF (fAt fs j)]) := fun j hj => by
    have hj' : j < (fs.map sigF).length := by have := HLM.out; omega
    rw [List.take_succ_eq_append_getElem hj', ← sgAt_get hj', sgAt_sigF _ (by simpa using hj')]
  go_enter Tryz.func62, Tryz.ntmps62
  go_wp2_with (at_make; refine wpList_makeR _ rfl _ _ 128 rfl (w.heap.size + 1) 164 (.agg #[.slice none 0 0, .slice none 0 0, .int .i64 0]) 3 56 Tryz.underlying128 (by kernel_rfl) 4 4 rfl rfl rfl (by omega) (by simp [maxLen]) (by simp) (fun k => k ≠ w.heap.size) ?_; intro w1 hA hk1; have x1 := boxk hk1 1; simp at x1)
  clear x1
  go_loopw [3, 14] (fun sv iv wr => ∃ j : Nat, j ≤ n1 ∧ iv = .int .i64 j ∧ AccR wr (w.heap.size + 1) (fun k => k ≠ w.heap.size) 164 3 sv (((fs.map sigF).take j).map rowG) ∧ Keep (w.alloc (.cells #[.slice a0 n0 c0, .slice a1 n1 c1] 44)) wr) (fun _ i _ => n1 - (intOf i).toNat)
  case atStart => exact ⟨0, Nat.zero_le _, rfl, by simpa using hA, hk1⟩
  case round =>
    obtain ⟨j, hj, rfl, hB, hK⟩ := hrel
    have hs := hK.size
    simp at hs
    by_cases hlt : j < n1
    · obtain ⟨b, o, rfl, hd, a3, n3, c3, a4, n4, c4, d0, d1, d2, d3, d4, r3, r4⟩ := HA.out j hlt
      have hKw := K0.trans hK
      have g0 := (hKw.cell (World.block_lt_of_cell? w _ d0) (fun h => h)).trans d0
      have g1 := (hKw.cell (World.block_lt_of_cell? w _ d1) (fun h => h)).trans d1
      have g2 := (hKw.cell (World.block_lt_of_cell? w _ d2) (fun h => h)).trans d2
      have g3 := (hKw.cell (World.block_lt_of_cell? w _ d3) (fun h => h)).trans d3
      have g4 := (hKw.cell (World.block_lt_of_cell? w _ d4) (fun h => h)).trans d4
      have ka := Keep.al wr (.cells #[.slice a3 n3 c3, .int .i64 (fAt fs j).result, .int .i64 (fAt fs j).body.op, .int .i64 (fAt fs j).body.num, .slice a4 n4 c4] 60)
      have bnd := hB.bound
      have q3 := ((r3.lt.k hKw).k ka).mono (D' := fun k => k ≠ w.heap.size ∧ u3.ownBlock ≠ some k) (fun k hk => ⟨by omega, fun e => by have := bnd k e; omega⟩)
      have kl := Keep.al (wr.alloc (.cells #[.slice a3 n3 c3, .int .i64 (fAt fs j).result, .int .i64 (fAt fs j).body.op, .int .i64 (fAt fs j).body.num, .slice a4 n4 c4] 60)) (.cells #[.slice a3 n3 c3, .slice none 0 0, .int .i64 (fAt fs j).result] 164)
      have hX := lit_sig (wr.alloc (.cells #[.slice a3 n3 c3, .int .i64 (fAt fs j).result, .int .i64 (fAt fs j).body.op, .int .i64 (fAt fs j).body.num, .slice a4 n4 c4] 60)) (fun k => k ≠ w.heap.size ∧ u3.ownBlock ≠ some k) 164 (sigF (fAt fs j)) a3 n3 c3 none 0 0 ⟨by simp; omega, fun e => by have := bnd _ e; simp at this; omega⟩ q3 (.nil 1 none 0)
      simp only [World.size_alloc, sigF] at hX
      have hO2 := (hB.keep ka).keep kl
      have hlr : (((fs.map sigF).take j).map rowG).length = j := by
        rw [List.length_map, List.length_take, HLM.out]; omega
      have HLR := Lib.hid hlr
      have hBB := Lib.hid (hK.trans (ka.trans kl))
      clear d0 d1 d2 d3 d4 r3 r4 bnd q3 hlr hKw ka kl hB
      go_wp2_with (at_builtin; go_must (refine wpList_appR _ rfl (.tmp 18) (.tmp 24) 128 rfl (w.heap.size + 1) 164 (.agg #[.slice none 0 0, .slice none 0 0, .int .i64 0]) 3 56 Tryz.underlying128 (by kernel_rfl) rfl (by omega) (fun k => k ≠ w.heap.size) _ _ rfl hO2 _ 1 1 _ _ rfl hX (fun k _ hk => hk) (by rw [HLR.out]; omega) (by rw [HLR.out]; omega) (by simp; omega) ?_); intro v1 w10 hA2 xA sA)
      go_roundw
      case rel => exact ⟨j + 1, by omega, by go_num, by rw [ER.out j hlt, List.map_append]; exact hA2, hBB.out.then_ xA (fun q hq h => by simp at hq; omega)⟩
      case measure => simp [intOf]; omega
    · have HJ : Hid (j = n1) := by show _ = _; omega
      have x0 := boxk hK 0
      simp at x0
      rw [List.take_of_length_le (by have := HLM.out; have := HJ.out; omega)] at hB
      obtain ⟨a', c', e, _, _, rd⟩ := hB.read (by omega)
      rw [List.length_map, HLM.out] at e
      subst e
      go_wp2_with fail
      refine (implValidSigs0 ds (fs.map sigF) a0 n0 c0 a' n1 c' _ _ wr (r0.k (K0.trans hK)) rd).mono ?_
      rintro e w2 ⟨rfl, p2⟩
      go_wp2_with fail
      exact fin_ hQ ⟨rfl, (K0.trans hK).trans p2⟩
end Go.Proofs.YtkapldpmjkdmcaaGreat
/- The program's types of expressions: all operations; the signatures of a program. -/
namespace Go.Proofs.YtkapldpmjkdmcaaGreat
open Go.RowKit

section
variable (ds : List DeclL) (sg : List SigL) (hok : sigsOk ds sg = true)
include hok
theorem implTypeOf_n (N : Nat) : ∀ e : ExprL, nE e < N → allE fitN e → TyI ds sg e := by
  induction N with
  | zero => intro e h; omega
  | succ N ih =>
  intro e hN ha
  obtain ⟨op, num, es⟩ := e
  have IH : ∀ j, j < es.length → TyI ds sg (eAt es j) := fun j hj => ih _ (by have := nE_le es hj; rw [nE] at hN; omega) (allEs_at ha.2 hj)
  by_cases h12 : op = 12
  · subst h12; exact implTy_12 ds sg hok num ha.1 es IH
  by_cases h13 : op = 13
  · subst h13; exact implTy_13 ds sg hok num ha.1 es IH
  by_cases h7 : op = 7
  · subst h7; exact implTy_7 ds sg hok num ha.1 es IH
  by_cases h8 : op = 8
  · subst h8; exact implTy_8 ds sg hok num ha.1 es IH
  exact implTy_other ds sg hok op ⟨h12, h13, h7, h8⟩ num ha.1 es IH
theorem implTypeOf0 (e : ExprL) (ha : allE fitN e) : TyI ds sg e := implTypeOf_n ds sg hok _ e (Nat.lt_succ_self _) ha
end
end Go.Proofs.YtkapldpmjkdmcaaGreat
/- The signatures of a program, by the program. -/
namespace Go.Proofs.YtkapldpmjkdmcaaGreat
open Go.RowKit

set_option maxRecDepth 100000 in
set_option maxHeartbeats 400000 in
theorem implSigsOf (fs : List FuncL) (a0 : Option Addr) (n0 c0 : Nat) (a1 : Option Addr) (n1 c1 : Nat) (D1 : Nat → Prop) (w : World) (r1 : Rd w D1 (encFuncs fs) (.slice a1 n1 c1)) (hn4 : n1 ≤ 4) :
    Calls Tryz.prog 116 #[.agg #[.slice a0 n0 c0, .slice a1 n1 c1]] w fun e w' => ∃ a' c', e = .returned (.agg #[.slice a0 n0 c0, .slice a' n1 c']) ∧ Rd w' (fun _ => True) (encSigs (fs.map sigF)) (.slice a' n1 c') ∧ Keep w w' := by
  refine calls_k fun Q hQ => ?_
  obtain ⟨e1, hnc, hm, hat⟩ := funcs_at r1
  have HL := Lib.hid e1
  have HA := Lib.hid hat
  have HLM : Hid ((fs.map sigF).length = n1) := by show _ = _; simp [e1]
  have ER : Hid (∀ j, j < n1 → (fs.map sigF).take (j + 1) = (fs.map sigF).take j ++ [sigF (fAt fs j)]) := fun j hj => by
    have hj' : j < (fs.map sigF).length := by have := HLM.out; omega
    rw [List.take_succ_eq_append_getElem hj', ← sgAt_get hj', sgAt_sigF _ (by simpa using hj')]
  clear e1 hat
  go_enter Tryz.func116, Tryz.ntmps116
  have K0 := (((Keep.al w (.cells #[.slice a0 n0 c0, .slice a1 n1 c1] 44)).trans (Keep.al _ (.cells #[.slice none 0 0, .slice none 0 0] 130))).trans (Keep.al _ (.cells #[.slice a0 n0 c0, .slice none 0 0] 130)))
  have RB := rowOf ((w.alloc (.cells #[.slice a0 n0 c0, .slice a1 n1 c1] 44)).alloc (.cells #[.slice none 0 0, .slice none 0 0] 130)) #[.slice a0 n0 c0, .slice none 0 0] 130
  have RR := (rowOf (w.alloc (.cells #[.slice a0 n0 c0, .slice a1 n1 c1] 44)) #[.slice none 0 0, .slice none 0 0] 130).alloc (.cells #[.slice a0 n0 c0, .slice none 0 0] 130)
  simp only [World.size_alloc] at RB RR
  have HRB := Lib.hid RB
  have HRR := Lib.hid RR
  have HK0 := Lib.hid K0
  have HW3 : Hid ((((w.alloc (.cells #[.slice a0 n0 c0, .slice a1 n1 c1] 44)).alloc (.cells #[.slice none 0 0, .slice none 0 0] 130)).alloc (.cells #[.slice a0 n0 c0, .slice none 0 0] 130)).heap.size = w.heap.size + 3) := by show _ = _; simp
  clear RB RR K0
  go_wp2_with fail
  go_loopw [12] (fun iv wr => ∃ (j : Nat) (sv : Value), j ≤ n1 ∧ iv = .int .i64 j ∧ Hid (AccR wr (w.heap.size + 3) (fun k => k < w.heap.size ∨ w.heap.size + 3 ≤ k) 164 3 sv (((fs.map sigF).take j).map rowG)) ∧ Hid (wr.rowIs (w.heap.size + 2) 130 2 (fun i => (#[.slice a0 n0 c0, sv] : Array Value).getD i undef)) ∧ Hid (Ext (fun q => q = w.heap.size + 2) (((w.alloc (.cells #[.slice a0 n0 c0, .slice a1 n1 c1] 44)).alloc (.cells #[.slice none 0 0, .slice none 0 0] 130)).alloc (.cells #[.slice a0 n0 c0, .slice none 0 0] 130)) wr)) (fun iv _ => n1 - (intOf iv).toNat)
  case atStart => exact ⟨0, .slice none 0 0, Nat.zero_le _, rfl, (show AccR _ _ _ _ _ _ _ from by simpa using AccR.nil _ _ _ _ _), HRB.out, Ext.refl _ _⟩
  case round =>
    obtain ⟨j, sv, hj, rfl, hB, hR, hK⟩ := hrel
    have hs : w.heap.size + 3 ≤ wr.heap.size := by have := hK.out.size; have := HW3.out; omega
    have HS := Lib.hid hs
    have KW := Lib.hid (HK0.out.then_ hK.out (fun q hq h => by omega))
    by_cases hlt : j < n1
    · obtain ⟨b, o, rfl, hd, a3, n3, c3, a4, n4, c4, d0, d1, d2, d3, d4, r3, r4⟩ := HA.out j hlt
      have g0 := (KW.out.cell (World.block_lt_of_cell? w _ d0) (fun h => h)).trans d0
      have g1 := (KW.out.cell (World.block_lt_of_cell? w _ d1) (fun h => h)).trans d1
      have g2 := (KW.out.cell (World.block_lt_of_cell? w _ d2) (fun h => h)).trans d2
      have g3 := (KW.out.cell (World.block_lt_of_cell? w _ d3) (fun h => h)).trans d3
      have g4 := (KW.out.cell (World.block_lt_of_cell? w _ d4) (fun h => h)).trans d4
      have ka := Keep.al wr (.cells #[.slice a3 n3 c3, .int .i64 (fAt fs j).result, .int .i64 (fAt fs j).body.op, .int .i64 (fAt fs j).body.num, .slice a4 n4 c4] 60)
      have bnd := hB.out.bound
      have q3 := ((r3.lt.k KW.out).k ka).mono (D' := fun k => (fun k => k < w.heap.size ∨ w.heap.size + 3 ≤ k) k ∧ sv.ownBlock ≠ some k) (fun k hk => ⟨.inl (by omega), fun e => by have := bnd k e; omega⟩)
      have kl := Keep.al (wr.alloc (.cells #[.slice a3 n3 c3, .int .i64 (fAt fs j).result, .int .i64 (fAt fs j).body.op, .int .i64 (fAt fs j).body.num, .slice a4 n4 c4] 60)) (.cells #[.slice a3 n3 c3, .slice none 0 0, .int .i64 (fAt fs j).result] 164)
      have hX := lit_sig (wr.alloc (.cells #[.slice a3 n3 c3, .int .i64 (fAt fs j).result, .int .i64 (fAt fs j).body.op, .int .i64 (fAt fs j).body.num, .slice a4 n4 c4] 60)) (fun k => (fun k => k < w.heap.size ∨ w.heap.size + 3 ≤ k) k ∧ sv.ownBlock ≠ some k) 164 (sigF (fAt fs j)) a3 n3 c3 none 0 0 ⟨.inr (by simp; omega), fun e => by have := bnd _ e; simp at this; omega⟩ q3 (.nil 1 none 0)
      simp only [World.size_alloc, sigF] at hX
      have hO2 := (hB.out.keep ka).keep kl
      have hlr : (((fs.map sigF).take j).map rowG).length = j := by
        rw [List.length_map, List.length_take, HLM.out]; omega
      have HLR := Lib.hid hlr
      have hBB := Lib.hid (hK.out.trans (Keep.to (ka.trans kl)))
      have hR1 := hR.out.alloc (.cells #[.slice a3 n3 c3, .int .i64 (fAt fs j).result, .int .i64 (fAt fs j).body.op, .int .i64 (fAt fs j).body.num, .slice a4 n4 c4] 60)
      have hR2 := hR1.alloc (.cells #[.slice a3 n3 c3, .slice none 0 0, .int .i64 (fAt fs j).result] 164)
      have HR2 := Lib.hid hR2
      have y1 : wr.cell? ⟨w.heap.size + 1 + 1, 1, none⟩ = some sv := hR.out.cell (i := 1) (by omega)
      have y1a : (wr.alloc (.cells #[.slice a3 n3 c3, .int .i64 (fAt fs j).result, .int .i64 (fAt fs j).body.op, .int .i64 (fAt fs j).body.num, .slice a4 n4 c4] 60)).cell? ⟨w.heap.size + 1 + 1, 1, none⟩ = some sv := hR1.cell (i := 1) (by omega)
      have y1b : ((wr.alloc (.cells #[.slice a3 n3 c3, .int .i64 (fAt fs j).result, .int .i64 (fAt fs j).body.op, .int .i64 (fAt fs j).body.num, .slice a4 n4 c4] 60)).alloc (.cells #[.slice a3 n3 c3, .slice none 0 0, .int .i64 (fAt fs j).result] 164)).cell? ⟨w.heap.size + 1 + 1, 1, none⟩ = some sv := hR2.cell (i := 1) (by omega)
      clear d0 d1 d2 d3 d4 r3 r4 bnd q3 hlr ka kl hB hR1 hR2
      go_wp2_with (at_builtin; go_must (refine wpList_appR _ rfl (.tmp 17) (.tmp 23) 128 rfl (w.heap.size + 3) 164 (.agg #[.slice none 0 0, .slice none 0 0, .int .i64 0]) 3 56 Tryz.underlying128 (by kernel_rfl) rfl (by omega) (fun k => k < w.heap.size ∨ w.heap.size + 3 ≤ k) _ _ rfl hO2 _ 1 1 _ _ rfl hX (fun k _ hk => hk) (by rw [HLR.out]; omega) (by rw [HLR.out]; omega) (by simp; omega) ?_); intro v1 w10 hA2 xA sA; obtain ⟨av, nv, cv, rfl⟩ : ∃ av nv cv, v1 = .slice av nv cv := (by obtain ⟨a9, c9, e9, _⟩ := hA2.read (by omega); exact ⟨_, _, _, e9⟩); have hr10 := Lib.hid (row_ext HR2.out xA (fun (h : w.heap.size + 3 ≤ _) => by omega)); have fz : w10.frozen? ⟨w.heap.size + 1 + 1, 1, none⟩ = false := hr10.out.frozen 1; have cz : w10.cell? ⟨w.heap.size + 1 + 1, 1, none⟩ = some sv := hr10.out.cell (i := 1) (by omega); have HA2 := Lib.hid hA2; have HX10 := Lib.hid (hBB.out.then_ xA (fun q hq h => by have := HW3.out; omega)); clear hA2 xA sA)
      have hs2 : Ext (fun q => q = w.heap.size + 2) w10 (w10.setCell ⟨w.heap.size + 1 + 1, 1, none⟩ (.slice av nv cv)) := Ext.setCell (S := fun q => q = w.heap.size + 2) (Ext.refl _ w10) (p := ⟨w.heap.size + 1 + 1, 1, none⟩) (.inr rfl) _
      go_roundw
      case rel => exact ⟨j + 1, .slice av nv cv, by omega, by go_num, by
        show AccR _ _ _ _ _ _ _
        rw [ER.out j hlt, List.map_append]; exact HA2.out.ext hs2 (fun k _ hk => by rcases hk with (hk | hk) | hk <;> omega), by
        refine (hr10.out.set 1 (.slice av nv cv)).congr (fun i hi => ?_)
        rcases (show i = 0 ∨ i = 1 by omega) with rfl | rfl <;> rfl, HX10.out.trans hs2⟩
      case measure => simp [intOf]; omega
    · have HJ : Hid (j = n1) := by show _ = _; omega
      have hB2 := hB.out
      rw [List.take_of_length_le (by have := HLM.out; have := HJ.out; omega)] at hB2
      obtain ⟨a', c', e, _, _, rd⟩ := hB2.read (by omega)
      rw [List.length_map, HLM.out] at e
      subst e
      have RD := Lib.hid rd
      have y0 : wr.cell? ⟨w.heap.size + 1 + 1, 0, none⟩ = some (.slice a0 n0 c0) := hR.out.cell (i := 0) (by omega)
      have y1 : wr.cell? ⟨w.heap.size + 1 + 1, 1, none⟩ = some (.slice a' n1 c') := hR.out.cell (i := 1) (by omega)
      have rr := row_ext HRR.out hK.out (fun h => by omega)
      have z0 := rr.cell (i := 0) (by simp)
      have z1 := rr.cell (i := 1) (by simp)
      simp at z0 z1
      have fr : ∀ i, wr.frozen? ⟨w.heap.size + 1, i, none⟩ = false := rr.frozen
      have fr0 := fr 0
      have fr1 := fr 1
      clear hB hB2 rd rr fr
      go_wp2_with fail
      have sx : Ext (fun q => q = w.heap.size + 1) wr ((wr.setCell ⟨w.heap.size + 1, 0, none⟩ (.slice a0 n0 c0)).setCell ⟨w.heap.size + 1, 1, none⟩ (.slice a' n1 c')) := Ext.setCell (S := fun q => q = w.heap.size + 1) (Ext.setCell (S := fun q => q = w.heap.size + 1) (Ext.refl _ wr) (p := ⟨w.heap.size + 1, 0, none⟩) (.inr rfl) _) (p := ⟨w.heap.size + 1, 1, none⟩) (.inr rfl) _
      refine bodyPost_ret (v := .agg #[.slice a0 n0 c0, .slice a' n1 c']) (by simp [results, Tryz.results116, go_sem, z0, z1]) rfl (fin_ hQ ⟨a', c', rfl, (RD.out.ext sx (fun k hk => by omega)).t, KW.out.then_ sx (fun q hq h => by omega)⟩)
end Go.Proofs.YtkapldpmjkdmcaaGreat
