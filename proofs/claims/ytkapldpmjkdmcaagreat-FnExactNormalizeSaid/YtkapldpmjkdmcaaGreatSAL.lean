/- The program's types of expressions: other operations. -/
import Derived.Test.YtkapldpmjkdmcaaGreatSAJ
import Derived.Test.YtkapldpmjkdmcaaGreatSAK
import Derived.Test.YtkapldpmjkdmcaaGreatSAE
import Derived.Test.YtkapldpmjkdmcaaGreatSAH
import Derived.Test.YtkapldpmjkdmcaaGreatSAG
import Derived.Test.YtkapldpmjkdmcaaGreatSAD
import Derived.Test.YtkapldpmjkdmcaaGreatShelf
import Derived.Test.YtkapldpmjkdmcaaGreatSAA
import Derived.Deep.RegionHeld3
import Derived.Maps.RangeWalk
import Derived.Test.YtkapldpmjkdmcaaGreatSAB
import Derived.Test.YtkapldpmjkdmcaaGreatSAI
import Derived.StillTailTactics
namespace Go.Proofs.YtkapldpmjkdmcaaGreat
open Go.RowKit

theorem simple_neg {ds : List DeclL} {sg : List SigL} (hok : sigsOk ds sg = true) {op num : Int} {tys : List Int} {i : Nat} (hi : i < tys.length) (h : iAt tys i < 0) : simpleL ds sg op num tys = -1 := by
  obtain ⟨ht, _, _, hs⟩ := sigsOk_parts hok
  have key : ∀ xs : List Int, (∀ k, k < xs.length → 0 ≤ iAt xs k) → tys ≠ xs := fun xs hx e => by
    subst e
    have := hx i hi
    omega
  have k2 : ∀ k : Nat, k < 2 → 0 ≤ iAt [0, 0] k := fun k hk => by
    rcases (show k = 0 ∨ k = 1 by omega) with rfl | rfl <;> simp [iAt]
  have k1 : ∀ k : Nat, k < 1 → 0 ≤ iAt [0] k := fun k hk => by
    obtain rfl : k = 0 := by omega
    simp [iAt]
  unfold simpleL
  split
  · exact if_neg (fun h => key [] (fun k hk => absurd hk (by simp)) h.1)
  split
  · exact if_neg (fun h => key [0, 0] k2 h.2)
  split
  · exact if_neg (fun h => key [0] k1 h.2)
  split
  · refine if_neg (fun h' => ?_)
    obtain ⟨_, h2, h3, h4⟩ := h'
    obtain ⟨g1, g2, g3⟩ := isArr_parts h3
    rcases (show i = 0 ∨ i = 1 by omega) with rfl | rfl
    · omega
    · have := isT_iff.1 (declOk_arrow (typesOk_decl ht (k := (iAt tys 0).toNat - 1) (by omega)) g3).1
      omega
  split
  · exact if_neg (fun h' => key _ (fun k hk => (allT_at (conFieldsL_ok ht num).2 hk).1) h'.2)
  split
  · refine if_neg (fun h' => key _ (fun k hk => ?_) h'.2.2)
    exact (allT_at (sigOk_parts (hs _ (by omega))).2.1 hk).1
  split
  · refine if_neg (fun h' => key _ (fun k hk => ?_) h'.2.2.2)
    have hk2 : k < (sgAt sg num.toNat).params.length := by rw [List.length_take] at hk; omega
    have h5 := (allT_at (sigOk_parts (hs num.toNat (by omega))).2.1 hk2).1
    rw [List.length_take] at hk
    have e : iAt ((sgAt sg num.toNat).params.take ((sgAt sg num.toNat).params.length - 1)) k = iAt (sgAt sg num.toNat).params k := by simp [iAt, List.getD, show k < (sgAt sg num.toNat).params.length - 1 by omega, List.getElem?_eq_getElem hk2]
    rw [e]; exact h5
  · rfl

section
variable (ds : List DeclL) (sg : List SigL) (hok : sigsOk ds sg = true)
include hok

theorem implSimple (op num : Int) (hnum : fitN op num) (tys : List Int) (D : Nat → Prop) (a0 : Option Addr) (n0 c0 : Nat) (a1 : Option Addr) (n1 c1 : Nat) (a : Option Addr) (n c : Nat) (E : Nat → Prop) (w : World) (hp : SR w D ds sg a0 n0 c0 a1 n1 c1) (h : IntsL w E a n tys) (hn : n ≤ 1049576) :
    Calls Tryz.prog 162 #[.agg #[.slice a0 n0 c0, .slice a1 n1 c1], .int .i64 op, .int .i64 num, .slice a n c] w (SimR ds sg op num tys w) := by
  by_cases hr : op < 0 ∨ 13 < op ∨ op = 7 ∨ op = 8 ∨ op = 12 ∨ op = 13
  · exact implSim_other ds sg hok op hr num tys D a0 n0 c0 a1 n1 c1 a n c E w hp h hn
  · rcases (show op = 0 ∨ op = 1 ∨ op = 2 ∨ op = 3 ∨ op = 4 ∨ op = 5 ∨ op = 6 ∨ op = 9 ∨ op = 10 ∨ op = 11 by omega) with rfl | rfl | rfl | rfl | rfl | rfl | rfl | rfl | rfl | rfl
    · exact implSim_0 ds sg hok num tys D a0 n0 c0 a1 n1 c1 a n c E w hp h hn
    · exact implSim_1 ds sg hok num tys D a0 n0 c0 a1 n1 c1 a n c E w hp h hn
    · exact implSim_2 ds sg hok num tys D a0 n0 c0 a1 n1 c1 a n c E w hp h hn
    · exact implSim_3 ds sg hok num tys D a0 n0 c0 a1 n1 c1 a n c E w hp h hn
    · exact implSim_4 ds sg hok num tys D a0 n0 c0 a1 n1 c1 a n c E w hp h hn
    · exact implSim_5 ds sg hok num tys D a0 n0 c0 a1 n1 c1 a n c E w hp h hn
    · exact implSim_6 ds sg hok num tys D a0 n0 c0 a1 n1 c1 a n c E w hp h hn hnum.1 hnum.2
    · exact implSim_9 ds sg hok num tys D a0 n0 c0 a1 n1 c1 a n c E w hp h hn
    · exact implSim_10 ds sg hok num tys D a0 n0 c0 a1 n1 c1 a n c E w hp h hn
    · exact implSim_11 ds sg hok num tys D a0 n0 c0 a1 n1 c1 a n c E w hp h hn

set_option maxRecDepth 100000 in
set_option maxHeartbeats 4000000 in
theorem implTy_other (op : Int) (hop : op ≠ 12 ∧ op ≠ 13 ∧ op ≠ 7 ∧ op ≠ 8) (num : Int) (hnum : fitN op num) (es : List ExprL) (IH0 : ∀ j, j < es.length → TyI ds sg (eAt es j)) : TyI ds sg (.mk op num es) := by
  intro a0 n0 c0 a1 n1 c1 v vars a n c w base D hp hv h hD hb hlen hall
  refine calls_k fun Q hQ => ?_
  change Rd w D (encExprs es) _ at h
  rw [nE] at hlen
  simp only [ExprL.op, ExprL.num]
  obtain ⟨av, cv, rfl, hvc, hvo⟩ := hv.slice
  have VBL := Lib.hid hv.lt
  have ht := (sigsOk_parts hok).1
  have hf := Few.of_ok ht
  have hn0 : n0 ≤ 4 := by have := (decls_at hp.1).1; have := typesOk_len ht; omega
  have hvl : vars.length ≤ 1049576 := by omega
  have K0 := (Keep.al w (.cells #[.slice a0 n0 c0, .slice a1 n1 c1] 130)).trans (Keep.al _ (.cells #[.int .i64 op, .int .i64 num, .slice a n c] 58))
  have R0 := (rowOf w #[.slice a0 n0 c0, .slice a1 n1 c1] 130).alloc (.cells #[.int .i64 op, .int .i64 num, .slice a n c] 58)
  have R1 := rowOf (w.alloc (.cells #[.slice a0 n0 c0, .slice a1 n1 c1] 130)) #[.int .i64 op, .int .i64 num, .slice a n c] 58
  simp only [World.size_alloc] at R1
  have hv0 := hv.k K0
  have KT := Lib.hid (Keep.to (S := fun r => (Value.slice av vars.length cv).ownBlock = some r) K0)
  obtain ⟨e1, hnc, hnm, hat⟩ := exprs_at h
  have HL := Lib.hid e1
  have HA := Lib.hid hat
  have hn30 : n ≤ 262394 := by have := nEs_len es; omega
  have HOK := Lib.hid hok
  have HAll := Lib.hid hall
  have HLen := Lib.hid hlen
  have HT := Lib.hid ht
  have HD := Lib.hid hD
  have IH := Lib.hid IH0
  have HV := Lib.hid hv
  have HVO := Lib.hid hvo
  have HNUM := Lib.hid hnum
  clear e1 hat hok hall ht IH0 hD hv hvo hnum
  have HP := Lib.hid hp
  have HB := Lib.hid hb
  clear hp hb
  have V0 := Lib.hid (tyE_simple ds sg vars num es hop)
  have o12 : (op == 12) = false := by simp; omega
  have o13 : (op == 13) = false := by simp; omega
  have o7 : (op == 7) = false := by simp; omega
  have o8 : (op == 8) = false := by simp; omega
  have TL := Lib.hid (tyEs_len ds sg vars es)
  have TA := Lib.hid (fun i (hi : i < es.length) => tyEs_at ds sg vars (ks := es) hi)
  have SG := Lib.hid (fun i => simple_neg (ds := ds) (sg := sg) HOK.out (op := op) (num := num) (tys := tyEs ds sg vars es) (i := i))
  have TR := Lib.hid (fun (e : ExprL) => ty_ge HOK.out e HAll.out)
  have hkz : w.heap.size + 2 = ((w.alloc (.cells #[.slice a0 n0 c0, .slice a1 n1 c1] 130)).alloc (.cells #[.int .i64 op, .int .i64 num, .slice a n c] 58)).heap.size := by simp
  have HKZ := Lib.hid hkz
  have nsD : Hid (∀ q, D q → ¬ (Value.slice av vars.length cv).ownBlock = some q) := fun q hq e => by have := (VBL.out _ e).1; have := HD.out _ hq; omega
  clear hop hkz
  go_enter Tryz.func117, Tryz.ntmps117
  go_wp2_with (at_make; go_loud (refine wpList_makeN _ rfl _ _ 52 rfl 3 (.int .i64 0) #[.int .i64 0] 1 8 Tryz.underlying52 (by kernel_rfl) rfl rfl n rfl rfl (by omega) (by omega) ?_; intro w1 hrow hk1 hsz; have hsz2 : w1.heap.size = w.heap.size + 3 := (by rw [hsz, ← HKZ.out]); have hrow2 : w1.rowIs (w.heap.size + 2) 3 n (fun _ => .int .i64 0) := (by rw [HKZ.out]; have h2 := hrow; rw [Nat.mul_one] at h2; exact h2.congr (fun i hi => by simp [Nat.mod_one])); have R0' := Lib.hid (row_ext R0 hk1 (fun h => h)); have R1' := Lib.hid (row_ext R1 hk1 (fun h => h)); have KT1 := Lib.hid (KT.out.trans (Keep.to (S := fun r => (Value.slice av vars.length cv).ownBlock = some r) hk1)); have HV1 := Lib.hid (hv0.k hk1); have HROW := Lib.hid hrow2; have HSZ := Lib.hid hsz2; clear hrow hrow2 hsz hsz2 K0 hk1 hv0 R0 R1; have y0 := R1'.out.cell (i := 0) (by simp); have y1 := R1'.out.cell (i := 1) (by simp); have y2 := R1'.out.cell (i := 2) (by simp); simp at y0 y1 y2))
  go_loopw [163] (fun iv wr => ∃ (j : Nat) (f : Nat → Value), j ≤ n ∧ iv = .int .i64 j ∧ Hid (wr.rowIs (w.heap.size + 2) 3 n f ∧ ∀ l, l < j → f l = .int .i64 (iAt (tyEs ds sg vars es) l)) ∧ Hid (VR wr base (.slice av vars.length cv) vars) ∧ Hid (Ext (fun q => (Value.slice av vars.length cv).ownBlock = some q ∨ q = w.heap.size + 2) w1 wr)) (fun iv _ => n - (intOf iv).toNat)
  case atStart => exact ⟨0, _, Nat.zero_le _, rfl, ⟨HROW.out, fun l hl => absurd hl (by omega)⟩, HV1.out, Ext.refl _ _⟩
  case round =>
    obtain ⟨j, f, hj, rfl, hI, hV, hK⟩ := hrel
    have KE := Lib.hid (Ext.then_ KT1.out hK.out (fun q hq h => by rcases h with h | h; exact h; omega))
    have RS := row_ext R0'.out hK.out (fun e => by rcases e with e | e; (have := (VBL.out _ e).2; omega); omega)
    have RE := row_ext R1'.out hK.out (fun e => by rcases e with e | e; (have := (VBL.out _ e).2; omega); omega)
    have hsw : w.heap.size + 3 ≤ wr.heap.size := by have := hK.out.size; have := HSZ.out; omega
    have HSW := Lib.hid hsw
    by_cases hlt : j < n
    · have HJ : Hid (j < es.length) := by have := HL.out; show _ < _; omega
      obtain ⟨b, o, rfl, hd, a2, n2, c2, d0, d1, d2, r2⟩ := HA.out j hlt
      have nsb : ¬ (Value.slice av vars.length cv).ownBlock = some b := nsD.out _ hd
      have g0 := (KE.out.cell (World.block_lt_of_cell? _ _ d0) nsb).trans d0
      have g1 := (KE.out.cell (World.block_lt_of_cell? _ _ d1) nsb).trans d1
      have g2 := (KE.out.cell (World.block_lt_of_cell? _ _ d2) nsb).trans d2
      have KB := (Keep.al wr (.cells #[.int .i64 (eAt es j).op, .int .i64 (eAt es j).num, .slice a2 n2 c2] 58))
      have KX := Lib.hid (KE.out.trans (Keep.to KB))
      have qp := Lib.hid (HP.out.ext KX.out nsD.out)
      have qv := Lib.hid (hV.out.k (Keep.al wr (.cells #[.int .i64 (eAt es j).op, .int .i64 (eAt es j).num, .slice a2 n2 c2] 58)))
      have qe := Lib.hid (r2.ext KX.out nsD.out)
      have hbw : base ≤ wr.heap.size := by have := HB.out; omega
      have HBW := Lib.hid hbw
      have hbb : Hid (vars.length + 4 * nE (eAt es j) ≤ 1049576) := by have := nE_le es HJ.out; have := HLen.out; show _ ≤ _; omega
      have x0 := RS.cell (i := 0) (by simp)
      have x1 := RS.cell (i := 1) (by simp)
      have x0b := (RS.alloc (.cells #[.int .i64 (eAt es j).op, .int .i64 (eAt es j).num, .slice a2 n2 c2] 58)).cell (i := 0) (by simp)
      have x1b := (RS.alloc (.cells #[.int .i64 (eAt es j).op, .int .i64 (eAt es j).num, .slice a2 n2 c2] 58)).cell (i := 1) (by simp)
      simp only [Array.getD] at x0b x1b
      simp at x0 x1
      have HROW2 := Lib.hid (hI.out.1.alloc (.cells #[.int .i64 (eAt es j).op, .int .i64 (eAt es j).num, .slice a2 n2 c2] 58))
      have HK2 := Lib.hid (hK.out.trans (Keep.to KB))
      obtain ⟨z, hz⟩ : ∃ z, tyE ds sg vars (eAt es j) = z := ⟨_, rfl⟩
      have HZ := Lib.hid hz
      have HT1 : Hid (iAt (tyEs ds sg vars es) j = z) := by show _ = _; rw [TA.out j HJ.out, hz]
      clear d0 d1 d2 r2 hz KB hbw RS RE
      go_wp2_with fail
      refine (IH.out j HJ.out _ _ _ _ _ _ _ vars _ _ _ _ base D qp.out qv.out qe.out HD.out (by simp; have := HBW.out; omega) hbb.out HAll.out).mono ?_
      rw [HZ.out]
      rintro e w2 ⟨rfl, hv2, x2⟩
      have hrw := row_ext HROW2.out x2 (fun e => by have := (VBL.out _ e).2; omega)
      have fz : w2.frozen? ⟨w.heap.size + 1 + 1, j, none⟩ = false := hrw.frozen j
      have cz : w2.cell? ⟨w.heap.size + 1 + 1, j, none⟩ = some (f j) := hrw.cell hlt
      have hrs := Lib.hid (hrw.set j (.int .i64 z))
      have hs2 : Ext (fun q => q = w.heap.size + 2) w2 (w2.setCell ⟨w.heap.size + 1 + 1, j, none⟩ (.int .i64 z)) := Ext.setCell (S := fun q => q = w.heap.size + 2) (Ext.refl _ w2) (p := ⟨w.heap.size + 1 + 1, j, none⟩) (.inr rfl) _
      have K2 := Lib.hid ((HK2.out.trans (x2.mono (fun _ _ h => .inl h))).trans (hs2.mono (fun _ _ h => .inr h)))
      have KF := Lib.hid ((KX.out.trans x2).then_ hs2 (fun q hq h => by omega))
      have HV2 := Lib.hid (hv2.ext hs2 (fun g hg h => by have := (VBL.out _ hg).2; omega))
      clear hrw hs2 x2 hv2 x0 x1 x0b x1b g0 g1 g2
      have hzr := TR.out (eAt es j)
      rw [HZ.out] at hzr
      by_cases hz0 : z < 0
      · have V : Hid (tyE ds sg vars (.mk op num es) = -1) := by show _ = _; rw [V0.out]; exact SG.out j (by rw [TL.out]; exact HJ.out) (by rw [HT1.out]; exact hz0)
        go_wp2_with fail
        exact fin_ hQ ⟨ret_i V.out.symm, HV2.out, KF.out⟩
      · go_wp2_with fail
        go_roundw
        case rel => exact ⟨j + 1, _, by omega, by go_num, ⟨hrs.out, fun l hl => by
          by_cases hlj : l = j
          · rw [hlj, if_pos rfl, HT1.out]
          · rw [if_neg hlj]; exact hI.out.2 l (by omega)⟩, HV2.out, K2.out⟩
        case measure => simp [intOf]; omega
    · have hjn : j = n := by omega
      have hIL : IntsL wr (fun _ => True) (some ⟨w.heap.size + 2, 0, none⟩) n (tyEs ds sg vars es) := ⟨by rw [TL.out]; exact HL.out, fun _ => ⟨_, _, rfl, trivial, fun i hi => by
        rw [Nat.zero_add]; exact (hI.out.1.cell hi).trans (congrArg some (hI.out.2 i (by omega)))⟩⟩
      have x0 := RS.cell (i := 0) (by simp)
      have x1 := RS.cell (i := 1) (by simp)
      have y0 := RE.cell (i := 0) (by simp)
      have y1 := RE.cell (i := 1) (by simp)
      simp at x0 x1 y0 y1
      have qp := Lib.hid (HP.out.ext KE.out nsD.out)
      have HIL := Lib.hid hIL
      obtain ⟨u, hu⟩ : ∃ u, simpleL ds sg op num (tyEs ds sg vars es) = u := ⟨_, rfl⟩
      have HU := Lib.hid hu
      have SRG := Lib.hid (simple_range HOK.out op num (tyEs ds sg vars es))
      have V : Hid (tyE ds sg vars (.mk op num es) = u) := by show _ = _; rw [V0.out, hu]
      clear hu hIL hI RS RE
      go_wp2_with fail
      refine (implSimple ds sg HOK.out op num HNUM.out _ D _ _ _ _ _ _ _ _ _ _ _ qp.out HIL.out (by omega)).mono ?_
      rintro e w2 ⟨t, ok, rfl, hok, ht, p2⟩
      rw [HU.out] at hok ht
      have KF := Lib.hid (KE.out.trans (Keep.to p2))
      have HV2 := Lib.hid (hV.out.k p2)
      by_cases hu0 : 0 ≤ u
      · obtain rfl : ok = true := by rw [hok]; exact decide_eq_true hu0
        obtain rfl : t = u := ht rfl
        clear hok ht
        go_wp2_with fail
        exact fin_ hQ ⟨ret_i V.out.symm, HV2.out, KF.out⟩
      · obtain rfl : ok = false := by rw [hok]; exact decide_eq_false hu0
        have V2 : Hid (tyE ds sg vars (.mk op num es) = -1) := by
          show _ = _
          rw [V.out]
          rcases SRG.out with h | h
          · rw [HU.out] at h; exact h
          · rw [HU.out] at h; have := isT_iff.1 h; omega
        clear hok ht
        go_wp2_with fail
        exact fin_ hQ ⟨ret_i V2.out.symm, HV2.out, KF.out⟩
end
end Go.Proofs.YtkapldpmjkdmcaaGreat
/- The program's types of expressions: all operations; the signatures of a program. -/
namespace Go.Proofs.YtkapldpmjkdmcaaGreat
open Go.RowKit

section
variable (ds : List DeclL) (sg : List SigL) (hok : sigsOk ds sg = true)
include hok
theorem implTypeOf_n (N : Nat) : ∀ e : ExprL, nE e < N → allE fitN e → TyI ds sg e := by
  induction N with
  | zero => intro e h; omega
  | succ N ih =>
  intro e hN ha
  obtain ⟨op, num, es⟩ := e
  have IH : ∀ j, j < es.length → TyI ds sg (eAt es j) := fun j hj => ih _ (by have := nE_le es hj; rw [nE] at hN; omega) (allEs_at ha.2 hj)
  by_cases h12 : op = 12
  · subst h12; exact implTy_12 ds sg hok num ha.1 es IH
  by_cases h13 : op = 13
  · subst h13; exact implTy_13 ds sg hok num ha.1 es IH
  by_cases h7 : op = 7
  · subst h7; exact implTy_7 ds sg hok num ha.1 es IH
  by_cases h8 : op = 8
  · subst h8; exact implTy_8 ds sg hok num ha.1 es IH
  exact implTy_other ds sg hok op ⟨h12, h13, h7, h8⟩ num ha.1 es IH
theorem implTypeOf0 (e : ExprL) (ha : allE fitN e) : TyI ds sg e := implTypeOf_n ds sg hok _ e (Nat.lt_succ_self _) ha
end
end Go.Proofs.YtkapldpmjkdmcaaGreat
/- The signatures of a program, by the program. -/
namespace Go.Proofs.YtkapldpmjkdmcaaGreat
open Go.RowKit

set_option maxRecDepth 100000 in
set_option maxHeartbeats 400000 in
theorem implSigsOf (fs : List FuncL) (a0 : Option Addr) (n0 c0 : Nat) (a1 : Option Addr) (n1 c1 : Nat) (D1 : Nat → Prop) (w : World) (r1 : Rd w D1 (encFuncs fs) (.slice a1 n1 c1)) (hn4 : n1 ≤ 4) :
    Calls Tryz.prog 116 #[.agg #[.slice a0 n0 c0, .slice a1 n1 c1]] w fun e w' => ∃ a' c', e = .returned (.agg #[.slice a0 n0 c0, .slice a' n1 c']) ∧ Rd w' (fun _ => True) (encSigs (fs.map sigF)) (.slice a' n1 c') ∧ Keep w w' := by
  refine calls_k fun Q hQ => ?_
  obtain ⟨e1, hnc, hm, hat⟩ := funcs_at r1
  have HL := Lib.hid e1
  have HA := Lib.hid hat
  have HLM : Hid ((fs.map sigF).length = n1) := by show _ = _; simp [e1]
  have ER : Hid (∀ j, j < n1 → (fs.map sigF).take (j + 1) = (fs.map sigF).take j ++ [sigF (fAt fs j)]) := fun j hj => by
    have hj' : j < (fs.map sigF).length := by have := HLM.out; omega
    rw [List.take_succ_eq_append_getElem hj', ← sgAt_get hj', sgAt_sigF _ (by simpa using hj')]
  clear e1 hat
  go_enter Tryz.func116, Tryz.ntmps116
  have K0 := (((Keep.al w (.cells #[.slice a0 n0 c0, .slice a1 n1 c1] 44)).trans (Keep.al _ (.cells #[.slice none 0 0, .slice none 0 0] 130))).trans (Keep.al _ (.cells #[.slice a0 n0 c0, .slice none 0 0] 130)))
  have RB := rowOf ((w.alloc (.cells #[.slice a0 n0 c0, .slice a1 n1 c1] 44)).alloc (.cells #[.slice none 0 0, .slice none 0 0] 130)) #[.slice a0 n0 c0, .slice none 0 0] 130
  have RR := (rowOf (w.alloc (.cells #[.slice a0 n0 c0, .slice a1 n1 c1] 44)) #[.slice none 0 0, .slice none 0 0] 130).alloc (.cells #[.slice a0 n0 c0, .slice none 0 0] 130)
  simp only [World.size_alloc] at RB RR
  have HRB := Lib.hid RB
  have HRR := Lib.hid RR
  have HK0 := Lib.hid K0
  have HW3 : Hid ((((w.alloc (.cells #[.slice a0 n0 c0, .slice a1 n1 c1] 44)).alloc (.cells #[.slice none 0 0, .slice none 0 0] 130)).alloc (.cells #[.slice a0 n0 c0, .slice none 0 0] 130)).heap.size = w.heap.size + 3) := by show _ = _; simp
  clear RB RR K0
  go_wp2_with fail
  go_loopw [12] (fun iv wr => ∃ (j : Nat) (sv : Value), j ≤ n1 ∧ iv = .int .i64 j ∧ Hid (AccR wr (w.heap.size + 3) (fun k => k < w.heap.size ∨ w.heap.size + 3 ≤ k) 164 3 sv (((fs.map sigF).take j).map rowG)) ∧ Hid (wr.rowIs (w.heap.size + 2) 130 2 (fun i => (#[.slice a0 n0 c0, sv] : Array Value).getD i undef)) ∧ Hid (Ext (fun q => q = w.heap.size + 2) (((w.alloc (.cells #[.slice a0 n0 c0, .slice a1 n1 c1] 44)).alloc (.cells #[.slice none 0 0, .slice none 0 0] 130)).alloc (.cells #[.slice a0 n0 c0, .slice none 0 0] 130)) wr)) (fun iv _ => n1 - (intOf iv).toNat)
  case atStart => exact ⟨0, .slice none 0 0, Nat.zero_le _, rfl, (show AccR _ _ _ _ _ _ _ from by simpa using AccR.nil _ _ _ _ _), HRB.out, Ext.refl _ _⟩
  case round =>
    obtain ⟨j, sv, hj, rfl, hB, hR, hK⟩ := hrel
    have hs : w.heap.size + 3 ≤ wr.heap.size := by have := hK.out.size; have := HW3.out; omega
    have HS := Lib.hid hs
    have KW := Lib.hid (HK0.out.then_ hK.out (fun q hq h => by omega))
    by_cases hlt : j < n1
    · obtain ⟨b, o, rfl, hd, a3, n3, c3, a4, n4, c4, d0, d1, d2, d3, d4, r3, r4⟩ := HA.out j hlt
      have g0 := (KW.out.cell (World.block_lt_of_cell? w _ d0) (fun h => h)).trans d0
      have g1 := (KW.out.cell (World.block_lt_of_cell? w _ d1) (fun h => h)).trans d1
      have g2 := (KW.out.cell (World.block_lt_of_cell? w _ d2) (fun h => h)).trans d2
      have g3 := (KW.out.cell (World.block_lt_of_cell? w _ d3) (fun h => h)).trans d3
      have g4 := (KW.out.cell (World.block_lt_of_cell? w _ d4) (fun h => h)).trans d4
      have ka := Keep.al wr (.cells #[.slice a3 n3 c3, .int .i64 (fAt fs j).result, .int .i64 (fAt fs j).body.op, .int .i64 (fAt fs j).body.num, .slice a4 n4 c4] 60)
      have bnd := hB.out.bound
      have q3 := ((r3.lt.k KW.out).k ka).mono (D' := fun k => (fun k => k < w.heap.size ∨ w.heap.size + 3 ≤ k) k ∧ sv.ownBlock ≠ some k) (fun k hk => ⟨.inl (by omega), fun e => by have := bnd k e; omega⟩)
      have kl := Keep.al (wr.alloc (.cells #[.slice a3 n3 c3, .int .i64 (fAt fs j).result, .int .i64 (fAt fs j).body.op, .int .i64 (fAt fs j).body.num, .slice a4 n4 c4] 60)) (.cells #[.slice a3 n3 c3, .slice none 0 0, .int .i64 (fAt fs j).result] 164)
      have hX := lit_sig (wr.alloc (.cells #[.slice a3 n3 c3, .int .i64 (fAt fs j).result, .int .i64 (fAt fs j).body.op, .int .i64 (fAt fs j).body.num, .slice a4 n4 c4] 60)) (fun k => (fun k => k < w.heap.size ∨ w.heap.size + 3 ≤ k) k ∧ sv.ownBlock ≠ some k) 164 (sigF (fAt fs j)) a3 n3 c3 none 0 0 ⟨.inr (by simp; omega), fun e => by have := bnd _ e; simp at this; omega⟩ q3 (.nil 1 none 0)
      simp only [World.size_alloc, sigF] at hX
      have hO2 := (hB.out.keep ka).keep kl
      have hlr : (((fs.map sigF).take j).map rowG).length = j := by
        rw [List.length_map, List.length_take, HLM.out]; omega
      have HLR := Lib.hid hlr
      have hBB := Lib.hid (hK.out.trans (Keep.to (ka.trans kl)))
      have hR1 := hR.out.alloc (.cells #[.slice a3 n3 c3, .int .i64 (fAt fs j).result, .int .i64 (fAt fs j).body.op, .int .i64 (fAt fs j).body.num, .slice a4 n4 c4] 60)
      have hR2 := hR1.alloc (.cells #[.slice a3 n3 c3, .slice none 0 0, .int .i64 (fAt fs j).result] 164)
      have HR2 := Lib.hid hR2
      have y1 : wr.cell? ⟨w.heap.size + 1 + 1, 1, none⟩ = some sv := hR.out.cell (i := 1) (by omega)
      have y1a : (wr.alloc (.cells #[.slice a3 n3 c3, .int .i64 (fAt fs j).result, .int .i64 (fAt fs j).body.op, .int .i64 (fAt fs j).body.num, .slice a4 n4 c4] 60)).cell? ⟨w.heap.size + 1 + 1, 1, none⟩ = some sv := hR1.cell (i := 1) (by omega)
      have y1b : ((wr.alloc (.cells #[.slice a3 n3 c3, .int .i64 (fAt fs j).result, .int .i64 (fAt fs j).body.op, .int .i64 (fAt fs j).body.num, .slice a4 n4 c4] 60)).alloc (.cells #[.slice a3 n3 c3, .slice none 0 0, .int .i64 (fAt fs j).result] 164)).cell? ⟨w.heap.size + 1 + 1, 1, none⟩ = some sv := hR2.cell (i := 1) (by omega)
      clear d0 d1 d2 d3 d4 r3 r4 bnd q3 hlr ka kl hB hR1 hR2
      go_wp2_with (at_builtin; go_must (refine wpList_appR _ rfl (.tmp 17) (.tmp 23) 128 rfl (w.heap.size + 3) 164 (.agg #[.slice none 0 0, .slice none 0 0, .int .i64 0]) 3 56 Tryz.underlying128 (by kernel_rfl) rfl (by omega) (fun k => k < w.heap.size ∨ w.heap.size + 3 ≤ k) _ _ rfl hO2 _ 1 1 _ _ rfl hX (fun k _ hk => hk) (by rw [HLR.out]; omega) (by rw [HLR.out]; omega) (by simp; omega) ?_); intro v1 w10 hA2 xA sA; obtain ⟨av, nv, cv, rfl⟩ : ∃ av nv cv, v1 = .slice av nv cv := (by obtain ⟨a9, c9, e9, _⟩ := hA2.read (by omega); exact ⟨_, _, _, e9⟩); have hr10 := Lib.hid (row_ext HR2.out xA (fun (h : w.heap.size + 3 ≤ _) => by omega)); have fz : w10.frozen? ⟨w.heap.size + 1 + 1, 1, none⟩ = false := hr10.out.frozen 1; have cz : w10.cell? ⟨w.heap.size + 1 + 1, 1, none⟩ = some sv := hr10.out.cell (i := 1) (by omega); have HA2 := Lib.hid hA2; have HX10 := Lib.hid (hBB.out.then_ xA (fun q hq h => by have := HW3.out; omega)); clear hA2 xA sA)
      have hs2 : Ext (fun q => q = w.heap.size + 2) w10 (w10.setCell ⟨w.heap.size + 1 + 1, 1, none⟩ (.slice av nv cv)) := Ext.setCell (S := fun q => q = w.heap.size + 2) (Ext.refl _ w10) (p := ⟨w.heap.size + 1 + 1, 1, none⟩) (.inr rfl) _
      go_roundw
      case rel => exact ⟨j + 1, .slice av nv cv, by omega, by go_num, by
        show AccR _ _ _ _ _ _ _
        rw [ER.out j hlt, List.map_append]; exact HA2.out.ext hs2 (fun k _ hk => by rcases hk with (hk | hk) | hk <;> omega), by
        refine (hr10.out.set 1 (.slice av nv cv)).congr (fun i hi => ?_)
        rcases (show i = 0 ∨ i = 1 by omega) with rfl | rfl <;> rfl, HX10.out.trans hs2⟩
      case measure => simp [intOf]; omega
    · have HJ : Hid (j = n1) := by show _ = _; omega
      have hB2 := hB.out
      rw [List.take_of_length_le (by have := HLM.out; have := HJ.out; omega)] at hB2
      obtain ⟨a', c', e, _, _, rd⟩ := hB2.read (by omega)
      rw [List.length_map, HLM.out] at e
      subst e
      have RD := Lib.hid rd
      have y0 : wr.cell? ⟨w.heap.size + 1 + 1, 0, none⟩ = some (.slice a0 n0 c0) := hR.out.cell (i := 0) (by omega)
      have y1 : wr.cell? ⟨w.heap.size + 1 + 1, 1, none⟩ = some (.slice a' n1 c') := hR.out.cell (i := 1) (by omega)
      have rr := row_ext HRR.out hK.out (fun h => by omega)
      have z0 := rr.cell (i := 0) (by simp)
      have z1 := rr.cell (i := 1) (by simp)
      simp at z0 z1
      have fr : ∀ i, wr.frozen? ⟨w.heap.size + 1, i, none⟩ = false := rr.frozen
      have fr0 := fr 0
      have fr1 := fr 1
      clear hB hB2 rd rr fr
      go_wp2_with fail
      have sx : Ext (fun q => q = w.heap.size + 1) wr ((wr.setCell ⟨w.heap.size + 1, 0, none⟩ (.slice a0 n0 c0)).setCell ⟨w.heap.size + 1, 1, none⟩ (.slice a' n1 c')) := Ext.setCell (S := fun q => q = w.heap.size + 1) (Ext.setCell (S := fun q => q = w.heap.size + 1) (Ext.refl _ wr) (p := ⟨w.heap.size + 1, 0, none⟩) (.inr rfl) _) (p := ⟨w.heap.size + 1, 1, none⟩) (.inr rfl) _
      refine bodyPost_ret (v := .agg #[.slice a0 n0 c0, .slice a' n1 c']) (by simp [results, Tryz.results116, go_sem, z0, z1]) rfl (fin_ hQ ⟨a', c', rfl, (RD.out.ext sx (fun k hk => by omega)).t, KW.out.then_ sx (fun q hq h => by omega)⟩)
end Go.Proofs.YtkapldpmjkdmcaaGreat
/- TypeOf of both packages. -/
namespace Go.Proofs.YtkapldpmjkdmcaaGreat
open Go.RowKit

/-- What both functions TypeOf return. -/
def typeTop (ds : List DeclL) (fs : List FuncL) (vars : List Int) (e : ExprL) : Int :=
  if sigsOk ds (fs.map sigF) = true ∧ ¬ nodesL e.kids < 0 ∧ allT ds.length vars = true then tyE ds (fs.map sigF) vars e else -1

theorem cloneInts (a : Option Addr) (n c : Nat) (xs : List Int) (D : Nat → Prop) (w : World) (h : IntsL w D a n xs) (hn : n ≤ 1052000) :
    Calls Tryz.prog 54 #[.slice a n c] w fun e w' => ∃ v', e = .returned v' ∧ VR w' w.heap.size v' xs ∧ Keep w w' := by
  obtain ⟨h1, h2⟩ := h
  rcases Nat.eq_zero_or_pos n with h0 | h0
  · subst h0
    have hx : xs = [] := List.eq_nil_of_length_eq_zero h1
    subst hx
    rcases a with _ | a
    · refine (Tryz.slices_Clone_int_nil 0 c w).mono ?_
      rintro e w' ⟨rfl, rfl⟩
      exact ⟨_, rfl, World.ownsRow_nil _ _ _ _, Ext.refl _ _⟩
    · refine (Tryz.slices_Clone_int_zero a c w).mono ?_
      rintro e w' ⟨v', rfl, ho, _, hb⟩
      exact ⟨_, rfl, ho, Ext.of_below hb⟩
  · obtain ⟨b, o, rfl, _, hc⟩ := h2 h0
    refine (Tryz.slices_Clone_int b o n c xs w (by omega) (by omega) (fun j hj => hc j (by omega))).mono ?_
    rintro e w' ⟨v', rfl, ho, _, hb⟩
    rw [← h1, List.take_length] at ho
    exact ⟨_, rfl, ho, Ext.of_below hb⟩
/- BY gen_tyi12 -/

set_option maxRecDepth 100000 in
set_option maxHeartbeats 4000000 in
theorem implTypeOfTop (ds : List DeclL) (fs : List FuncL) (a0 : Option Addr) (n0 c0 : Nat) (a1 : Option Addr) (n1 c1 : Nat) (av : Option Addr) (nv cv : Nat) (vars : List Int) (op num : Int) (es : List ExprL) (a : Option Addr) (n c : Nat) (D0 D1 D2 D3 : Nat → Prop) (w : World)
    (r0 : Rd w D0 (encDecls ds) (.slice a0 n0 c0)) (r1 : Rd w D1 (encFuncs fs) (.slice a1 n1 c1)) (hv : Rd w D2 (encInts vars) (.slice av nv cv)) (hnv : nv ≤ 1048576) (h : Rd w D3 (encExprs es) (.slice a n c)) (ha : allE fitN (.mk op num es)) :
    Calls Tryz.prog 63 #[.agg #[.slice a0 n0 c0, .slice a1 n1 c1], .slice av nv cv, .agg #[.int .i64 op, .int .i64 num, .slice a n c]] w fun r w' => r = .returned (.int .i64 (typeTop ds fs vars (.mk op num es))) ∧ Keep w w' := by
  refine calls_k fun Q hQ => ?_
  have K0 := Lib.hid ((Keep.al w (.cells #[.slice a0 n0 c0, .slice a1 n1 c1] 44)).trans (Keep.al _ (.cells #[.int .i64 op, .int .i64 num, .slice a n c] 58)))
  have R0 := Lib.hid ((rowOf w #[.slice a0 n0 c0, .slice a1 n1 c1] 44).alloc (.cells #[.int .i64 op, .int .i64 num, .slice a n c] 58))
  have R1 := rowOf (w.alloc (.cells #[.slice a0 n0 c0, .slice a1 n1 c1] 44)) #[.int .i64 op, .int .i64 num, .slice a n c] 58
  simp only [World.size_alloc] at R1
  replace R1 := Lib.hid R1
  have hvl : nv = vars.length := (ints_at hv).1.symm
  have HVL := Lib.hid hvl
  have V0 : Hid (typeTop ds fs vars (.mk op num es) = if sigsOk ds (fs.map sigF) = true ∧ ¬ nodesL es < 0 ∧ allT n0 vars = true then tyE ds (fs.map sigF) vars (.mk op num es) else -1) := by show _ = _; rw [typeTop, (decls_at r0).1]; rfl
  clear hvl
  by_cases hs : sigsOk ds (fs.map sigF) = true
  case neg =>
    have HS : Hid (sigsOk ds (fs.map sigF) = false) := by show _ = _; simpa using hs
    have V : Hid (typeTop ds fs vars (.mk op num es) = -1) := by show _ = _; rw [V0.out, if_neg (fun h => hs h.1)]
    clear hs
    go_enter Tryz.func63, Tryz.ntmps63
    go_wp2_with fail
    refine (implValidSigs ds fs _ _ _ _ _ _ _ _ _ (r0.k K0.out) (r1.k K0.out)).mono ?_
    rw [HS.out]
    rintro e w1 ⟨rfl, p1⟩
    have KX := Lib.hid p1
    have x0 := (row_ext R0.out KX.out (fun h => h)).cell (i := 0) (by simp)
    have x1 := (row_ext R0.out KX.out (fun h => h)).cell (i := 1) (by simp)
    have y0 := (row_ext R1.out KX.out (fun h => h)).cell (i := 0) (by simp)
    have y1 := (row_ext R1.out KX.out (fun h => h)).cell (i := 1) (by simp)
    have y2 := (row_ext R1.out KX.out (fun h => h)).cell (i := 2) (by simp)
    simp at x0 x1 y0 y1 y2
    have KE := Lib.hid (K0.out.trans p1)
    clear p1
    go_wp2_with fail
    exact fin_ hQ ⟨ret_i V.out.symm, KE.out⟩
  have HS := Lib.hid hs
  by_cases hl : nodesL es < 0
  case pos =>
    have V : Hid (typeTop ds fs vars (.mk op num es) = -1) := by show _ = _; rw [V0.out, if_neg (fun h => h.2.1 hl)]
    clear hs
    go_enter Tryz.func63, Tryz.ntmps63
    go_wp2_with fail
    refine (implValidSigs ds fs _ _ _ _ _ _ _ _ _ (r0.k K0.out) (r1.k K0.out)).mono ?_
    rw [HS.out]
    rintro e w1 ⟨rfl, p1⟩
    have KX := Lib.hid p1
    have x0 := (row_ext R0.out KX.out (fun h => h)).cell (i := 0) (by simp)
    have x1 := (row_ext R0.out KX.out (fun h => h)).cell (i := 1) (by simp)
    have y0 := (row_ext R1.out KX.out (fun h => h)).cell (i := 0) (by simp)
    have y1 := (row_ext R1.out KX.out (fun h => h)).cell (i := 1) (by simp)
    have y2 := (row_ext R1.out KX.out (fun h => h)).cell (i := 2) (by simp)
    simp at x0 x1 y0 y1 y2
    have KE := Lib.hid (K0.out.trans p1)
    clear p1
    go_wp2_with fail
    refine (implNodesOf op num es _ _ _ _ _ (h.k KE.out)).mono ?_
    rintro e w2 ⟨rfl, p2⟩
    clear x0 x1 y0 y1 y2
    have KE2 := Lib.hid (KE.out.trans p2)
    replace KX := Lib.hid (KX.out.trans p2)
    clear p2
    have x0 := (row_ext R0.out KX.out (fun h => h)).cell (i := 0) (by simp)
    have x1 := (row_ext R0.out KX.out (fun h => h)).cell (i := 1) (by simp)
    have y0 := (row_ext R1.out KX.out (fun h => h)).cell (i := 0) (by simp)
    have y1 := (row_ext R1.out KX.out (fun h => h)).cell (i := 1) (by simp)
    have y2 := (row_ext R1.out KX.out (fun h => h)).cell (i := 2) (by simp)
    simp at x0 x1 y0 y1 y2
    go_wp2_with fail
    exact fin_ hQ ⟨ret_i V.out.symm, KE2.out⟩
  have HNE : Hid (nEs es + 1 ≤ 30) := by
    show _ ≤ _
    refine Decidable.byContradiction fun hc => hl ?_
    rw [nodesL_no hc]; omega
  by_cases hat : allT n0 vars = true
  case neg =>
    have HAT : Hid (allT n0 vars = false) := by show _ = _; simpa using hat
    have V : Hid (typeTop ds fs vars (.mk op num es) = -1) := by show _ = _; rw [V0.out, if_neg (fun h => hat h.2.2)]
    clear hs hat
    go_enter Tryz.func63, Tryz.ntmps63
    go_wp2_with fail
    refine (implValidSigs ds fs _ _ _ _ _ _ _ _ _ (r0.k K0.out) (r1.k K0.out)).mono ?_
    rw [HS.out]
    rintro e w1 ⟨rfl, p1⟩
    have KX := Lib.hid p1
    have x0 := (row_ext R0.out KX.out (fun h => h)).cell (i := 0) (by simp)
    have x1 := (row_ext R0.out KX.out (fun h => h)).cell (i := 1) (by simp)
    have y0 := (row_ext R1.out KX.out (fun h => h)).cell (i := 0) (by simp)
    have y1 := (row_ext R1.out KX.out (fun h => h)).cell (i := 1) (by simp)
    have y2 := (row_ext R1.out KX.out (fun h => h)).cell (i := 2) (by simp)
    simp at x0 x1 y0 y1 y2
    have KE := Lib.hid (K0.out.trans p1)
    clear p1
    go_wp2_with fail
    refine (implNodesOf op num es _ _ _ _ _ (h.k KE.out)).mono ?_
    rintro e w2 ⟨rfl, p2⟩
    clear x0 x1 y0 y1 y2
    have KE2 := Lib.hid (KE.out.trans p2)
    replace KX := Lib.hid (KX.out.trans p2)
    clear p2
    have x0 := (row_ext R0.out KX.out (fun h => h)).cell (i := 0) (by simp)
    have x1 := (row_ext R0.out KX.out (fun h => h)).cell (i := 1) (by simp)
    have y0 := (row_ext R1.out KX.out (fun h => h)).cell (i := 0) (by simp)
    have y1 := (row_ext R1.out KX.out (fun h => h)).cell (i := 1) (by simp)
    have y2 := (row_ext R1.out KX.out (fun h => h)).cell (i := 2) (by simp)
    simp at x0 x1 y0 y1 y2
    go_wp2_with fail
    refine (implAllTypes _ _ _ _ _ _ vars _ _ (Rd.toInts (hv.k KE2.out)) (by omega)).mono ?_
    rw [HAT.out]
    rintro e w3 ⟨rfl, rfl⟩
    go_wp2_with fail
    exact fin_ hQ ⟨ret_i V.out.symm, KE2.out⟩
  have HAT := Lib.hid hat
  have HALL : Hid (allT ds.length vars = true) := by show _ = _; rw [(decls_at r0).1]; exact hat
  obtain ⟨z, hz⟩ : ∃ z, tyE ds (fs.map sigF) vars (.mk op num es) = z := ⟨_, rfl⟩
  have HZ := Lib.hid hz
  have V : Hid (typeTop ds fs vars (.mk op num es) = z) := by show _ = _; rw [V0.out, if_pos ⟨hs, hl, hat⟩, hz]
  clear hs hat hz
  have HA := Lib.hid ha
  have hn4 : n1 ≤ 4 := by have h1 := (sigsOk_parts HS.out).2.2.1; have h2 := (funcs_at r1).1; simp at h1; omega
  go_enter Tryz.func63, Tryz.ntmps63
  go_wp2_with fail
  refine (implValidSigs ds fs _ _ _ _ _ _ _ _ _ (r0.k K0.out) (r1.k K0.out)).mono ?_
  rw [HS.out]
  rintro e w1 ⟨rfl, p1⟩
  have KX := Lib.hid p1
  have x0 := (row_ext R0.out KX.out (fun h => h)).cell (i := 0) (by simp)
  have x1 := (row_ext R0.out KX.out (fun h => h)).cell (i := 1) (by simp)
  have y0 := (row_ext R1.out KX.out (fun h => h)).cell (i := 0) (by simp)
  have y1 := (row_ext R1.out KX.out (fun h => h)).cell (i := 1) (by simp)
  have y2 := (row_ext R1.out KX.out (fun h => h)).cell (i := 2) (by simp)
  simp at x0 x1 y0 y1 y2
  have KE := Lib.hid (K0.out.trans p1)
  clear p1
  go_wp2_with fail
  refine (implNodesOf op num es _ _ _ _ _ (h.k KE.out)).mono ?_
  rintro e w2 ⟨rfl, p2⟩
  clear x0 x1 y0 y1 y2
  have KE2 := Lib.hid (KE.out.trans p2)
  replace KX := Lib.hid (KX.out.trans p2)
  clear p2
  have x0 := (row_ext R0.out KX.out (fun h => h)).cell (i := 0) (by simp)
  have x1 := (row_ext R0.out KX.out (fun h => h)).cell (i := 1) (by simp)
  have y0 := (row_ext R1.out KX.out (fun h => h)).cell (i := 0) (by simp)
  have y1 := (row_ext R1.out KX.out (fun h => h)).cell (i := 1) (by simp)
  have y2 := (row_ext R1.out KX.out (fun h => h)).cell (i := 2) (by simp)
  simp at x0 x1 y0 y1 y2
  go_wp2_with fail
  refine (implAllTypes _ _ _ _ _ _ vars _ _ (Rd.toInts (hv.k KE2.out)) (by omega)).mono ?_
  rw [HAT.out]
  rintro e w3 ⟨rfl, rfl⟩
  have qr0 := (r0.k KE2.out).kd
  have qr1 := (r1.k KE2.out).kd
  have qv := (hv.k KE2.out).kd
  have qh := (h.k KE2.out).kd
  have pc := Ext.refl0 w2
  go_wp2_with fail
  go_region_held3 (fun w' => w'.cell? ⟨w.heap.size, 0, none⟩ = some (.slice a0 n0 c0) ∧ w'.cell? ⟨w.heap.size, 1, none⟩ = some (.slice a1 n1 c1) ∧ w'.cell? ⟨w.heap.size + 1, 0, none⟩ = some (.int .i64 op) ∧ w'.cell? ⟨w.heap.size + 1, 1, none⟩ = some (.int .i64 num) ∧ w'.cell? ⟨w.heap.size + 1, 2, none⟩ = some (.slice a n c))
    (first | exact ⟨Keep.at pc x0, Keep.at pc x1, Keep.at pc y0, Keep.at pc y1, Keep.at pc y2⟩ | go_keep)
    (first
      | (go_at_call 116; refine (implSigsOf fs a0 n0 c0 a1 n1 c1 _ _ (qr1.k pc) hn4).mono ?_; rintro e wa ⟨asg, csg, rfl, hsg, pa⟩; replace pc := Ext.trans pc pa)
      | (go_at_call 54; refine (cloneInts av nv cv vars _ _ (Rd.toInts (qv.k pc)) (by omega)).mono ?_; rintro e wb ⟨v2, rfl, hv2, pb⟩; have qa := (((qr0.k pc).lt.mono (fun k hk => hk.2)).k pb); have qs := ((hsg.lt.mono (fun k hk => hk.2)).k pb); have qe := (((qh.k pc).lt.mono (fun k hk => hk.2)).k pb); have hbs := pb.size; have hbs0 := pc.size; replace pc := Ext.trans pc pb)
      | (go_at_call 117; refine (implTypeOf0 ds (fs.map sigF) HS.out (.mk op num es) HA.out a0 n0 c0 asg n1 csg v2 vars a n c _ wa.heap.size (fun k => k < wa.heap.size) ⟨qa, qs⟩ hv2 qe (fun _ h => h) hbs (by rw [nE]; have := HNE.out; have := HVL.out; omega) HALL.out).mono ?_; rw [HZ.out]; rintro e wc ⟨rfl, _, xc⟩; have hv3 := Lib.hid hv2.lt; replace pc := Ext.then_ pc xc (fun i hi e => by have h1 := (hv3.out i e).1; omega)))
  have KF := Lib.hid (KE2.out.trans (Keep.dt pc))
  go_wp2_with fail
  exact fin_ hQ ⟨ret_i V.out.symm, KF.out⟩
end Go.Proofs.YtkapldpmjkdmcaaGreat
/- A region that draws its order, by hand: the laws with the operation written out; operations whose guard is false. -/
namespace Go.Proofs.YtkapldpmjkdmcaaGreat
open Go.RowKit

section
variable {P : Program} {md : Region.Mode} {ops : Array Oper} {Q : Exit → Act → World → Prop} {S : World → Prop} {i : Nat} {oi : Oper} {fuel : Nat} {listed : Array Bool} {a : Act} {w : World}
/-- An operation that yields in every world that meets S is taken first. -/
theorem wpAnyH_takeL {v : Value} (hi : ops.toList[i]? = some oi)
    (hs : Region.noSelect ops = true) (hf : Region.free md ops listed i = true) (hr : (Region.ready md ops listed).contains i = true)
    (hQ : ∀ c a w, Q (.panic c) (a.put oi.dst v) w → Q (.panic c) a w) (hw : Region.wanted oi (yielded ops a.tmps) = true) (hS : S w) (hy : ∀ w, S w → (execOp a.eval oi).run P w = .ok (.value v) w)
    (h : wpAnyH P md ops Q S fuel (listed.setIfInBounds i true) (a.put oi.dst v) w) : wpAnyH P md ops Q S (fuel + 1) listed a w :=
  wpAnyH_take (by simpa using hi) hs hf hr hQ (.inl ⟨hw, hy⟩) hS h
/-- An operation whose guard is false is passed over. -/
theorem wpAnyH_skipL (hi : ops.toList[i]? = some oi)
    (hs : Region.noSelect ops = true) (hf : Region.free md ops listed i = true) (hr : (Region.ready md ops listed).contains i = true)
    (hQ : ∀ c a w, Q (.panic c) (a.put oi.dst undef) w → Q (.panic c) a w) (hw : Region.wanted oi (yielded ops a.tmps) = false) (hS : S w)
    (h : wpAnyH P md ops Q S fuel (listed.setIfInBounds i true) (a.put oi.dst undef) w) : wpAnyH P md ops Q S (fuel + 1) listed a w :=
  wpAnyH_take (by simpa using hi) hs hf hr hQ (.inr ⟨hw, rfl⟩) hS h
/-- The one operation that may come up is carried out. -/
theorem wpAnyH_oneL (hi : ops.toList[i]? = some oi) (hr : Region.ready md ops listed = [i]) (hw : Region.wanted oi (yielded ops a.tmps) = true)
    (h : ∀ K' : Act → World → Prop, Shut (∀ a w, S w → (S w → wpAnyH P md ops Q S fuel (listed.setIfInBounds i true) a w) → K' a w) → Oper.wp P oi a w K' Q) : wpAnyH P md ops Q S (fuel + 1) listed a w :=
  wpAnyH_ready hr (by simp) (AllReadyH.cons (by simpa using hi) (fun K' hK => by rw [if_pos hw]; exact h K' hK) AllReadyH.nil)
/-- The three laws with their side conditions shown by themselves. -/
theorem wT {v : Value} (i : Nat) (hS : S w) (h : wpAnyH P md ops Q S fuel (listed.setIfInBounds i true) (a.put oi.dst v) w) (hi : ops.toList[i]? = some oi := by rfl)
    (hs : Region.noSelect ops = true := by kernel_rfl) (hf : Region.free md ops listed i = true := by kernel_rfl) (hr : (Region.ready md ops listed).contains i = true := by kernel_rfl)
    (hQ : ∀ c a w, Q (.panic c) (a.put oi.dst v) w → Q (.panic c) a w := by exact fun _ _ _ h => h) (hw : Region.wanted oi (yielded ops a.tmps) = true := by rfl)
    (hy : ∀ w, S w → (execOp a.eval oi).run P w = .ok (.value v) w := by (intro w hSw; (try dsimp only at hSw); go_simp; (try with_reducible rfl))) : wpAnyH P md ops Q S (fuel + 1) listed a w :=
  wpAnyH_takeL hi hs hf hr hQ hw hS hy h
theorem wS (i : Nat) (hS : S w) (h : wpAnyH P md ops Q S fuel (listed.setIfInBounds i true) (a.put oi.dst undef) w) (hi : ops.toList[i]? = some oi := by rfl)
    (hs : Region.noSelect ops = true := by kernel_rfl) (hf : Region.free md ops listed i = true := by kernel_rfl) (hr : (Region.ready md ops listed).contains i = true := by kernel_rfl)
    (hQ : ∀ c a w, Q (.panic c) (a.put oi.dst undef) w → Q (.panic c) a w := by exact fun _ _ _ h => h) (hw : Region.wanted oi (yielded ops a.tmps) = false := by rfl) : wpAnyH P md ops Q S (fuel + 1) listed a w :=
  wpAnyH_skipL hi hs hf hr hQ hw hS h
theorem wO (i : Nat) (h : ∀ K' : Act → World → Prop, Shut (∀ a w, S w → (S w → wpAnyH P md ops Q S fuel (listed.setIfInBounds i true) a w) → K' a w) → Oper.wp P oi a w K' Q)
    (hi : ops.toList[i]? = some oi := by rfl) (hr : Region.ready md ops listed = [i] := by kernel_rfl) (hw : Region.wanted oi (yielded ops a.tmps) = true := by rfl) : wpAnyH P md ops Q S (fuel + 1) listed a w :=
  wpAnyH_oneL hi hr hw h
end
end Go.Proofs.YtkapldpmjkdmcaaGreat
/- A region that draws its order, by hand: branching; append onto rows of the call's own. -/
namespace Go.Proofs.YtkapldpmjkdmcaaGreat
open Go.RowKit

theorem allReadyH_consL {P : Program} {md : Region.Mode} {ops : Array Oper} {Q : Exit → Act → World → Prop} {S : World → Prop} {i : Nat} {oi : Oper} {fuel : Nat} {listed : Array Bool} {a : Act} {w : World} {rs : List Nat} (hi : ops.toList[i]? = some oi) (hw : Region.wanted oi (yielded ops a.tmps) = true)
    (h : ∀ K' : Act → World → Prop, Shut (∀ a w, S w → (S w → wpAnyH P md ops Q S fuel (listed.setIfInBounds i true) a w) → K' a w) → Oper.wp P oi a w K' Q)
    (hs : AllReadyH P md ops Q S fuel listed a w rs) : AllReadyH P md ops Q S fuel listed a w (i :: rs) :=
  AllReadyH.cons (by simpa using hi) (fun K' hK => by rw [if_pos hw]; exact h K' hK) hs

theorem run_appR {P : Program} (w : World) (t ty : TypeId)
    (base : Nat) (e : TypeId) (z : Value) (size bytes : Nat) (ht : P.underlying t = some (.slice e)) (hinfo : (P.info? e).map (fun i => (i.zero, i.size, i.bytes)) = some (some z, size, bytes))
    (hzs : z.cells.size = size) (hsz : 0 < size)
    (D : Nat → Prop) (v : Value) (rows : List (List Dat)) (hacc : AccR w base D e size v rows)
    (A : Option Addr) (m c : Nat) (rs : List (List Dat)) (D2 : Nat → Prop) (hr : Rd w D2 (.arr size rs) (.slice A m c)) (hD2 : ∀ k, k < w.heap.size → D2 k → D k ∧ v.ownBlock ≠ some k)
    (hbytes : (rows.length + m) * bytes ≤ 140737488355328) (h63 : rows.length + m ≤ 9223372036854775807) (hbase : base ≤ w.heap.size) :
    ∃ v' w', (Builtin.append_ #[t, t] ty #[v, .slice A m c]).run P w = .ok v' w' ∧ AccR w' base D e size v' (rows ++ rs) ∧ Ext (fun k => v.ownBlock = some k) w w' ∧ (v'.ownBlock = v.ownBlock ∨ v'.ownBlock = some w.heap.size) := by
  have hr' := hr.lt
  obtain ⟨news, n1, n2, n3, n4⟩ := hr'.holds hsz
  have hm : m = rs.length := by obtain ⟨a', c', e, _⟩ := hr.arr_inv; injection e
  obtain ⟨xs, h1, _, _⟩ := id hacc
  obtain ⟨i, hi, hzz⟩ := Option.map_eq_some_iff.1 hinfo
  simp only [Prod.mk.injEq] at hzz
  obtain ⟨hz, hsize, hby⟩ := hzz
  obtain ⟨v', w', hrun, q1, q2, q3⟩ := run_append_c (P := P) w base t ty e i z size bytes ht hi hz hsize hby hzs hsz v rows.length xs h1 A m c news n1 n2 (by simp only [maxLen]; omega) hbytes hbase
  refine ⟨v', w', hrun, ?_, ⟨q2.os, q2.tape, q2.output, q2.size, fun k hk hn => q2.block k hk (fun e => hn e.symm)⟩, q3⟩
  refine hacc.push (rs := rs) (news := news) n3 (fun i j hi hj => ?_) (fun xs' hxs' => ?_) q2 q3
  · obtain ⟨u, hu, hu2⟩ := n4 i j hi hj
    exact ⟨u, hu, hu2.mono (fun k hk => hD2 k hk.2 hk.1)⟩
  · have : xs' = xs := by
      rcases hxs'.2 with ⟨e1, e2⟩ | ⟨g, cap, cur, e1, _, hg, _, _, _, htake⟩
      · have l1 := hxs'.1
        have l2 := h1.1
        rw [e2, Nat.zero_mul] at l1 l2
        rw [List.eq_nil_of_length_eq_zero l1, List.eq_nil_of_length_eq_zero l2]
      · rcases h1.2 with ⟨f1, f2⟩ | ⟨g', cap', cur', f1, _, hg', _, _, _, htake'⟩
        · have l1 := hxs'.1
          have l2 := h1.1
          rw [f2, Nat.zero_mul] at l1 l2
          rw [List.eq_nil_of_length_eq_zero l1, List.eq_nil_of_length_eq_zero l2]
        · rw [e1] at f1
          injection f1 with f1
          injection f1 with f1
          injection f1 with f1
          subst f1
          rw [hg] at hg'
          injection hg' with hg'
          injection hg' with hg'
          rw [← htake, ← htake', hg']
    subst this
    rw [← hm]; exact q1

/-- append as an operation of a region. -/
theorem wp_appR {P : Program} (w : World) {o : Oper} {a : Act} {K : Act → World → Prop} {Q : Exit → Act → World → Prop} (s x : Operand) (t : TypeId)
    (ho : o.op = .call { callee := .builtin .append, args := #[s, x], argTypes := #[t, t] })
    (base : Nat) (e : TypeId) (z : Value) (size bytes : Nat) (ht : P.underlying t = some (.slice e)) (hinfo : (P.info? e).map (fun i => (i.zero, i.size, i.bytes)) = some (some z, size, bytes))
    (hzs : z.cells.size = size) (hsz : 0 < size)
    (D : Nat → Prop) (v : Value) (rows : List (List Dat)) (hs : a.eval s = v) (hacc : AccR w base D e size v rows)
    (A : Option Addr) (m c : Nat) (rs : List (List Dat)) (D2 : Nat → Prop) (hx : a.eval x = .slice A m c) (hr : Rd w D2 (.arr size rs) (.slice A m c)) (hD2 : ∀ k, k < w.heap.size → D2 k → D k ∧ v.ownBlock ≠ some k)
    (hbytes : (rows.length + m) * bytes ≤ 140737488355328) (h63 : rows.length + m ≤ 9223372036854775807) (hbase : base ≤ w.heap.size)
    (h : ∀ v' w', AccR w' base D e size v' (rows ++ rs) → Ext (fun k => v.ownBlock = some k) w w' → (v'.ownBlock = v.ownBlock ∨ v'.ownBlock = some w.heap.size) → K (a.put o.dst v') w') : Oper.wp P o a w K Q := by
  obtain ⟨v', w', hrun, h2, h3, h4⟩ := run_appR (P := P) w t o.type base e z size bytes ht hinfo hzs hsz D v rows hacc A m c rs D2 hr hD2 hbytes h63 hbase
  unfold Oper.wp
  simp [execOp, ho, resolve, invoke, builtin, hs, hx, hrun, Result.andThen]
  exact h v' w' h2 h3 h4
end Go.Proofs.YtkapldpmjkdmcaaGreat
/- build of the program: variables, bindings. -/
namespace Go.Proofs.YtkapldpmjkdmcaaGreat
open Go.RowKit

/-- What can be read aside of a list in the making: what could be read at the call, and the call's box. -/
def AsideI (D1 : Nat → Prop) (w : World) (k : Nat) : Prop := (D1 k ∧ k < w.heap.size) ∨ k = w.heap.size
theorem asideI_next {w wa w' : World} {q : Nat} {D D' D1 : Nat → Prop} {v v' : Value} (hE : ∀ k, AsideI D1 w k → k ≠ q ∧ v.ownBlock ≠ some k) (hs : w.heap.size + 1 ≤ wa.heap.size) (hx : LowTo wa w' q D D' v v') : ∀ k, AsideI D1 w k → k ≠ q ∧ v'.ownBlock ≠ some k :=
  aside_low hE (fun k hk => by rcases hk with hk | rfl <;> omega) hx

/-- What build does for one expression. -/
def LwI (ds : List DeclL) (sg : List SigL) (e : ExprL) : Prop := ∀ (vars env : List Int) (n : Nat) (N : Int) (q base : Nat) (D D1 : Nat → Prop) (v : Value) (rows : List (List Dat)) (a0 : Option Addr) (n0 c0 : Nat) (av : Option Addr) (nv cv : Nat) (a : Option Addr) (m c : Nat) (w : World),
  LowSt w base q 91 #[.slice a0 n0 c0, .int .i64 N, v] D v rows → N = (n : Int) → Rd w D1 (encDecls ds) (.slice a0 n0 c0) → Rd w D1 (encInts env) (.slice av nv cv) → Rd w D1 (encExprs e.kids) (.slice a m c) →
  (∀ k, D1 k → k ≠ q ∧ v.ownBlock ≠ some k) → 0 ≤ tyE ds sg vars e → vars.length = env.length → env.length + 4 * nE e ≤ 4000 → n + 4 * nE e ≤ 4000 → rows.length + nE e ≤ 4000 →
  Calls Tryz.prog 53 #[.pointer (some ⟨q, 0, none⟩), .agg #[.int .i64 e.op, .int .i64 e.num, .slice a m c], .slice av nv cv] w fun r w' =>
    ∃ v' D', r = .returned (.int .i64 (lowE ds e env n).2) ∧ LowSt w' base q 91 #[.slice a0 n0 c0, .int .i64 ((n + (lowE ds e env n).1.length : Nat) : Int), v'] D' v' (rows ++ rowsS (lowE ds e env n).1) ∧ LowTo w w' q D D' v v'

theorem VR.lower {w : World} {base base' : Nat} {v : Value} {xs : List Int} (h : VR w base v xs) (hb : base' ≤ base) : VR w base' v xs := by
  obtain ⟨h1, h2⟩ := h
  refine ⟨h1, ?_⟩
  rcases h2 with h2 | ⟨g, cap, cur, e, hg, rest⟩
  · exact .inl h2
  · exact .inr ⟨g, cap, cur, e, Nat.le_trans hb hg, rest⟩
section
variable (ds : List DeclL) (sg : List SigL)
set_option maxRecDepth 100000 in
set_option maxHeartbeats 1000000 in
theorem implLow_var (num : Int) (ks : List ExprL) : LwI ds sg (.mk 12 num ks) := by
  intro vars env n N q base D D1 v rows a0 n0 c0 av nv cv a m c w hL hN r0 rv re hAs hty hlen hB1 hB2 hB3
  refine calls_k fun Q hQ => ?_
  change Rd w D1 (encExprs ks) _ at re
  simp only [ExprL.op, ExprL.num]
  rw [nE] at hB1 hB2 hB3
  have K0 := Keep.al w (.cells #[.int .i64 12, .int .i64 num, .slice a m c] 58)
  have R1 := rowOf w #[.int .i64 12, .int .i64 num, .slice a m c] 58
  have hq := hL.qlt
  have hv := hL.own
  have HE : Hid (∀ k, AsideI D1 w k → k ≠ q ∧ v.ownBlock ≠ some k) := by
    intro k hk
    rcases hk with hk | rfl
    · exact hAs k hk.1
    · exact ⟨by omega, fun e => by have := hv _ e; omega⟩
  have rd0 := Lib.hid (((r0.lt).mono (D' := AsideI D1 w) (fun k hk => .inl hk)).k K0)
  have rdv := Lib.hid (((rv.lt).mono (D' := AsideI D1 w) (fun k hk => .inl hk)).k K0)
  have rde := Lib.hid (((re.lt).mono (D' := AsideI D1 w) (fun k hk => .inl hk)).k K0)
  have LW := Lib.hid (hL.k K0)
  have KW := Lib.hid K0
  have sW : ((w.alloc (.cells #[.int .i64 12, .int .i64 num, .slice a m c] 58))).heap.size = w.heap.size + 1 := by simp
  clear hAs hL r0 rv re
  obtain ⟨t1, t2⟩ := ty_var hty
  obtain ⟨i, rfl⟩ : ∃ i : Nat, num = i := ⟨num.toNat, by omega⟩
  obtain ⟨e1, hnc, hnm, hat⟩ := ints_at rdv.out
  obtain ⟨b, o, rfl, _, d0⟩ := hat i (by omega)
  have V : Hid (lowE ds (.mk 12 (i : Int) ks) env n = ([], iAt env i)) := by show _ = _; rw [lowE_var]; rfl
  rw [V.out] at hQ
  have hi : (i : Int) < (nv : Int) := by omega
  have hi0 : (0 : Int) ≤ (i : Int) := by omega
  clear hat V t1 t2 hty
  go_enter Tryz.func53, Tryz.ntmps53
  go_wp2_with fail
  exact fin_ hQ ⟨v, D, rfl, by simpa [rowsS, hN] using LW.out, LowTo.keep KW.out⟩

set_option maxRecDepth 100000 in
set_option maxHeartbeats 2000000 in
theorem implLow_let (num : Int) (ks : List ExprL) (IH0 : ∀ j, j < ks.length → LwI ds sg (eAt ks j)) : LwI ds sg (.mk 13 num ks) := by
  intro vars env n N q base D D1 v rows a0 n0 c0 av nv cv a m c w hL hN r0 rv re hAs hty hlen hB1 hB2 hB3
  refine calls_k fun Q hQ => ?_
  change Rd w D1 (encExprs ks) _ at re
  simp only [ExprL.op, ExprL.num]
  rw [nE] at hB1 hB2 hB3
  have K0 := Keep.al w (.cells #[.int .i64 13, .int .i64 num, .slice a m c] 58)
  have R1 := rowOf w #[.int .i64 13, .int .i64 num, .slice a m c] 58
  have hq := hL.qlt
  have hv := hL.own
  have HE : Hid (∀ k, AsideI D1 w k → k ≠ q ∧ v.ownBlock ≠ some k) := by
    intro k hk
    rcases hk with hk | rfl
    · exact hAs k hk.1
    · exact ⟨by omega, fun e => by have := hv _ e; omega⟩
  have rd0 := Lib.hid (((r0.lt).mono (D' := AsideI D1 w) (fun k hk => .inl hk)).k K0)
  have rdv := Lib.hid (((rv.lt).mono (D' := AsideI D1 w) (fun k hk => .inl hk)).k K0)
  have rde := Lib.hid (((re.lt).mono (D' := AsideI D1 w) (fun k hk => .inl hk)).k K0)
  have LW := Lib.hid (hL.k K0)
  have KW := Lib.hid K0
  have sW : ((w.alloc (.cells #[.int .i64 13, .int .i64 num, .slice a m c] 58))).heap.size = w.heap.size + 1 := by simp
  clear hAs hL r0 rv re
  obtain ⟨t1, t2, t3⟩ := ty_let hty
  have TY2 := Lib.hid t2
  have TY3 := Lib.hid t3
  have IH := Lib.hid IH0
  have hq0 := nE_le ks (j := 0) (by omega)
  have hq1 : nE (eAt ks 0) + nE (eAt ks 1) ≤ nEs ks := nE_two0 ks (j := 0) (by omega)
  have VL := Lib.hid (lowE_let (num := num) ds env n t1)
  rw [VL.out] at hQ
  obtain ⟨s1, hs1⟩ : ∃ s, (lowE ds (eAt ks 0) env n).1 = s := ⟨_, rfl⟩
  obtain ⟨y1, hy1⟩ : ∃ s, (lowE ds (eAt ks 0) env n).2 = s := ⟨_, rfl⟩
  have hsl : s1.length ≤ nE (eAt ks 0) := by rw [← hs1]; exact lowE_len ds _ _ _
  rw [hs1, hy1] at hQ
  have HS1 := Lib.hid hs1
  have HY1 := Lib.hid hy1
  obtain ⟨s2, hs2⟩ : ∃ s, (lowE ds (eAt ks 1) (env ++ [y1]) (n + s1.length)).1 = s := ⟨_, rfl⟩
  obtain ⟨y2, hy2⟩ : ∃ s, (lowE ds (eAt ks 1) (env ++ [y1]) (n + s1.length)).2 = s := ⟨_, rfl⟩
  rw [hs2, hy2] at hQ
  have HS2 := Lib.hid hs2
  have HY2 := Lib.hid hy2
  obtain ⟨e1, hnc, hnm, hat⟩ := exprs_at rde.out
  obtain ⟨b, o, rfl, hb0, ak, nk, ck, d0, d1, d2, rk⟩ := hat 0 (by omega)
  obtain ⟨b', o', e', _, ak', nk', ck', g0, g1, g2, rk'⟩ := hat 1 (by omega)
  injection e' with e'
  injection e' with e' e''
  subst e' e''
  simp only [Nat.zero_mul, Nat.add_zero, Nat.one_mul] at d0 d1 d2 g0 g1 g2
  have HN := Lib.hid hN
  have hm2 : m = 2 := by omega
  subst hm2
  have enl : env.length ≤ 4000 := by omega
  have u2 : ((w.alloc (.cells #[.int .i64 13, .int .i64 num, .slice (some ⟨b, o, none⟩) 2 c] 58))).cell? ⟨w.heap.size, 2, none⟩ = some (.slice (some ⟨b, o, none⟩) 2 c) := R1.cell (i := 2) (by simp)
  have RK := Lib.hid rk
  have RK' := Lib.hid rk'
  have hv5 : env.length = nv := (ints_at rdv.out).1
  clear hat VL hs1 hy1 hs2 hy2 t2 t3 IH0 hty rk rk' R1 hN K0
  go_enter Tryz.func53, Tryz.ntmps53
  go_upto_region 5 with fail
  have hW2 := Lib.hid sW
  generalize hW : (w.alloc (.cells #[.int .i64 13, .int .i64 num, .slice (some ⟨b, o, none⟩) 2 c] 58)) = W at *
  clear hW sW
  go_wp2_with fail
  refine (IH.out 0 (by omega) vars env n N q base D (AsideI D1 w) v rows _ _ _ _ _ _ _ _ _ W LW.out HN.out rd0.out rdv.out RK.out HE.out TY2.out hlen (by omega) (by omega) (by omega)).mono ?_
  rw [HS1.out, HY1.out]
  rintro e w1 ⟨v1, D2, rfl, L1, T1⟩
  have T1' := Lib.hid T1
  have L1' := Lib.hid L1
  have HE1 := Lib.hid (asideI_next HE.out (by have := hW2.out; omega) T1'.out)
  obtain ⟨N1, hN1⟩ : ∃ N1 : Int, N1 = ((n + s1.length : Nat) : Int) := ⟨_, rfl⟩
  have HN1 := Lib.hid hN1
  have u2 := at_low T1'.out HE.out u2 (.inr rfl)
  have g0 := at_low T1'.out HE.out g0 hb0
  have g1 := at_low T1'.out HE.out g1 hb0
  have g2 := at_low T1'.out HE.out g2 hb0
  have qd := Lib.hid (rd0.out.low HE.out T1'.out)
  have qv := Lib.hid (rdv.out.low HE.out T1'.out)
  have qk := Lib.hid (RK'.out.low HE.out T1'.out)
  have hw1 := T1'.out.ext.size
  clear d0 d1 d2 T1 L1 hN1
  have LD : Hid (LowSt w1 base q 91 #[.slice a0 n0 c0, .int .i64 N1, v1] D2 v1 (rows ++ rowsS s1)) := by show LowSt _ _ _ _ _ _ _ _; rw [HN1.out]; exact L1'.out
  have hbw : b < w1.heap.size := by rcases hb0 with h | h <;> (have := hW2.out; omega)
  go_wp2_with fail
  refine wp_region_held_drew (S := fun w' => w'.cell? ⟨w.heap.size, 2, none⟩ = some (.slice (some ⟨b, o, none⟩) 2 c) ∧ w'.cell? ⟨b, o + 3, none⟩ = some (.int .i64 (eAt ks 1).op) ∧ w'.cell? ⟨b, o + 3 + 1, none⟩ = some (.int .i64 (eAt ks 1).num) ∧ w'.cell? ⟨b, o + 3 + 2, none⟩ = some (.slice ak' nk' ck')) (by kernel_rfl) ⟨u2, g0, g1, g2⟩ (fun hHeld => ?_)
  refine wT 0 hHeld ?_
  try go_frame
  refine wT 1 hHeld ?_
  try go_frame
  refine wT 2 hHeld ?_
  try go_frame
  refine wT 3 hHeld ?_
  try go_frame
  refine wT 4 hHeld ?_
  try go_frame
  refine wT 5 hHeld ?_
  try go_frame
  refine wT 7 hHeld ?_
  try go_frame
  refine wpAnyH_ready (rs := [6, 8]) (by kernel_rfl) (by simp) ?_
  refine allReadyH_consL rfl (by rfl) (fun K hK => ?_) (allReadyH_consL rfl (by rfl) (fun K hK => ?_) (AllReadyH.nil))
  go_simp
  go_at_call 54
  refine (cloneInts av nv cv env _ w1.drew qv.out.kd.toInts (by omega)).mono ?_
  rintro e Y1 ⟨vc, rfl, hvc, kY1⟩
  have u2Y1 := Keep.at kY1 u2
  have g0Y1 := Keep.at kY1 g0
  have g1Y1 := Keep.at kY1 g1
  have g2Y1 := Keep.at kY1 g2
  have HVC : Hid (VR Y1 w1.heap.size vc env) := (hvc.lower (Nat.le_refl _))
  clear hvc
  have KYY1 : Hid (Keep w1 Y1) := Keep.dt kY1
  refine hK.out _ _ ⟨u2Y1, g0Y1, g1Y1, g2Y1⟩ (fun hHeld => ?_)
  clear hK K
  try go_frame
  refine wO 8 (fun K hK => ?_)
  go_simp
  obtain ⟨Y2, hWY2⟩ : ∃ y : World, y = (Y1.alloc (.cells #[.int .i64 y1] 3)) := ⟨_, rfl⟩
  rw [← hWY2]
  have kY2 : Keep Y1 Y2 := by rw [hWY2]; exact Keep.al Y1 (.cells #[.int .i64 y1] 3)
  have hzY2 : Hid (Y2.heap.size = Y1.heap.size + 1) := by show _ = _; rw [hWY2]; exact World.size_alloc _ _
  have u2Y2 := kY2.cq u2Y1 (fun h => h)
  have g0Y2 := kY2.cq g0Y1 (fun h => h)
  have g1Y2 := kY2.cq g1Y1 (fun h => h)
  have g2Y2 := kY2.cq g2Y1 (fun h => h)
  have HC : Hid (Y2.cell? ⟨Y1.heap.size, 0, none⟩ = some (.int .i64 y1)) := by show _ = _; rw [hWY2]; simp
  replace hWY2 := Lib.hid hWY2
  replace HVC := Lib.hid (HVC.out.k kY2)
  have KYY2 : Hid (Keep w1 Y2) := KYY1.out.trans kY2
  refine hK.out _ _ ⟨u2Y2, g0Y2, g1Y2, g2Y2⟩ (fun hHeld => ?_)
  clear hK K
  try go_frame
  refine wO 9 (fun K hK => ?_)
  refine wp_of_step (ops := #[]) (by rfl) (step_appV (by rfl) (.tmp 40) (.tmp 42) (by rfl) w1.heap.size vc env rfl HVC.out Y1.heap.size 1 y1 rfl HC.out (by omega) KYY2.out.size ?_)
  intro ve wz hV
  have HV := Lib.hid hV
  have hno : ∀ k, k < w1.heap.size → ¬ vc.ownBlock = some k := fun k hk e => by have := (HVC.out.lt k e).1; omega
  have LZ := Lib.hid ((LD.out.k KYY2.out).ext HV.out.ext (fun e => hno q (L1'.out.qlt) e) (fun k hk e => hno k (L1'.out.lt k hk) e) (fun k hk e => hno k (L1'.out.own k hk).2 e))
  have TZ := Lib.hid ((LowTo.keep KYY2.out : LowTo w1 Y2 q D2 D2 v1 v1).aside HV.out.ext (fun k hk => (HVC.out.lt k hk).1))
  have QDZ := Lib.hid (qd.out.low HE1.out TZ.out)
  have QKZ := Lib.hid (qk.out.low HE1.out TZ.out)
  have hbz : ∀ k, ve.ownBlock = some k → w1.heap.size ≤ k := fun k hk => (HV.out.row.lt k hk).1
  obtain ⟨ae, ce, e9, hce, _⟩ := HV.out.row.slice
  have REZ := Lib.hid ((HV.out.row.owns (by rw [List.length_append]; simp; omega)).read.mono (D' := fun k => w1.heap.size ≤ k) (fun k hk => hbz k hk))
  obtain ⟨ne, hne⟩ : ∃ m, (env ++ [y1]).length = m := ⟨_, rfl⟩
  rw [hne] at e9
  have HNE : Hid (ne = env.length + 1) := by show _ = _; rw [← hne]; simp
  clear hne hV hbz
  subst e9
  have u2z := HV.out.ext.cq u2Y2 (hno _ (by show w.heap.size < _; have := hW2.out; omega))
  have g0z := HV.out.ext.cq g0Y2 (hno _ hbw)
  have g1z := HV.out.ext.cq g1Y2 (hno _ hbw)
  have g2z := HV.out.ext.cq g2Y2 (hno _ hbw)
  refine hK.out _ _ ⟨u2z, g0z, g1z, g2z⟩ (fun hHeld => ?_)
  clear hK K
  try go_frame
  refine wO 10 (fun K hK => ?_)
  go_simp
  go_at_call 53
  refine (IH.out 1 (by omega) (vars ++ [tyE ds sg vars (eAt ks 0)]) (env ++ [y1]) (n + s1.length) N1 q base D2 (fun k => AsideI D1 w k ∨ w1.heap.size ≤ k) v1 (rows ++ rowsS s1) _ _ _ _ _ _ _ _ _ wz LZ.out HN1.out (QDZ.out.mono (fun k h => .inl h)) (REZ.out.mono (fun k h => .inr h)) (QKZ.out.mono (fun k h => .inl h)) (fun k hk => by
    rcases hk with hk | hk
    · exact HE1.out k hk
    · exact ⟨fun e => by have := L1'.out.qlt; omega, fun e => by have := L1'.out.own k e; omega⟩) TY3.out (by simp; omega) (by simp; omega) (by omega) (by rw [List.length_append, rowsS_map, List.length_map]; omega)).mono ?_
  rw [HS2.out, HY2.out]
  rintro e w4 ⟨v4, D4, rfl, L4, p4⟩
  have L4' := Lib.hid L4
  have TF := Lib.hid (TZ.out.trans p4)
  have u2f := at_low p4 HE1.out u2z (.inr rfl)
  have g0f := at_low p4 HE1.out g0z hb0
  have g1f := at_low p4 HE1.out g1z hb0
  have g2f := at_low p4 HE1.out g2z hb0
  clear L4 p4
  refine hK.out _ _ ⟨u2f, g0f, g1f, g2f⟩ (fun hHeld => ?_)
  clear hK K
  try go_frame
  refine wT 11 hHeld ?_
  try go_frame
  refine wpAnyH_done (by kernel_rfl) ?_ _
  rotate_left
  go_simp
  obtain ⟨Y1, hWY1⟩ : ∃ y : World, y = (w1.alloc (.cells #[.int .i64 y1] 3)).drew := ⟨_, rfl⟩
  rw [← hWY1]
  have kY1 : Keep w1.drew Y1 := by rw [hWY1]; exact Keep.al w1.drew (.cells #[.int .i64 y1] 3)
  have hzY1 : Hid (Y1.heap.size = w1.heap.size + 1) := by show _ = _; rw [hWY1]; exact World.size_alloc _ _
  have u2Y1 := Keep.at kY1 u2
  have g0Y1 := Keep.at kY1 g0
  have g1Y1 := Keep.at kY1 g1
  have g2Y1 := Keep.at kY1 g2
  have HC : Hid (Y1.cell? ⟨w1.heap.size, 0, none⟩ = some (.int .i64 y1)) := by show _ = _; rw [hWY1]; simp
  replace hWY1 := Lib.hid hWY1
  have KYY1 : Hid (Keep w1 Y1) := Keep.dt kY1
  refine hK.out _ _ ⟨u2Y1, g0Y1, g1Y1, g2Y1⟩ (fun hHeld => ?_)
  clear hK K
  try go_frame
  refine wO 6 (fun K hK => ?_)
  go_simp
  go_at_call 54
  refine (cloneInts av nv cv env _ Y1 (qv.out.k KYY1.out).toInts (by omega)).mono ?_
  rintro e Y2 ⟨vc, rfl, hvc, kY2⟩
  have u2Y2 := kY2.cq u2Y1 (fun h => h)
  have g0Y2 := kY2.cq g0Y1 (fun h => h)
  have g1Y2 := kY2.cq g1Y1 (fun h => h)
  have g2Y2 := kY2.cq g2Y1 (fun h => h)
  have HVC : Hid (VR Y2 w1.heap.size vc env) := (hvc.lower KYY1.out.size)
  clear hvc
  have KYY2 : Hid (Keep w1 Y2) := KYY1.out.trans kY2
  refine hK.out _ _ ⟨u2Y2, g0Y2, g1Y2, g2Y2⟩ (fun hHeld => ?_)
  clear hK K
  try go_frame
  refine wO 9 (fun K hK => ?_)
  refine wp_of_step (ops := #[]) (by rfl) (step_appV (by rfl) (.tmp 40) (.tmp 42) (by rfl) w1.heap.size vc env rfl HVC.out w1.heap.size 1 y1 rfl (kY2.cq HC.out (fun h => h)) (by omega) KYY2.out.size ?_)
  intro ve wz hV
  have HV := Lib.hid hV
  have hno : ∀ k, k < w1.heap.size → ¬ vc.ownBlock = some k := fun k hk e => by have := (HVC.out.lt k e).1; omega
  have LZ := Lib.hid ((LD.out.k KYY2.out).ext HV.out.ext (fun e => hno q (L1'.out.qlt) e) (fun k hk e => hno k (L1'.out.lt k hk) e) (fun k hk e => hno k (L1'.out.own k hk).2 e))
  have TZ := Lib.hid ((LowTo.keep KYY2.out : LowTo w1 Y2 q D2 D2 v1 v1).aside HV.out.ext (fun k hk => (HVC.out.lt k hk).1))
  have QDZ := Lib.hid (qd.out.low HE1.out TZ.out)
  have QKZ := Lib.hid (qk.out.low HE1.out TZ.out)
  have hbz : ∀ k, ve.ownBlock = some k → w1.heap.size ≤ k := fun k hk => (HV.out.row.lt k hk).1
  obtain ⟨ae, ce, e9, hce, _⟩ := HV.out.row.slice
  have REZ := Lib.hid ((HV.out.row.owns (by rw [List.length_append]; simp; omega)).read.mono (D' := fun k => w1.heap.size ≤ k) (fun k hk => hbz k hk))
  obtain ⟨ne, hne⟩ : ∃ m, (env ++ [y1]).length = m := ⟨_, rfl⟩
  rw [hne] at e9
  have HNE : Hid (ne = env.length + 1) := by show _ = _; rw [← hne]; simp
  clear hne hV hbz
  subst e9
  have u2z := HV.out.ext.cq u2Y2 (hno _ (by show w.heap.size < _; have := hW2.out; omega))
  have g0z := HV.out.ext.cq g0Y2 (hno _ hbw)
  have g1z := HV.out.ext.cq g1Y2 (hno _ hbw)
  have g2z := HV.out.ext.cq g2Y2 (hno _ hbw)
  refine hK.out _ _ ⟨u2z, g0z, g1z, g2z⟩ (fun hHeld => ?_)
  clear hK K
  try go_frame
  refine wO 10 (fun K hK => ?_)
  go_simp
  go_at_call 53
  refine (IH.out 1 (by omega) (vars ++ [tyE ds sg vars (eAt ks 0)]) (env ++ [y1]) (n + s1.length) N1 q base D2 (fun k => AsideI D1 w k ∨ w1.heap.size ≤ k) v1 (rows ++ rowsS s1) _ _ _ _ _ _ _ _ _ wz LZ.out HN1.out (QDZ.out.mono (fun k h => .inl h)) (REZ.out.mono (fun k h => .inr h)) (QKZ.out.mono (fun k h => .inl h)) (fun k hk => by
    rcases hk with hk | hk
    · exact HE1.out k hk
    · exact ⟨fun e => by have := L1'.out.qlt; omega, fun e => by have := L1'.out.own k e; omega⟩) TY3.out (by simp; omega) (by simp; omega) (by omega) (by rw [List.length_append, rowsS_map, List.length_map]; omega)).mono ?_
  rw [HS2.out, HY2.out]
  rintro e w4 ⟨v4, D4, rfl, L4, p4⟩
  have L4' := Lib.hid L4
  have TF := Lib.hid (TZ.out.trans p4)
  have u2f := at_low p4 HE1.out u2z (.inr rfl)
  have g0f := at_low p4 HE1.out g0z hb0
  have g1f := at_low p4 HE1.out g1z hb0
  have g2f := at_low p4 HE1.out g2z hb0
  clear L4 p4
  refine hK.out _ _ ⟨u2f, g0f, g1f, g2f⟩ (fun hHeld => ?_)
  clear hK K
  try go_frame
  refine wT 11 hHeld ?_
  try go_frame
  refine wpAnyH_done (by kernel_rfl) ?_ _
  rotate_left
  all_goals
    have KF := Lib.hid (((LowTo.keep KW.out).trans T1'.out).trans TF.out)
    go_wp2_with fail
    refine fin_ hQ ⟨v4, D4, rfl, ?_, KF.out⟩
    have := L4'.out
    rw [List.append_assoc, ← rowsS_app] at this
    simpa [Nat.add_assoc] using this
end
end Go.Proofs.YtkapldpmjkdmcaaGreat
/- build of the program: operations that neither bind nor choose. -/
namespace Go.Proofs.YtkapldpmjkdmcaaGreat
open Go.RowKit

section
variable (ds : List DeclL) (sg : List SigL) (hok : sigsOk ds sg = true)
include hok
set_option maxRecDepth 100000 in
set_option maxHeartbeats 2000000 in
theorem implLow_other (op num : Int) (h12 : ¬ op = 12) (h13 : ¬ op = 13) (h7 : ¬ op = 7) (h8 : ¬ op = 8) (ks : List ExprL) (IH0 : ∀ j, j < ks.length → LwI ds sg (eAt ks j)) : LwI ds sg (.mk op num ks) := by
  intro vars env n N q base D D1 v rows a0 n0 c0 av nv cv a m c w hL hN r0 rv re hAs hty hlen hB1 hB2 hB3
  refine calls_k fun Q hQ => ?_
  change Rd w D1 (encExprs ks) _ at re
  simp only [ExprL.op, ExprL.num]
  rw [nE] at hB1 hB2 hB3
  have K0 := Keep.al w (.cells #[.int .i64 op, .int .i64 num, .slice a m c] 58)
  have R1 := rowOf w #[.int .i64 op, .int .i64 num, .slice a m c] 58
  have hq := hL.qlt
  have hv := hL.own
  have hDlt := hL.lt
  have HE : Hid (∀ k, AsideI D1 w k → k ≠ q ∧ v.ownBlock ≠ some k) := by
    intro k hk
    rcases hk with hk | rfl
    · exact hAs k hk.1
    · exact ⟨by omega, fun e => by have := hv _ e; omega⟩
  have rd0 := Lib.hid (((r0.lt).mono (D' := AsideI D1 w) (fun k hk => .inl hk)).k K0)
  have rdv := Lib.hid (((rv.lt).mono (D' := AsideI D1 w) (fun k hk => .inl hk)).k K0)
  have rde := Lib.hid (((re.lt).mono (D' := AsideI D1 w) (fun k hk => .inl hk)).k K0)
  have LW := Lib.hid (hL.k K0)
  have KW := Lib.hid K0
  have sW : ((w.alloc (.cells #[.int .i64 op, .int .i64 num, .slice a m c] 58))).heap.size = w.heap.size + 1 := by simp
  clear hAs hL r0 rv re
  have HTY := Lib.hid (ty_other hok h12 h13 h7 h8 hty)
  have IH := Lib.hid IH0
  have VL := Lib.hid (lowE_other (num := num) (ks := ks) ds env n h12 h13 h7 h8)
  rw [VL.out] at hQ
  obtain ⟨e1, hnc, hnm, hat⟩ := exprs_at rde.out
  have HAT := Lib.hid hat
  have HM := Lib.hid e1
  have HN := Lib.hid hN
  have hkl := nEs_len ks
  have KS := Keep.al ((w.alloc (.cells #[.int .i64 op, .int .i64 num, .slice a m c] 58))) (.cells #[.int .i64 op, .int .i64 num, .int .i64 0, .slice none 0 0, .slice none 0 0] 136)
  have RS0 := rowOf ((w.alloc (.cells #[.int .i64 op, .int .i64 num, .slice a m c] 58))) #[.int .i64 op, .int .i64 num, .int .i64 0, .slice none 0 0, .slice none 0 0] 136
  simp only [World.size_alloc] at RS0
  have RS0 := Lib.hid RS0
  have V0 : Hid (VR (((w.alloc (.cells #[.int .i64 op, .int .i64 num, .slice a m c] 58))).alloc (.cells #[.int .i64 op, .int .i64 num, .int .i64 0, .slice none 0 0, .slice none 0 0] 136)) (w.heap.size + 2) (.slice none 0 0) (lowA ds (ks.take 0) env n).2) := by
    show VR _ _ _ _; rw [List.take_zero, lowA_nil]; exact World.ownsRow_nil _ _ _ _
  have L0 : Hid (LowSt (((w.alloc (.cells #[.int .i64 op, .int .i64 num, .slice a m c] 58))).alloc (.cells #[.int .i64 op, .int .i64 num, .int .i64 0, .slice none 0 0, .slice none 0 0] 136)) base q 91 #[.slice a0 n0 c0, .int .i64 ((n + (lowA ds (ks.take 0) env n).1.length : Nat) : Int), v] D v (rows ++ rowsS (lowA ds (ks.take 0) env n).1)) := by
    show LowSt _ _ _ _ _ _ _ _
    have := LW.out.k KS
    rw [HN.out] at this
    rw [List.take_zero, lowA_nil]; simpa [rowsS] using this
  have T0 : Hid (LowTo ((w.alloc (.cells #[.int .i64 op, .int .i64 num, .slice a m c] 58))) (((w.alloc (.cells #[.int .i64 op, .int .i64 num, .slice a m c] 58))).alloc (.cells #[.int .i64 op, .int .i64 num, .int .i64 0, .slice none 0 0, .slice none 0 0] 136)) q D D v v) := LowTo.keep KS
  have O0 : Hid (∀ k, (Value.slice none 0 0).ownBlock = some k → k ≠ q ∧ v.ownBlock ≠ some k ∧ ¬ D k) := fun k hk => by cases hk
  have Z0 : Hid (w.heap.size + 2 ≤ (((w.alloc (.cells #[.int .i64 op, .int .i64 num, .slice a m c] 58))).alloc (.cells #[.int .i64 op, .int .i64 num, .int .i64 0, .slice none 0 0, .slice none 0 0] 136)).heap.size) := by show _ ≤ _; simp
  have Y0 : Hid ((∀ k, v.ownBlock = some k → k ≠ w.heap.size + 1) ∧ (∀ k, D k → k ≠ w.heap.size + 1)) := ⟨fun k hk e => by have := (hv k hk).2; omega, fun k hk e => by have := hDlt k hk; omega⟩
  have S2 : Hid (((w.alloc (.cells #[.int .i64 op, .int .i64 num, .slice a m c] 58))).heap.size = w.heap.size + 1) := by show _ = _; simp
  have rd2 := rd0
  have rv2 := rdv
  have hv5 : env.length = nv := (ints_at rdv.out).1
  have HATW := HAT
  have hqw : q < w.heap.size := hq
  have hvw := Lib.hid hv
  have HDW := Lib.hid (fun k (hk : D k) => (LW.out.lt k hk))
  have HD2 : Hid (∀ k, D k → k < w.heap.size) := hDlt
  clear hat e1 VL IH0 hty R1 hN K0 KS HAT hDlt
  go_enter Tryz.func53, Tryz.ntmps53
  go_wp2_with fail
  generalize hW1 : (w.alloc (.cells #[.int .i64 op, .int .i64 num, .slice a m c] 58)) = W1 at *
  clear hW1
  go_loopw [112] (fun iv wr => ∃ (j : Nat) (vj ov : Value) (Dj : Nat → Prop), j ≤ m ∧ iv = .int .i64 j ∧ Hid (VR wr (w.heap.size + 2) ov (lowA ds (ks.take j) env n).2) ∧ Hid (wr.rowIs (w.heap.size + 1) 136 5 (fun i => (#[.int .i64 op, .int .i64 num, .int .i64 0, ov, .slice none 0 0] : Array Value).getD i undef)) ∧ Hid (LowSt wr base q 91 #[.slice a0 n0 c0, .int .i64 ((n + (lowA ds (ks.take j) env n).1.length : Nat) : Int), vj] Dj vj (rows ++ rowsS (lowA ds (ks.take j) env n).1)) ∧ Hid (LowTo W1 wr q D Dj v vj) ∧ Hid (∀ k, ov.ownBlock = some k → k ≠ q ∧ vj.ownBlock ≠ some k ∧ ¬ Dj k) ∧ Hid (w.heap.size + 2 ≤ wr.heap.size) ∧ Hid ((∀ k, vj.ownBlock = some k → k ≠ w.heap.size + 1) ∧ (∀ k, Dj k → k ≠ w.heap.size + 1))) (fun iv _ => m - (intOf iv).toNat)
  case atStart => exact ⟨0, v, _, D, Nat.zero_le _, rfl, V0, RS0, L0, T0, O0, Z0, Y0⟩
  case round =>
    obtain ⟨j, vj, ov, Dj, hj, rfl, HV, RS, HL, HT, HO, HZ, HY⟩ := hrel
    obtain ⟨wo, rfl⟩ : ∃ wo : World, wo = wr := ⟨_, rfl⟩
    clear V0 L0 T0 O0 Z0 RS0 Y0
    have hlj : (lowA ds (ks.take j) env n).2.length = j := by rw [lowA_len, List.length_take, HM.out]; omega
    have hs1 := lowA_len1 ds (ks.take j) env n
    have hs2 := nEs_take_le ks j
    obtain ⟨sj, hsj⟩ : ∃ s, (lowA ds (ks.take j) env n).1 = s := ⟨_, rfl⟩
    obtain ⟨vs, hvs⟩ : ∃ s, (lowA ds (ks.take j) env n).2 = s := ⟨_, rfl⟩
    have HSJ := Lib.hid hsj
    have HVS := Lib.hid hvs
    rw [hvs] at HV hlj
    rw [hsj] at HL hs1
    obtain ⟨aO, cO, e9, hcO, hoO⟩ := HV.out.slice
    rw [hlj] at e9
    replace e9 := Lib.hid e9
    obtain ⟨Nj, hNj⟩ : ∃ N : Int, N = ((n + sj.length : Nat) : Int) := ⟨_, rfl⟩
    have HNJ := Lib.hid hNj
    have hnj0 : 0 ≤ Nj := by omega
    have hnj1 : Nj ≤ 100000 := by omega
    have HLJ := Lib.hid hlj
    have HEJ := Lib.hid (asideI_next HE.out (by have := S2.out; omega) HT.out)
    have hro : rows.length + sj.length ≤ 100000 := by omega
    have hsl : sj.length ≤ nEs (ks.take j) := hs1
    have sb0 : wo.cell? ⟨w.heap.size + 1, 0, none⟩ = some (.int .i64 op) := RS.out.cell (i := 0) (by omega)
    have sb1 : wo.cell? ⟨w.heap.size + 1, 1, none⟩ = some (.int .i64 num) := RS.out.cell (i := 1) (by omega)
    have sb2 : wo.cell? ⟨w.heap.size + 1, 2, none⟩ = some (.int .i64 0) := RS.out.cell (i := 2) (by omega)
    have sb3 : wo.cell? ⟨w.heap.size + 1, 3, none⟩ = some ov := RS.out.cell (i := 3) (by omega)
    have sb4 : wo.cell? ⟨w.heap.size + 1, 4, none⟩ = some (.slice none 0 0) := RS.out.cell (i := 4) (by omega)
    clear hs1 hsj hvs hNj hlj hcO hoO
    by_cases hlt : j < m
    · have hjl : j < ks.length := by have := HM.out; omega
      have hq0 := nEs_take ks hjl
      have hq1 := nEs_take_le ks (j + 1)
      have HLA := Lib.hid (lowA_take ds env n hjl)
      obtain ⟨b, o, rfl, hb0, ak, nk, ck, d0, d1, d2, rk⟩ := HATW.out j hlt
      have d0 := at_low HT.out HE.out d0 hb0
      have d1 := at_low HT.out HE.out d1 hb0
      have d2 := at_low HT.out HE.out d2 hb0
      have KX := Keep.al wo (.cells #[.int .i64 (eAt ks j).op, .int .i64 (eAt ks j).num, .slice ak nk ck] 58)
      have RKB := rowOf wo #[.int .i64 (eAt ks j).op, .int .i64 (eAt ks j).num, .slice ak nk ck] 58
      have qd := Lib.hid ((rd2.out.low HE.out HT.out).k KX)
      have qv := Lib.hid ((rv2.out.low HE.out HT.out).k KX)
      have qk := Lib.hid ((rk.low HE.out HT.out).k KX)
      have LJ : Hid (LowSt (wo.alloc (.cells #[.int .i64 (eAt ks j).op, .int .i64 (eAt ks j).num, .slice ak nk ck] 58)) base q 91 #[.slice a0 n0 c0, .int .i64 Nj, vj] Dj vj (rows ++ rowsS sj)) := by show LowSt _ _ _ _ _ _ _ _; rw [HNJ.out]; exact HL.out.k KX
      have RSX := row_ext RS.out KX (fun h => h)
      have HVX := Lib.hid (HV.out.k KX)
      have SX : (wo.alloc (.cells #[.int .i64 (eAt ks j).op, .int .i64 (eAt ks j).num, .slice ak nk ck] 58)).heap.size = wo.heap.size + 1 := by simp
      have hol := Lib.hid (fun k hk => (HV.out.lt k hk).2)
      have z3 := KX.cq sb3 (fun h => h)
      have hqo := HL.out.qlt
      have KXh := Lib.hid KX
      clear rk KX
      go_wp2_with fail
      obtain ⟨kb, hkb⟩ : ∃ g, g = wo.heap.size := ⟨_, rfl⟩
      have HKB := Lib.hid hkb
      rw [← hkb] at RKB
      rw [← hkb]
      obtain ⟨wx, hwx⟩ : ∃ y : World, y = wo.alloc (.cells #[.int .i64 (eAt ks j).op, .int .i64 (eAt ks j).num, .slice ak nk ck] 58) := ⟨_, rfl⟩
      rw [← hwx] at RKB qd qv qk LJ RSX HVX SX z3 KXh
      rw [← hwx]
      have k0 : wx.cell? ⟨kb, 0, none⟩ = some (.int .i64 (eAt ks j).op) := RKB.cell (i := 0) (by simp)
      have k1 : wx.cell? ⟨kb, 1, none⟩ = some (.int .i64 (eAt ks j).num) := RKB.cell (i := 1) (by simp)
      have k2 : wx.cell? ⟨kb, 2, none⟩ = some (.slice ak nk ck) := RKB.cell (i := 2) (by simp)
      have HK2 : kb = wo.heap.size := hkb
      have RSX := Lib.hid RSX
      have SX := Lib.hid SX
      have hbk : kb ≠ q ∧ ∀ k, vj.ownBlock = some k → k ≠ kb := ⟨by omega, fun k hk e => by have := (HL.out.own k hk).2; omega⟩
      clear hkb hwx HK2 RKB sb0 sb1 sb2 sb3 sb4 d0 d1 d2
      have hbs : w.heap.size + 1 ≠ q ∧ ∀ k, vj.ownBlock = some k → k ≠ w.heap.size + 1 := ⟨by omega, HY.out.1⟩
      refine wp_region_held_drew (S := fun w' => w'.cell? ⟨kb, 0, none⟩ = some (.int .i64 (eAt ks j).op) ∧ w'.cell? ⟨kb, 1, none⟩ = some (.int .i64 (eAt ks j).num) ∧ w'.cell? ⟨kb, 2, none⟩ = some (.slice ak nk ck)) (by kernel_rfl) ⟨k0, k1, k2⟩ (fun hHeld => ?_)
      refine wT 0 hHeld ?_
      try go_frame
      refine wT 2 hHeld ?_
      try go_frame
      refine wT 3 hHeld ?_
      try go_frame
      refine wT 4 hHeld ?_
      try go_frame
      refine wpAnyH_ready (rs := [1, 5]) (by kernel_rfl) (by simp) ?_
      refine allReadyH_consL rfl (by rfl) (fun K hK => ?_) (allReadyH_consL rfl (by rfl) (fun K hK => ?_) (AllReadyH.nil))
      go_simp
      refine hK.out _ _ ⟨k0, k1, k2⟩ (fun hHeld => ?_)
      clear hK K
      try go_frame
      refine wO 5 (fun K hK => ?_)
      go_simp
      go_at_call 53
      refine (IH.out j hjl vars env (n + sj.length) Nj q base Dj (AsideI D1 w) vj (rows ++ rowsS sj) _ _ _ _ _ _ _ _ _ wx.drew (LJ.out.k (Ext.refl (fun _ => False) wx).drew) HNJ.out qd.out.kd qv.out.kd qk.out.kd HEJ.out (HTY.out j hjl) hlen (by omega) (by omega) (by rw [List.length_append, rowsS_map, List.length_map]; omega)).mono ?_
      obtain ⟨y, hy⟩ : ∃ s, (lowE ds (eAt ks j) env (n + sj.length)).2 = s := ⟨_, rfl⟩
      rw [hy]
      rintro e w5 ⟨v5, D5, rfl, L5, T5⟩
      have HYY := Lib.hid hy
      have L5' := Lib.hid L5
      have T5' := Lib.hid ((LowTo.keep (Ext.refl (fun _ => False) wx).drew).trans T5)
      have hol2 : Hid (∀ k, ov.ownBlock = some k → k < wx.heap.size) := fun k hk => by have := hol.out k hk; have := SX.out; omega
      have HV5 := Lib.hid (HVX.out.low (fun k hk => ⟨(HO.out k hk).1, (HO.out k hk).2.1⟩) T5'.out)
      have R5 := Lib.hid (row_ext RSX.out T5'.out.ext (fun e => by rcases e with e | e; exact hbs.1 e; exact hbs.2 _ e rfl))
      have k0w := T5'.out.cell k0 hbk.1 (fun e => hbk.2 _ e rfl)
      have k1w := T5'.out.cell k1 hbk.1 (fun e => hbk.2 _ e rfl)
      have k2w := T5'.out.cell k2 hbk.1 (fun e => hbk.2 _ e rfl)
      have z3w := T5'.out.cell z3 hbs.1 (fun e => hbs.2 _ e rfl)
      clear L5 T5 hy
      refine hK.out _ _ ⟨k0w, k1w, k2w⟩ (fun hHeld => ?_)
      clear hK K
      try go_frame
      refine wO 6 (fun K hK => ?_)
      go_simp
      obtain ⟨Y1, hWY1⟩ : ∃ yW : World, yW = (w5.alloc (.cells #[.int .i64 y] 3)) := ⟨_, rfl⟩
      rw [← hWY1]
      have kY1 : Keep w5 Y1 := by rw [hWY1]; exact Keep.al w5 (.cells #[.int .i64 y] 3)
      have hzY1 : Hid (Y1.heap.size = w5.heap.size + 1) := by show _ = _; rw [hWY1]; exact World.size_alloc _ _
      have k0Y1 := kY1.cq k0w (fun h => h)
      have k1Y1 := kY1.cq k1w (fun h => h)
      have k2Y1 := kY1.cq k2w (fun h => h)
      have z3Y1 := kY1.cq z3w (fun h => h)
      have HC : Hid (Y1.cell? ⟨w5.heap.size, 0, none⟩ = some (.int .i64 y)) := by show _ = _; rw [hWY1]; simp
      have HV6 := Lib.hid (HV5.out.k kY1)
      have R6 := Lib.hid (row_ext R5.out kY1 (fun h => h))
      have KY6 := Lib.hid kY1
      replace hWY1 := Lib.hid hWY1
      refine hK.out _ _ ⟨k0Y1, k1Y1, k2Y1⟩ (fun hHeld => ?_)
      clear hK K
      try go_frame
      refine wO 7 (fun K hK => ?_)
      refine wp_of_step (ops := #[]) (by rfl) (step_appV (by rfl) (.tmp 117) (.tmp 122) (by rfl) (w.heap.size + 2) ov vs rfl HV6.out w5.heap.size 1 y rfl HC.out (by have := HLJ.out; omega) (by have h5 := HZ.out; have h6 := SX.out; have h7 := T5'.out.ext.size; have h8 := KY6.out.size; omega) ?_)
      intro ve wz hV
      have HVE := Lib.hid hV
      have R7 := Lib.hid (row_ext R6.out hV.ext (fun e => by have := (HV6.out.lt _ e).1; omega))
      obtain ⟨ae, ce, e8, _, _⟩ := hV.row.slice
      obtain ⟨ne, hne⟩ : ∃ m, (vs ++ [y]).length = m := ⟨_, rfl⟩
      rw [hne] at e8
      subst e8
      clear hV hne
      have k0z := HVE.out.ext.cq k0Y1 (fun e => by have h5 := hol.out _ e; have h6 := HKB.out; change kb < _ at h5; omega)
      have k1z := HVE.out.ext.cq k1Y1 (fun e => by have h5 := hol.out _ e; have h6 := HKB.out; change kb < _ at h5; omega)
      have k2z := HVE.out.ext.cq k2Y1 (fun e => by have h5 := hol.out _ e; have h6 := HKB.out; change kb < _ at h5; omega)
      refine hK.out _ _ ⟨k0z, k1z, k2z⟩ (fun hHeld => ?_)
      clear hK K
      try go_frame
      refine wT 8 hHeld ?_
      try go_frame
      refine wO 9 (fun K hK => ?_)
      have g1 : wz.cell? ⟨w.heap.size + 1, 3, none⟩ = some ov := R7.out.cell (i := 3) (by omega)
      have g2 := R7.out.frozen 3
      have hq1 : w.heap.size + 1 ≠ kb := by have := HKB.out; have := HZ.out; omega
      go_simp
      obtain ⟨wy, hWy⟩ : ∃ y : World, y = wz.setCell ⟨w.heap.size + 1, 3, none⟩ (.slice ae ne ce) := ⟨_, rfl⟩
      rw [← hWy]
      have XY : Hid (Ext (fun k => k = w.heap.size + 1) wz wy) := by show Ext _ _ _; rw [hWy]; exact (Ext.refl (fun k => k = w.heap.size + 1) wz).setCell (p := ⟨w.heap.size + 1, 3, none⟩) (.inr rfl) _
      have RY : Hid (wy.rowIs (w.heap.size + 1) 136 5 (fun i => (#[.int .i64 op, .int .i64 num, .int .i64 0, .slice ae ne ce, .slice none 0 0] : Array Value).getD i undef)) := by
        show World.rowIs _ _ _ _ _
        rw [hWy]
        exact (R7.out.set 3 _).congr (fun i hi => by rcases (show i = 0 ∨ i = 1 ∨ i = 2 ∨ i = 3 ∨ i = 4 by omega) with rfl | rfl | rfl | rfl | rfl <;> rfl)
      replace hWy := Lib.hid hWy
      have k0y := XY.out.cq k0z (fun h => hq1 h.symm)
      have k1y := XY.out.cq k1z (fun h => hq1 h.symm)
      have k2y := XY.out.cq k2z (fun h => hq1 h.symm)
      refine hK.out _ _ ⟨k0y, k1y, k2y⟩ (fun hHeld => ?_)
      clear hK K
      try go_frame
      refine wpAnyH_done (by kernel_rfl) ?_ _
      rotate_left
      go_simp
      go_at_call 53
      refine (IH.out j hjl vars env (n + sj.length) Nj q base Dj (AsideI D1 w) vj (rows ++ rowsS sj) _ _ _ _ _ _ _ _ _ wx.drew (LJ.out.k (Ext.refl (fun _ => False) wx).drew) HNJ.out qd.out.kd qv.out.kd qk.out.kd HEJ.out (HTY.out j hjl) hlen (by omega) (by omega) (by rw [List.length_append, rowsS_map, List.length_map]; omega)).mono ?_
      obtain ⟨y, hy⟩ : ∃ s, (lowE ds (eAt ks j) env (n + sj.length)).2 = s := ⟨_, rfl⟩
      rw [hy]
      rintro e w5 ⟨v5, D5, rfl, L5, T5⟩
      have HYY := Lib.hid hy
      have L5' := Lib.hid L5
      have T5' := Lib.hid ((LowTo.keep (Ext.refl (fun _ => False) wx).drew).trans T5)
      have hol2 : Hid (∀ k, ov.ownBlock = some k → k < wx.heap.size) := fun k hk => by have := hol.out k hk; have := SX.out; omega
      have HV5 := Lib.hid (HVX.out.low (fun k hk => ⟨(HO.out k hk).1, (HO.out k hk).2.1⟩) T5'.out)
      have R5 := Lib.hid (row_ext RSX.out T5'.out.ext (fun e => by rcases e with e | e; exact hbs.1 e; exact hbs.2 _ e rfl))
      have k0w := T5'.out.cell k0 hbk.1 (fun e => hbk.2 _ e rfl)
      have k1w := T5'.out.cell k1 hbk.1 (fun e => hbk.2 _ e rfl)
      have k2w := T5'.out.cell k2 hbk.1 (fun e => hbk.2 _ e rfl)
      have z3w := T5'.out.cell z3 hbs.1 (fun e => hbs.2 _ e rfl)
      clear L5 T5 hy
      refine hK.out _ _ ⟨k0w, k1w, k2w⟩ (fun hHeld => ?_)
      clear hK K
      try go_frame
      refine wpAnyH_ready (rs := [1, 6]) (by kernel_rfl) (by simp) ?_
      refine allReadyH_consL rfl (by rfl) (fun K hK => ?_) (allReadyH_consL rfl (by rfl) (fun K hK => ?_) (AllReadyH.nil))
      go_simp
      refine hK.out _ _ ⟨k0w, k1w, k2w⟩ (fun hHeld => ?_)
      clear hK K
      try go_frame
      refine wO 6 (fun K hK => ?_)
      go_simp
      obtain ⟨Y1, hWY1⟩ : ∃ yW : World, yW = (w5.alloc (.cells #[.int .i64 y] 3)) := ⟨_, rfl⟩
      rw [← hWY1]
      have kY1 : Keep w5 Y1 := by rw [hWY1]; exact Keep.al w5 (.cells #[.int .i64 y] 3)
      have hzY1 : Hid (Y1.heap.size = w5.heap.size + 1) := by show _ = _; rw [hWY1]; exact World.size_alloc _ _
      have k0Y1 := kY1.cq k0w (fun h => h)
      have k1Y1 := kY1.cq k1w (fun h => h)
      have k2Y1 := kY1.cq k2w (fun h => h)
      have z3Y1 := kY1.cq z3w (fun h => h)
      have HC : Hid (Y1.cell? ⟨w5.heap.size, 0, none⟩ = some (.int .i64 y)) := by show _ = _; rw [hWY1]; simp
      have HV6 := Lib.hid (HV5.out.k kY1)
      have R6 := Lib.hid (row_ext R5.out kY1 (fun h => h))
      have KY6 := Lib.hid kY1
      replace hWY1 := Lib.hid hWY1
      refine hK.out _ _ ⟨k0Y1, k1Y1, k2Y1⟩ (fun hHeld => ?_)
      clear hK K
      try go_frame
      refine wO 7 (fun K hK => ?_)
      refine wp_of_step (ops := #[]) (by rfl) (step_appV (by rfl) (.tmp 117) (.tmp 122) (by rfl) (w.heap.size + 2) ov vs rfl HV6.out w5.heap.size 1 y rfl HC.out (by have := HLJ.out; omega) (by have h5 := HZ.out; have h6 := SX.out; have h7 := T5'.out.ext.size; have h8 := KY6.out.size; omega) ?_)
      intro ve wz hV
      have HVE := Lib.hid hV
      have R7 := Lib.hid (row_ext R6.out hV.ext (fun e => by have := (HV6.out.lt _ e).1; omega))
      obtain ⟨ae, ce, e8, _, _⟩ := hV.row.slice
      obtain ⟨ne, hne⟩ : ∃ m, (vs ++ [y]).length = m := ⟨_, rfl⟩
      rw [hne] at e8
      subst e8
      clear hV hne
      have k0z := HVE.out.ext.cq k0Y1 (fun e => by have h5 := hol.out _ e; have h6 := HKB.out; change kb < _ at h5; omega)
      have k1z := HVE.out.ext.cq k1Y1 (fun e => by have h5 := hol.out _ e; have h6 := HKB.out; change kb < _ at h5; omega)
      have k2z := HVE.out.ext.cq k2Y1 (fun e => by have h5 := hol.out _ e; have h6 := HKB.out; change kb < _ at h5; omega)
      refine hK.out _ _ ⟨k0z, k1z, k2z⟩ (fun hHeld => ?_)
      clear hK K
      try go_frame
      refine wT 8 hHeld ?_
      try go_frame
      refine wO 9 (fun K hK => ?_)
      have g1 : wz.cell? ⟨w.heap.size + 1, 3, none⟩ = some ov := R7.out.cell (i := 3) (by omega)
      have g2 := R7.out.frozen 3
      have hq1 : w.heap.size + 1 ≠ kb := by have := HKB.out; have := HZ.out; omega
      go_simp
      obtain ⟨wy, hWy⟩ : ∃ y : World, y = wz.setCell ⟨w.heap.size + 1, 3, none⟩ (.slice ae ne ce) := ⟨_, rfl⟩
      rw [← hWy]
      have XY : Hid (Ext (fun k => k = w.heap.size + 1) wz wy) := by show Ext _ _ _; rw [hWy]; exact (Ext.refl (fun k => k = w.heap.size + 1) wz).setCell (p := ⟨w.heap.size + 1, 3, none⟩) (.inr rfl) _
      have RY : Hid (wy.rowIs (w.heap.size + 1) 136 5 (fun i => (#[.int .i64 op, .int .i64 num, .int .i64 0, .slice ae ne ce, .slice none 0 0] : Array Value).getD i undef)) := by
        show World.rowIs _ _ _ _ _
        rw [hWy]
        exact (R7.out.set 3 _).congr (fun i hi => by rcases (show i = 0 ∨ i = 1 ∨ i = 2 ∨ i = 3 ∨ i = 4 by omega) with rfl | rfl | rfl | rfl | rfl <;> rfl)
      replace hWy := Lib.hid hWy
      have k0y := XY.out.cq k0z (fun h => hq1 h.symm)
      have k1y := XY.out.cq k1z (fun h => hq1 h.symm)
      have k2y := XY.out.cq k2z (fun h => hq1 h.symm)
      refine hK.out _ _ ⟨k0y, k1y, k2y⟩ (fun hHeld => ?_)
      clear hK K
      try go_frame
      refine wpAnyH_done (by kernel_rfl) ?_ _
      rotate_left
      go_simp
      obtain ⟨Y1, hWY1⟩ : ∃ yW : World, yW = (w5.alloc (.cells #[.int .i64 y] 3)) := ⟨_, rfl⟩
      rw [← hWY1]
      have kY1 : Keep w5 Y1 := by rw [hWY1]; exact Keep.al w5 (.cells #[.int .i64 y] 3)
      have hzY1 : Hid (Y1.heap.size = w5.heap.size + 1) := by show _ = _; rw [hWY1]; exact World.size_alloc _ _
      have k0Y1 := kY1.cq k0w (fun h => h)
      have k1Y1 := kY1.cq k1w (fun h => h)
      have k2Y1 := kY1.cq k2w (fun h => h)
      have z3Y1 := kY1.cq z3w (fun h => h)
      have HC : Hid (Y1.cell? ⟨w5.heap.size, 0, none⟩ = some (.int .i64 y)) := by show _ = _; rw [hWY1]; simp
      have HV6 := Lib.hid (HV5.out.k kY1)
      have R6 := Lib.hid (row_ext R5.out kY1 (fun h => h))
      have KY6 := Lib.hid kY1
      replace hWY1 := Lib.hid hWY1
      refine hK.out _ _ ⟨k0Y1, k1Y1, k2Y1⟩ (fun hHeld => ?_)
      clear hK K
      try go_frame
      refine wO 1 (fun K hK => ?_)
      go_simp
      refine hK.out _ _ ⟨k0Y1, k1Y1, k2Y1⟩ (fun hHeld => ?_)
      clear hK K
      try go_frame
      refine wO 7 (fun K hK => ?_)
      refine wp_of_step (ops := #[]) (by rfl) (step_appV (by rfl) (.tmp 117) (.tmp 122) (by rfl) (w.heap.size + 2) ov vs rfl HV6.out w5.heap.size 1 y rfl HC.out (by have := HLJ.out; omega) (by have h5 := HZ.out; have h6 := SX.out; have h7 := T5'.out.ext.size; have h8 := KY6.out.size; omega) ?_)
      intro ve wz hV
      have HVE := Lib.hid hV
      have R7 := Lib.hid (row_ext R6.out hV.ext (fun e => by have := (HV6.out.lt _ e).1; omega))
      obtain ⟨ae, ce, e8, _, _⟩ := hV.row.slice
      obtain ⟨ne, hne⟩ : ∃ m, (vs ++ [y]).length = m := ⟨_, rfl⟩
      rw [hne] at e8
      subst e8
      clear hV hne
      have k0z := HVE.out.ext.cq k0Y1 (fun e => by have h5 := hol.out _ e; have h6 := HKB.out; change kb < _ at h5; omega)
      have k1z := HVE.out.ext.cq k1Y1 (fun e => by have h5 := hol.out _ e; have h6 := HKB.out; change kb < _ at h5; omega)
      have k2z := HVE.out.ext.cq k2Y1 (fun e => by have h5 := hol.out _ e; have h6 := HKB.out; change kb < _ at h5; omega)
      refine hK.out _ _ ⟨k0z, k1z, k2z⟩ (fun hHeld => ?_)
      clear hK K
      try go_frame
      refine wT 8 hHeld ?_
      try go_frame
      refine wO 9 (fun K hK => ?_)
      have g1 : wz.cell? ⟨w.heap.size + 1, 3, none⟩ = some ov := R7.out.cell (i := 3) (by omega)
      have g2 := R7.out.frozen 3
      have hq1 : w.heap.size + 1 ≠ kb := by have := HKB.out; have := HZ.out; omega
      go_simp
      obtain ⟨wy, hWy⟩ : ∃ y : World, y = wz.setCell ⟨w.heap.size + 1, 3, none⟩ (.slice ae ne ce) := ⟨_, rfl⟩
      rw [← hWy]
      have XY : Hid (Ext (fun k => k = w.heap.size + 1) wz wy) := by show Ext _ _ _; rw [hWy]; exact (Ext.refl (fun k => k = w.heap.size + 1) wz).setCell (p := ⟨w.heap.size + 1, 3, none⟩) (.inr rfl) _
      have RY : Hid (wy.rowIs (w.heap.size + 1) 136 5 (fun i => (#[.int .i64 op, .int .i64 num, .int .i64 0, .slice ae ne ce, .slice none 0 0] : Array Value).getD i undef)) := by
        show World.rowIs _ _ _ _ _
        rw [hWy]
        exact (R7.out.set 3 _).congr (fun i hi => by rcases (show i = 0 ∨ i = 1 ∨ i = 2 ∨ i = 3 ∨ i = 4 by omega) with rfl | rfl | rfl | rfl | rfl <;> rfl)
      replace hWy := Lib.hid hWy
      have k0y := XY.out.cq k0z (fun h => hq1 h.symm)
      have k1y := XY.out.cq k1z (fun h => hq1 h.symm)
      have k2y := XY.out.cq k2z (fun h => hq1 h.symm)
      refine hK.out _ _ ⟨k0y, k1y, k2y⟩ (fun hHeld => ?_)
      clear hK K
      try go_frame
      refine wpAnyH_done (by kernel_rfl) ?_ _
      rotate_left
      all_goals
        have KX7 := KXh
        have HBX : Hid (∀ r, (Value.slice ae ne ce).ownBlock = some r → ov.ownBlock = some r ∨ w5.heap.size ≤ r) := fun r hr => (HVE.out.blk r hr).imp id (fun h => Nat.le_trans KY6.out.size h)
        have HON := Lib.hid (own_next HO.out hol2.out T5'.out L5'.out HBX.out)
        have HON0 := Lib.hid (own_next HO.out hol2.out T5'.out L5'.out (v2 := ov) (fun r hr => .inl hr))
        have HDB : Hid (∀ k, D5 k → k ≠ w.heap.size + 1) := fun k hk e => by
          have h5 := KXh.out.size
          have h6 := HZ.out
          rcases T5'.out.sub k hk with h | h
          · exact HY.out.2 k h e
          · omega
        have HVB : Hid (∀ k, v5.ownBlock = some k → k ≠ w.heap.size + 1) := fun k hk e => by
          have h5 := KXh.out.size
          have h6 := HZ.out
          rcases T5'.out.blk k hk with h | h
          · exact HY.out.1 k h e
          · omega
        have LF := Lib.hid (((L5'.out.k KY6.out).ext HVE.out.ext (fun e => (HON0.out q e).1 rfl) (fun k hk e => (HON0.out k e).2.2 hk) (fun k hk e => (HON0.out k e).2.1 hk)).ext XY.out (fun e => hbs.1 e.symm) (fun k hk e => HDB.out k hk e) (fun k hk e => HVB.out k hk e))
        have TF := Lib.hid (((((HT.out.post KXh.out).trans T5'.out).post KY6.out).aside HVE.out.ext (fun k hk => by have := (HV6.out.lt k hk).1; have := S2.out; omega)).aside XY.out (fun k hk => by have := S2.out; omega))
        have VF := Lib.hid (HVE.out.row.ext XY.out (fun g hg e => by have := (HVE.out.row.lt g hg).1; omega))
        have ZF : Hid (w.heap.size + 2 ≤ wy.heap.size) := by
          show _ ≤ _
          have h5 := TF.out.ext.size
          have h6 := XY.out.size
          have h7 := HVE.out.ext.size
          have h8 := KY6.out.size
          have h9 := T5'.out.ext.size
          have h1 := KXh.out.size
          have h2 := HZ.out
          omega
        go_wp2
        go_roundw
        case rel => exact ⟨j + 1, v5, .slice ae ne ce, D5, by omega, by go_num, by
          show VR _ _ _ _
          rw [HLA.out, HSJ.out, HVS.out, HYY.out]; exact VF.out, RY.out, by
          show LowSt _ _ _ _ _ _ _ _
          rw [HLA.out, HSJ.out]
          exact lowSt_cast LF.out (by rw [List.length_append, Nat.add_assoc]) (by rw [List.append_assoc, ← rowsS_app]), TF.out, HON.out, ZF.out, HVB.out, HDB.out⟩
        case measure => simp [intOf]; omega
    · have HJ : Hid (j = m) := by show _ = _; omega
      have HTK : Hid (ks.take j = ks) := by show _ = _; rw [HJ.out, ← HM.out, List.take_length]
      have e8 := e9.out
      subst e8
      have LJ : Hid (LowSt wo base q 91 #[.slice a0 n0 c0, .int .i64 Nj, vj] Dj vj (rows ++ rowsS sj)) := by show LowSt _ _ _ _ _ _ _ _; rw [HNJ.out]; exact HL.out
      have OA := Lib.hid (HV.out.owns (by have := HLJ.out; omega))
      have hol := Lib.hid (fun k hk => (HV.out.lt k hk).1)
      go_wp2_with fail
      refine (implAdd base q (.slice a0 n0 c0) vj Nj Dj (rows ++ rowsS sj) op num 0 vs [] aO j cO none 0 0 (fun k => (Value.slice aO j cO).ownBlock = some k) (fun _ => False) _ LJ.out OA.out (Own.nil _ _ _ _) (fun k hk => by rcases hk with hk | hk; exact ⟨(HO.out k hk).2.2, (HO.out k hk).1, (HO.out k hk).2.1⟩; exact hk.elim) (fun _ _ h => h) (by rw [List.length_append, rowsS_map, List.length_map]; omega) hnj0 hnj1).mono ?_
      rintro e w5 ⟨rfl, v5, D5, L5, S5, X5, B5⟩
      have L5' := Lib.hid L5
      have T5 := Lib.hid (HT.out.add (Ext.refl _ _) X5 S5 (fun k hk => by rcases hk with hk | hk; have := hol.out k hk; have := S2.out; omega; exact hk.elim) B5)
      clear L5 S5 X5 B5
      go_wp2_with fail
      refine fin_ hQ ⟨v5, D5, ret_i ?_, ?_, (LowTo.keep KW.out).trans T5.out⟩
      · rw [← HTK.out, HSJ.out]; exact HNJ.out
      · have e1 : lowA ds ks env n = (sj, vs) := by
          have h1 := HSJ.out
          have h2 := HVS.out
          rw [HTK.out] at h1 h2
          rw [← h1, ← h2]
        rw [e1]
        refine lowSt_cast L5'.out (by rw [HNJ.out, show ((n + sj.length : Nat) : Int) + 1 = ((n + (sj ++ [StepL.mk op num 0 vs []]).length : Nat) : Int) by rw [List.length_append, List.length_singleton]; omega]) (by rw [rowsS_app, rowsS_one, List.append_assoc])
end
end Go.Proofs.YtkapldpmjkdmcaaGreat
/- kid of the program: the block of a kid. -/
namespace Go.Proofs.YtkapldpmjkdmcaaGreat
open Go.RowKit

/-- What kid does for one expression: f fields more. -/
def LwK (ds : List DeclL) (sg : List SigL) (e : ExprL) : Prop := ∀ (vars env : List Int) (n f : Nat) (N F : Int) (q base : Nat) (D : Nat → Prop) (v : Value) (rows : List (List Dat)) (a0 : Option Addr) (n0 c0 : Nat) (av : Option Addr) (nv cv : Nat) (a : Option Addr) (m c : Nat) (w : World),
  LowSt w base q 91 #[.slice a0 n0 c0, .int .i64 N, v] D v rows → N = (n : Int) → F = (f : Int) → f ≤ 3 → Rd w (fun _ => True) (encDecls ds) (.slice a0 n0 c0) → Rd w (fun _ => True) (encInts env) (.slice av nv cv) → Rd w (fun _ => True) (encExprs e.kids) (.slice a m c) →
  0 ≤ tyE ds sg vars e → vars.length = env.length + f → env.length + f + 4 * nE e ≤ 4000 → n + f + 4 * nE e ≤ 4000 →
  Calls Tryz.prog 108 #[.pointer (some ⟨q, 0, none⟩), .agg #[.int .i64 e.op, .int .i64 e.num, .slice a m c], .slice av nv cv, .int .i64 F] w fun r w' =>
    ∃ a' n' c', r = .returned (.agg #[.slice a' n' c', .int .i64 (lowE ds e (env ++ numsL n f) (n + f)).2]) ∧ Own w' (fun k => w.heap.size ≤ k) (encSteps (lowE ds e (env ++ numsL n f) (n + f)).1) (.slice a' n' c') ∧ Keep w w'

set_option maxRecDepth 100000 in
set_option maxHeartbeats 2000000 in
theorem implKid_of (ds : List DeclL) (sg : List SigL) (e : ExprL) (IH0 : LwI ds sg e) : LwK ds sg e := by
  intro vars env n f N F q base D v rows a0 n0 c0 av nv cv a m c w hL hN hF hf r0 rv re hty hlen hB1 hB2
  refine calls_k fun Q hQ => ?_
  have IH := Lib.hid IH0
  obtain ⟨op, hop⟩ : ∃ o, e.op = o := ⟨_, rfl⟩
  obtain ⟨num, hnum⟩ : ∃ o, e.num = o := ⟨_, rfl⟩
  have HO := Lib.hid hop
  have HU := Lib.hid hnum
  rw [hop, hnum]
  have HN := Lib.hid hN
  have HF := Lib.hid hF
  have hn0 : 0 ≤ N := by omega
  have hn1 : N ≤ 5000 := by omega
  have hf0 : 0 ≤ F := by omega
  have hf1 : F ≤ 3 := by omega
  have KA := (Keep.al w (.cells #[.int .i64 op, .int .i64 num, .slice a m c] 58)).trans (Keep.al _ (.cells #[.slice none 0 0, .int .i64 0] 69))
  have LA := Lib.hid (hL.k KA)
  have RZ := rowOf (w.alloc (.cells #[.int .i64 op, .int .i64 num, .slice a m c] 58)) #[.slice none 0 0, .int .i64 0] 69
  simp only [World.size_alloc] at RZ
  have RZ := Lib.hid RZ
  have RE := Lib.hid ((rowOf w #[.int .i64 op, .int .i64 num, .slice a m c] 58).alloc (.cells #[.slice none 0 0, .int .i64 0] 69))
  have sA : ((w.alloc (.cells #[.int .i64 op, .int .i64 num, .slice a m c] 58)).alloc (.cells #[.slice none 0 0, .int .i64 0] 69)).heap.size = w.heap.size + 2 := by simp
  have SA := Lib.hid sA
  have qd := Lib.hid ((r0.lt.mono (D' := fun k => k < w.heap.size) (fun k h => h.2)).k KA)
  have qv := Lib.hid ((rv.lt.mono (D' := fun k => k < w.heap.size) (fun k h => h.2)).k KA)
  have qk := Lib.hid ((re.lt.mono (D' := fun k => k < w.heap.size) (fun k h => h.2)).k KA)
  have KA' := Lib.hid KA
  have y0 : ((w.alloc (.cells #[.int .i64 op, .int .i64 num, .slice a m c] 58)).alloc (.cells #[.slice none 0 0, .int .i64 0] 69)).cell? ⟨q, 0, none⟩ = some (.slice a0 n0 c0) := LA.out.row.cell (i := 0) (by simp)
  have y1 : ((w.alloc (.cells #[.int .i64 op, .int .i64 num, .slice a m c] 58)).alloc (.cells #[.slice none 0 0, .int .i64 0] 69)).cell? ⟨q, 1, none⟩ = some (.int .i64 N) := LA.out.row.cell (i := 1) (by simp)
  have hql := hL.qlt
  clear KA hop hnum hN hF r0 rv re IH0 hL sA
  go_enter Tryz.func108, Tryz.ntmps108
  go_wp2_with fail
  obtain ⟨W, hW⟩ : ∃ yW : World, yW = (w.alloc (.cells #[.int .i64 op, .int .i64 num, .slice a m c] 58)).alloc (.cells #[.slice none 0 0, .int .i64 0] 69) := ⟨_, rfl⟩
  rw [← hW] at y0 y1 LA RZ RE SA qd qv qk KA' ⊢
  clear hW
  have hw5 : IntKind.i64.wrap (N + F) = N + F := IntWalk.i64_in _ (by omega)
  refine wp_region_held_drew (S := fun w' => w'.cell? ⟨q, 0, none⟩ = some (.slice a0 n0 c0) ∧ w'.cell? ⟨q, 1, none⟩ = some (.int .i64 N)) (by kernel_rfl) ⟨y0, y1⟩ (fun hHeld => ?_)
  refine wT 0 hHeld ?_
  try go_frame
  refine wT 1 hHeld ?_
  try go_frame
  refine wT 2 hHeld ?_
  try go_frame
  refine wT 3 hHeld ?_
  try go_frame
  refine wT 4 hHeld ?_
  try go_frame
  refine wT 5 hHeld ?_
  try go_frame
  refine wT 6 hHeld ?_
  try go_frame
  refine wT 7 hHeld ?_
  try go_frame
  refine wT 8 hHeld ?_
  try go_frame
  refine wT 9 hHeld ?_
  try go_frame
  refine wT 10 hHeld ?_
  try go_frame
  refine wO 11 (fun K hK => ?_)
  go_simp
  obtain ⟨Y1, hWY1⟩ : ∃ yW : World, yW = (W.alloc (.cells #[.slice none 0 0, .int .i64 0, .slice none 0 0] 91)).drew := ⟨_, rfl⟩
  rw [← hWY1]
  have kY1 : Keep W.drew Y1 := by rw [hWY1]; exact Keep.al W.drew (.cells #[.slice none 0 0, .int .i64 0, .slice none 0 0] 91)
  have hzY1 : Hid (Y1.heap.size = W.heap.size + 1) := by show _ = _; rw [hWY1]; exact World.size_alloc _ _
  have y0Y1 := Keep.at kY1 y0
  have y1Y1 := Keep.at kY1 y1
  have RI0 : Hid (Y1.rowIs W.heap.size 91 3 (fun i => (#[.slice none 0 0, .int .i64 0, .slice none 0 0] : Array Value).getD i undef)) := by show World.rowIs _ _ _ _ _; rw [hWY1]; exact rowOf W.drew #[.slice none 0 0, .int .i64 0, .slice none 0 0] 91
  have KI := Lib.hid (Keep.dt kY1)
  replace hWY1 := Lib.hid hWY1
  refine hK.out _ _ ⟨y0Y1, y1Y1⟩ (fun hHeld => ?_)
  clear hK K
  try go_frame
  refine wO 12 (fun K hK => ?_)
  obtain ⟨qi, hqi⟩ : ∃ g, g = W.heap.size := ⟨_, rfl⟩
  rw [← hqi]
  have RI : Hid (Y1.rowIs qi 91 3 (fun i => (#[.slice none 0 0, .int .i64 0, .slice none 0 0] : Array Value).getD i undef)) := by show World.rowIs _ _ _ _ _; rw [hqi]; exact RI0.out
  have HQI := Lib.hid hqi
  clear hqi
  have v0 : Y1.cell? ⟨qi, 0, none⟩ = some (.slice none 0 0) := RI.out.cell (i := 0) (by omega)
  have v1 : Y1.cell? ⟨qi, 1, none⟩ = some (.int .i64 0) := RI.out.cell (i := 1) (by omega)
  have v2 : Y1.cell? ⟨qi, 2, none⟩ = some (.slice none 0 0) := RI.out.cell (i := 2) (by omega)
  have f0 := RI.out.frozen 0
  have f1 := RI.out.frozen 1
  have f2 := RI.out.frozen 2
  go_simp
  obtain ⟨wi, hWi⟩ : ∃ yW : World, yW = ((Y1.setCell ⟨qi, 0, none⟩ (.slice a0 n0 c0)).setCell ⟨qi, 1, none⟩ (.int .i64 (N + F))).setCell ⟨qi, 2, none⟩ (.slice none 0 0) := ⟨_, rfl⟩
  rw [← hWi]
  have XI : Hid (Ext (fun k => k = qi) Y1 wi) := by show Ext _ _ _; rw [hWi]; exact (((Ext.refl (fun k => k = qi) Y1).setCell (p := ⟨qi, 0, none⟩) (.inr rfl) _).setCell (p := ⟨qi, 1, none⟩) (.inr rfl) _).setCell (p := ⟨qi, 2, none⟩) (.inr rfl) _
  have RI2 : Hid (wi.rowIs qi 91 3 (fun i => (#[.slice a0 n0 c0, .int .i64 (N + F), .slice none 0 0] : Array Value).getD i undef)) := by
    show World.rowIs _ _ _ _ _
    rw [hWi]
    exact (((RI.out.set 0 _).set 1 _).set 2 _).congr (fun i hi => by rcases (show i = 0 ∨ i = 1 ∨ i = 2 by omega) with rfl | rfl | rfl <;> rfl)
  have hqq : q ≠ qi := by have := HQI.out; have := SA.out; omega
  have y0i := XI.out.cq y0Y1 (fun h => hqq h)
  have y1i := XI.out.cq y1Y1 (fun h => hqq h)
  clear hWi v0 v1 v2 f0 f1 f2
  refine hK.out _ _ ⟨y0i, y1i⟩ (fun hHeld => ?_)
  clear hK K
  try go_frame
  refine wpAnyH_done (by kernel_rfl) ?_ _
  rotate_left
  all_goals
    have KWI := Lib.hid ((Keep.to KI.out).trans XI.out)
    have hqw : qi = w.heap.size + 2 := by have := HQI.out; have := SA.out; omega
    have hsi : w.heap.size + 3 ≤ wi.heap.size := by have := RI2.out.lt; omega
    have qd2 := Lib.hid (qd.out.ext KWI.out (fun k hk e => by omega))
    have qv2 := Lib.hid (qv.out.ext KWI.out (fun k hk e => by omega))
    have qk2 := Lib.hid (qk.out.ext KWI.out (fun k hk e => by omega))
    have RZ2 := Lib.hid (row_ext RZ.out KWI.out (fun h => by omega))
    have RE2 := Lib.hid (row_ext RE.out KWI.out (fun h => by omega))
    have hv5 : env.length = nv := (ints_at qv2.out).1
    obtain ⟨s, hs⟩ : ∃ s, (lowE ds e (env ++ numsL n f) (n + f)).1 = s := ⟨_, rfl⟩
    obtain ⟨y, hy⟩ : ∃ s, (lowE ds e (env ++ numsL n f) (n + f)).2 = s := ⟨_, rfl⟩
    have hsl : s.length ≤ nE e := by rw [← hs]; exact lowE_len ds _ _ _
    rw [hs, hy] at hQ
    have HS := Lib.hid hs
    have HY := Lib.hid hy
    have HQW := Lib.hid hqw
    have HSI := Lib.hid hsi
    clear hs hy qd qv qk RZ RE LA RI RI0 hqw hsi
    go_wp2_with fail
    refine (cloneInts av nv cv env _ wi qv2.out.toInts (by omega)).mono ?_
    rintro e0 wc ⟨vc, rfl, hvc, kc⟩
    have Z0 : Hid (VR wc wi.heap.size vc (env ++ numsL n 0)) := by show VR _ _ _ _; rw [numsL_zero, List.append_nil]; exact hvc
    have KC := Lib.hid kc
    clear hvc kc
    go_wp2_with fail
    go_loopw [10, 27] (fun ov iv wr => ∃ (j : Nat) (vk : Value), vk = ov ∧ j ≤ f ∧ iv = .int .i64 j ∧ Hid (VR wr wi.heap.size ov (env ++ numsL n j)) ∧ Hid (Keep wi wr)) (fun _ iv _ => f - (intOf iv).toNat)
    case atStart => exact ⟨0, _, rfl, Nat.zero_le _, rfl, Z0, KC⟩
    case round =>
      obtain ⟨j, vk, rfl, hj, rfl, HB, HK⟩ := hrel
      obtain ⟨wo, rfl⟩ : ∃ wo : World, wo = wr := ⟨_, rfl⟩
      clear Z0 KC
      have hwo := HK.out.size
      by_cases hlt : (j : Int) < F
      · have y1o := HK.out.cq y1i (fun h => h)
        have hj3 : j < f := by have := HF.out; omega
        have hw6 : IntKind.i64.wrap (N + (j : Int)) = N + (j : Int) := IntWalk.i64_in _ (by omega)
        have KA := Keep.al wo (.cells #[.int .i64 (N + (j : Int))] 3)
        have B1 := Lib.hid (HB.out.k KA)
        have bl := Lib.hid HB.out.lt
        have hc0 : (wo.alloc (.cells #[.int .i64 (N + (j : Int))] 3)).cell? ⟨wo.heap.size, 0, none⟩ = some (.int .i64 (N + (j : Int))) := by simp
        have K1 := Lib.hid (HK.out.trans KA)
        clear KA
        go_wp2_with (at_builtin; go_must (refine wpList_appVR _ rfl (.tmp 30) (.tmp 37) rfl wi.heap.size _ (env ++ numsL n j) rfl B1.out wo.heap.size 1 (N + (j : Int)) rfl hc0 (by rw [List.length_append, numsL_len]; omega) (by simp; omega) ?_); intro v1 w1 hV)
        have HV := Lib.hid hV
        clear hV
        go_roundw
        case rel => exact ⟨j + 1, _, rfl, by omega, by go_num, by
          show VR _ _ _ _
          rw [numsL_succ, ← List.append_assoc, show ((n + j : Nat) : Int) = N + (j : Int) by have := HN.out; omega]
          exact HV.out.row, K1.out.then_ HV.out.ext (fun k hk e => by have := bl.out k e; omega)⟩
        case measure => simp [intOf]; omega
      · have hjf : j = f := by have := HF.out; omega
        subst hjf
        obtain ⟨am, cm, e9, hcm, _⟩ := HB.out.slice
        have OM := HB.out.owns (by rw [List.length_append, numsL_len]; omega)
        have hob := HB.out.lt
        obtain ⟨nm, hnm⟩ : ∃ m, (env ++ numsL n j).length = m := ⟨_, rfl⟩
        rw [hnm] at e9
        subst e9
        have RM := Lib.hid (OM.read.mono (D' := fun k => k < w.heap.size ∨ wi.heap.size ≤ k) (fun k hk => .inr (hob k hk).1))
        have qdo := Lib.hid ((qd2.out.k HK.out).mono (D' := fun k => k < w.heap.size ∨ wi.heap.size ≤ k) (fun k hk => .inl hk))
        have qko := Lib.hid ((qk2.out.k HK.out).mono (D' := fun k => k < w.heap.size ∨ wi.heap.size ≤ k) (fun k hk => .inl hk))
        have LQ : Hid (LowSt wo wi.heap.size qi 91 #[.slice a0 n0 c0, .int .i64 (N + F), .slice none 0 0] (fun _ => False) (.slice none 0 0) []) := ⟨row_ext RI2.out HK.out (fun h => h), Acc.nil _ _ _ _ _, fun h => h, fun k hk => (by cases hk), fun _ h => h.elim, hwo⟩
        have hNF : N + F = ((n + j : Nat) : Int) := by have := HN.out; have := HF.out; omega
        have RE3 := row_ext RE2.out HK.out (fun h => h)
        have RZ3 := Lib.hid (row_ext RZ2.out HK.out (fun h => h))
        have e0 : wo.cell? ⟨w.heap.size, 0, none⟩ = some (.int .i64 op) := RE3.cell (i := 0) (by simp)
        have e1 : wo.cell? ⟨w.heap.size, 1, none⟩ = some (.int .i64 num) := RE3.cell (i := 1) (by simp)
        have e2 : wo.cell? ⟨w.heap.size, 2, none⟩ = some (.slice a m c) := RE3.cell (i := 2) (by simp)
        have hc := IH.out vars (env ++ numsL n j) (n + j) (N + F) qi wi.heap.size (fun _ => False) (fun k => k < w.heap.size ∨ wi.heap.size ≤ k) (.slice none 0 0) [] a0 n0 c0 am nm cm a m c wo LQ.out hNF qdo.out RM.out qko.out (fun k hk => ⟨fun e => by have := RI2.out.lt; have := HQW.out; have := HSI.out; omega, fun e => by cases e⟩) hty (by rw [hnm, hlen, ← hnm, List.length_append, numsL_len]) (by rw [List.length_append, numsL_len]; omega) hB2 (by simp; omega)
        rw [HO.out, HU.out, HS.out, HY.out] at hc
        replace hc := Lib.hid hc
        clear hNF RE3 OM hob hnm
        go_wp2_with fail
        refine hc.out.mono ?_
        clear hc
        rintro e5 w5 ⟨v5, D5, rfl, L5, T5⟩
        obtain ⟨a1', c1', e9, hc1, ho1⟩ := L5.acc.own (by omega) (by rw [List.nil_append, rowsS_map, List.length_map]; omega)
        have hl : (rowsS s).length = s.length := by rw [rowsS_map, List.length_map]
        rw [List.nil_append, hl] at e9
        rw [List.nil_append] at ho1
        subst e9
        have z2 := L5.row.cell (i := 2) (by simp)
        have hT : ∀ k, (k = qi ∨ (Value.slice none 0 0).ownBlock = some k) → k = qi := fun k hk => by
          rcases hk with hk | hk
          · exact hk
          · cases hk
        have RZ4 := row_ext RZ3.out T5.ext (fun h => by have := hT _ h; have := HQW.out; omega)
        have b0 := RZ4.cell (i := 0) (by simp)
        have b1 := RZ4.cell (i := 1) (by simp)
        have f0 := RZ4.frozen 0
        have f1 := RZ4.frozen 1
        have hD5 : ∀ k, (D5 k ∨ wi.heap.size ≤ k) → wi.heap.size ≤ k := fun k hk => by
          rcases hk with h | h
          · rcases T5.sub k h with h | h
            · exact h.elim
            · omega
          · exact h
        have X := ((Ext.refl (fun k => k = w.heap.size + 1) w5).setCell (p := ⟨w.heap.size + 1, 0, none⟩) (.inr rfl) (.slice a1' s.length c1')).setCell (p := ⟨w.heap.size + 1, 1, none⟩) (.inr rfl) (.int .i64 y)
        have KF := ((((KA'.out.then_ KWI.out (fun i hi h => by have := HQW.out; omega)).trans HK.out).then_ T5.ext (fun i hi h => by have := hT _ h; have := HQW.out; omega)).then_ X (fun i hi h => by omega))
        have OF := (ho1.ext X (fun k hk e => by have := hD5 k hk; have := HSI.out; omega)).mono (D' := fun k => w.heap.size ≤ k) (fun k hk => by have := hD5 k hk; have := HSI.out; omega)
        simp at z2 b0 b1
        have OF' := Lib.hid OF
        have KF' := Lib.hid KF
        clear L5 T5 RZ4 OF KF ho1 hT hD5 X
        go_wp2_with fail
        exact bodyPost_ret (v := .agg #[.slice a1' s.length c1', .int .i64 y]) (by simp [results, Tryz.results108, go_sem, b0, b1]) rfl (fin_ hQ ⟨a1', s.length, c1', rfl, OF'.out, KF'.out⟩)
end Go.Proofs.YtkapldpmjkdmcaaGreat
