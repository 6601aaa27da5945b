/- The program's types of expressions: other operations. -/
import Derived.Test.YtaeddcnakilnlaaMR
import Derived.Test.YtaeddcnakilnlaaWTyI3
import Derived.Test.YtaeddcnakilnlaaME
import Derived.Test.YtaeddcnakilnlaaMU
import Derived.Test.YtaeddcnakilnlaaWTyI5
import Derived.Test.YtaeddcnakilnlaaWTyS5
import Derived.Test.YtaeddcnakilnlaaWNodes
import Derived.Test.YtaeddcnakilnlaaShelf
namespace Go.Proofs.Ytaeddcnakilnlaa
open Go.RowKit

theorem simple_neg {ds : List DeclL} {sg : List SigL} (hok : sigsOk ds sg = true) {op num : Int} {tys : List Int} {i : Nat} (hi : i < tys.length) (h : iAt tys i < 0) : simpleL ds sg op num tys = -1 := by
  obtain ⟨ht, _, _, hs⟩ := sigsOk_parts hok
  have key : ∀ xs : List Int, (∀ k, k < xs.length → 0 ≤ iAt xs k) → tys ≠ xs := fun xs hx e => by
    subst e
    have := hx i hi
    omega
  have k2 : ∀ k : Nat, k < 2 → 0 ≤ iAt [0, 0] k := fun k hk => by
    rcases (show k = 0 ∨ k = 1 by omega) with rfl | rfl <;> simp [iAt]
  have k1 : ∀ k : Nat, k < 1 → 0 ≤ iAt [0] k := fun k hk => by
    obtain rfl : k = 0 := by omega
    simp [iAt]
  unfold simpleL
  split
  · exact if_neg (fun h => key [] (fun k hk => absurd hk (by simp)) h.1)
  split
  · exact if_neg (fun h => key [0, 0] k2 h.2)
  split
  · exact if_neg (fun h => key [0] k1 h.2)
  split
  · refine if_neg (fun h' => ?_)
    obtain ⟨_, h2, h3, h4⟩ := h'
    obtain ⟨g1, g2, g3⟩ := isArr_parts h3
    rcases (show i = 0 ∨ i = 1 by omega) with rfl | rfl
    · omega
    · have := isT_iff.1 (declOk_arrow (typesOk_decl ht (k := (iAt tys 0).toNat - 1) (by omega)) g3).1
      omega
  split
  · exact if_neg (fun h' => key _ (fun k hk => (allT_at (conFieldsL_ok ht num).2 hk).1) h'.2)
  split
  · refine if_neg (fun h' => key _ (fun k hk => ?_) h'.2.2)
    exact (allT_at (sigOk_parts (hs _ (by omega))).2.1 hk).1
  split
  · refine if_neg (fun h' => key _ (fun k hk => ?_) h'.2.2.2)
    have hk2 : k < (sgAt sg num.toNat).params.length := by rw [List.length_take] at hk; omega
    have h5 := (allT_at (sigOk_parts (hs num.toNat (by omega))).2.1 hk2).1
    rw [List.length_take] at hk
    have e : iAt ((sgAt sg num.toNat).params.take ((sgAt sg num.toNat).params.length - 1)) k = iAt (sgAt sg num.toNat).params k := by simp [iAt, List.getD, show k < (sgAt sg num.toNat).params.length - 1 by omega, List.getElem?_eq_getElem hk2]
    rw [e]; exact h5
  · rfl

section
variable (ds : List DeclL) (sg : List SigL) (hok : sigsOk ds sg = true)
include hok

theorem implSimple (op num : Int) (hnum : fitN op num) (tys : List Int) (D : Nat → Prop) (a0 : Option Addr) (n0 c0 : Nat) (a1 : Option Addr) (n1 c1 : Nat) (a : Option Addr) (n c : Nat) (E : Nat → Prop) (w : World) (hp : SR w D ds sg a0 n0 c0 a1 n1 c1) (h : IntsL w E a n tys) (hn : n ≤ 1049576) :
    Calls Try.prog 120 #[.agg #[.slice a0 n0 c0, .slice a1 n1 c1], .int .i64 op, .int .i64 num, .slice a n c] w (SimR ds sg op num tys w) := by
  by_cases hr : op < 0 ∨ 13 < op ∨ op = 7 ∨ op = 8 ∨ op = 12 ∨ op = 13
  · exact implSim_other ds sg hok op hr num tys D a0 n0 c0 a1 n1 c1 a n c E w hp h hn
  · rcases (show op = 0 ∨ op = 1 ∨ op = 2 ∨ op = 3 ∨ op = 4 ∨ op = 5 ∨ op = 6 ∨ op = 9 ∨ op = 10 ∨ op = 11 by omega) with rfl | rfl | rfl | rfl | rfl | rfl | rfl | rfl | rfl | rfl
    · exact implSim_0 ds sg hok num tys D a0 n0 c0 a1 n1 c1 a n c E w hp h hn
    · exact implSim_1 ds sg hok num tys D a0 n0 c0 a1 n1 c1 a n c E w hp h hn
    · exact implSim_2 ds sg hok num tys D a0 n0 c0 a1 n1 c1 a n c E w hp h hn
    · exact implSim_3 ds sg hok num tys D a0 n0 c0 a1 n1 c1 a n c E w hp h hn
    · exact implSim_4 ds sg hok num tys D a0 n0 c0 a1 n1 c1 a n c E w hp h hn
    · exact implSim_5 ds sg hok num tys D a0 n0 c0 a1 n1 c1 a n c E w hp h hn
    · exact implSim_6 ds sg hok num tys D a0 n0 c0 a1 n1 c1 a n c E w hp h hn hnum.1 hnum.2
    · exact implSim_9 ds sg hok num tys D a0 n0 c0 a1 n1 c1 a n c E w hp h hn
    · exact implSim_10 ds sg hok num tys D a0 n0 c0 a1 n1 c1 a n c E w hp h hn
    · exact implSim_11 ds sg hok num tys D a0 n0 c0 a1 n1 c1 a n c E w hp h hn

set_option maxRecDepth 100000 in
set_option maxHeartbeats 4000000 in
theorem implTy_other (op : Int) (hop : op ≠ 12 ∧ op ≠ 13 ∧ op ≠ 7 ∧ op ≠ 8) (num : Int) (hnum : fitN op num) (es : List ExprL) (IH0 : ∀ j, j < es.length → TyI ds sg (eAt es j)) : TyI ds sg (.mk op num es) := by
  intro a0 n0 c0 a1 n1 c1 v vars a n c w base D hp hv h hD hb hlen hall
  refine calls_k fun Q hQ => ?_
  change Rd w D (encExprs es) _ at h
  rw [nE] at hlen
  simp only [ExprL.op, ExprL.num]
  obtain ⟨av, cv, rfl, hvc, hvo⟩ := hv.slice
  have VBL := Lib.hid hv.lt
  have ht := (sigsOk_parts hok).1
  have hf := Few.of_ok ht
  have hn0 : n0 ≤ 4 := by have := (decls_at hp.1).1; have := typesOk_len ht; omega
  have hvl : vars.length ≤ 1049576 := by omega
  have K0 := (Keep.al w (.cells #[.slice a0 n0 c0, .slice a1 n1 c1] 85)).trans (Keep.al _ (.cells #[.int .i64 op, .int .i64 num, .slice a n c] 53))
  have R0 := (rowOf w #[.slice a0 n0 c0, .slice a1 n1 c1] 85).alloc (.cells #[.int .i64 op, .int .i64 num, .slice a n c] 53)
  have R1 := rowOf (w.alloc (.cells #[.slice a0 n0 c0, .slice a1 n1 c1] 85)) #[.int .i64 op, .int .i64 num, .slice a n c] 53
  simp only [World.size_alloc] at R1
  have hv0 := hv.k K0
  have KT := Lib.hid (Keep.to (S := fun r => (Value.slice av vars.length cv).ownBlock = some r) K0)
  obtain ⟨e1, hnc, hnm, hat⟩ := exprs_at h
  have HL := Lib.hid e1
  have HA := Lib.hid hat
  have hn30 : n ≤ 262394 := by have := nEs_len es; omega
  have HOK := Lib.hid hok
  have HAll := Lib.hid hall
  have HLen := Lib.hid hlen
  have HT := Lib.hid ht
  have HD := Lib.hid hD
  have IH := Lib.hid IH0
  have HV := Lib.hid hv
  have HVO := Lib.hid hvo
  have HNUM := Lib.hid hnum
  clear e1 hat hok hall ht IH0 hD hv hvo hnum
  have HP := Lib.hid hp
  have HB := Lib.hid hb
  clear hp hb
  have V0 := Lib.hid (tyE_simple ds sg vars num es hop)
  have o12 : (op == 12) = false := by simp; omega
  have o13 : (op == 13) = false := by simp; omega
  have o7 : (op == 7) = false := by simp; omega
  have o8 : (op == 8) = false := by simp; omega
  have TL := Lib.hid (tyEs_len ds sg vars es)
  have TA := Lib.hid (fun i (hi : i < es.length) => tyEs_at ds sg vars (ks := es) hi)
  have SG := Lib.hid (fun i => simple_neg (ds := ds) (sg := sg) HOK.out (op := op) (num := num) (tys := tyEs ds sg vars es) (i := i))
  have TR := Lib.hid (fun (e : ExprL) => ty_ge HOK.out e HAll.out)
  have hkz : w.heap.size + 2 = ((w.alloc (.cells #[.slice a0 n0 c0, .slice a1 n1 c1] 85)).alloc (.cells #[.int .i64 op, .int .i64 num, .slice a n c] 53)).heap.size := by simp
  have HKZ := Lib.hid hkz
  have nsD : Hid (∀ q, D q → ¬ (Value.slice av vars.length cv).ownBlock = some q) := fun q hq e => by have := (VBL.out _ e).1; have := HD.out _ hq; omega
  clear hop hkz
  go_enter Try.func73, Try.ntmps73
  go_wp2_with (at_make; go_loud (refine wpList_makeN _ rfl _ _ 26 rfl 3 (.int .i64 0) #[.int .i64 0] 1 8 Try.underlying26 (by kernel_rfl) rfl rfl n rfl rfl (by omega) (by omega) ?_; intro w1 hrow hk1 hsz; have hsz2 : w1.heap.size = w.heap.size + 3 := (by rw [hsz, ← HKZ.out]); have hrow2 : w1.rowIs (w.heap.size + 2) 3 n (fun _ => .int .i64 0) := (by rw [HKZ.out]; have h2 := hrow; rw [Nat.mul_one] at h2; exact h2.congr (fun i hi => by simp [Nat.mod_one])); have R0' := Lib.hid (row_ext R0 hk1 (fun h => h)); have R1' := Lib.hid (row_ext R1 hk1 (fun h => h)); have KT1 := Lib.hid (KT.out.trans (Keep.to (S := fun r => (Value.slice av vars.length cv).ownBlock = some r) hk1)); have HV1 := Lib.hid (hv0.k hk1); have HROW := Lib.hid hrow2; have HSZ := Lib.hid hsz2; clear hrow hrow2 hsz hsz2 K0 hk1 hv0 R0 R1; have y0 := R1'.out.cell (i := 0) (by simp); have y1 := R1'.out.cell (i := 1) (by simp); have y2 := R1'.out.cell (i := 2) (by simp); simp at y0 y1 y2))
  go_loopw [163] (fun iv wr => ∃ (j : Nat) (f : Nat → Value), j ≤ n ∧ iv = .int .i64 j ∧ Hid (wr.rowIs (w.heap.size + 2) 3 n f ∧ ∀ l, l < j → f l = .int .i64 (iAt (tyEs ds sg vars es) l)) ∧ Hid (VR wr base (.slice av vars.length cv) vars) ∧ Hid (Ext (fun q => (Value.slice av vars.length cv).ownBlock = some q ∨ q = w.heap.size + 2) w1 wr)) (fun iv _ => n - (intOf iv).toNat)
  case atStart => exact ⟨0, _, Nat.zero_le _, rfl, ⟨HROW.out, fun l hl => absurd hl (by omega)⟩, HV1.out, Ext.refl _ _⟩
  case round =>
    obtain ⟨j, f, hj, rfl, hI, hV, hK⟩ := hrel
    have KE := Lib.hid (Ext.then_ KT1.out hK.out (fun q hq h => by rcases h with h | h; exact h; omega))
    have RS := row_ext R0'.out hK.out (fun e => by rcases e with e | e; (have := (VBL.out _ e).2; omega); omega)
    have RE := row_ext R1'.out hK.out (fun e => by rcases e with e | e; (have := (VBL.out _ e).2; omega); omega)
    have hsw : w.heap.size + 3 ≤ wr.heap.size := by have := hK.out.size; have := HSZ.out; omega
    have HSW := Lib.hid hsw
    by_cases hlt : j < n
    · have HJ : Hid (j < es.length) := by have := HL.out; show _ < _; omega
      obtain ⟨b, o, rfl, hd, a2, n2, c2, d0, d1, d2, r2⟩ := HA.out j hlt
      have nsb : ¬ (Value.slice av vars.length cv).ownBlock = some b := nsD.out _ hd
      have g0 := (KE.out.cell (World.block_lt_of_cell? _ _ d0) nsb).trans d0
      have g1 := (KE.out.cell (World.block_lt_of_cell? _ _ d1) nsb).trans d1
      have g2 := (KE.out.cell (World.block_lt_of_cell? _ _ d2) nsb).trans d2
      have KB := (Keep.al wr (.cells #[.int .i64 (eAt es j).op, .int .i64 (eAt es j).num, .slice a2 n2 c2] 53))
      have KX := Lib.hid (KE.out.trans (Keep.to KB))
      have qp := Lib.hid (HP.out.ext KX.out nsD.out)
      have qv := Lib.hid (hV.out.k (Keep.al wr (.cells #[.int .i64 (eAt es j).op, .int .i64 (eAt es j).num, .slice a2 n2 c2] 53)))
      have qe := Lib.hid (r2.ext KX.out nsD.out)
      have hbw : base ≤ wr.heap.size := by have := HB.out; omega
      have HBW := Lib.hid hbw
      have hbb : Hid (vars.length + 4 * nE (eAt es j) ≤ 1049576) := by have := nE_le es HJ.out; have := HLen.out; show _ ≤ _; omega
      have x0 := RS.cell (i := 0) (by simp)
      have x1 := RS.cell (i := 1) (by simp)
      have x0b := (RS.alloc (.cells #[.int .i64 (eAt es j).op, .int .i64 (eAt es j).num, .slice a2 n2 c2] 53)).cell (i := 0) (by simp)
      have x1b := (RS.alloc (.cells #[.int .i64 (eAt es j).op, .int .i64 (eAt es j).num, .slice a2 n2 c2] 53)).cell (i := 1) (by simp)
      simp only [Array.getD] at x0b x1b
      simp at x0 x1
      have HROW2 := Lib.hid (hI.out.1.alloc (.cells #[.int .i64 (eAt es j).op, .int .i64 (eAt es j).num, .slice a2 n2 c2] 53))
      have HK2 := Lib.hid (hK.out.trans (Keep.to KB))
      obtain ⟨z, hz⟩ : ∃ z, tyE ds sg vars (eAt es j) = z := ⟨_, rfl⟩
      have HZ := Lib.hid hz
      have HT1 : Hid (iAt (tyEs ds sg vars es) j = z) := by show _ = _; rw [TA.out j HJ.out, hz]
      clear d0 d1 d2 r2 hz KB hbw RS RE
      go_wp2_with fail
      refine (IH.out j HJ.out _ _ _ _ _ _ _ vars _ _ _ _ base D qp.out qv.out qe.out HD.out (by simp; have := HBW.out; omega) hbb.out HAll.out).mono ?_
      rw [HZ.out]
      rintro e w2 ⟨rfl, hv2, x2⟩
      have hrw := row_ext HROW2.out x2 (fun e => by have := (VBL.out _ e).2; omega)
      have fz : w2.frozen? ⟨w.heap.size + 1 + 1, j, none⟩ = false := hrw.frozen j
      have cz : w2.cell? ⟨w.heap.size + 1 + 1, j, none⟩ = some (f j) := hrw.cell hlt
      have hrs := Lib.hid (hrw.set j (.int .i64 z))
      have hs2 : Ext (fun q => q = w.heap.size + 2) w2 (w2.setCell ⟨w.heap.size + 1 + 1, j, none⟩ (.int .i64 z)) := Ext.setCell (S := fun q => q = w.heap.size + 2) (Ext.refl _ w2) (p := ⟨w.heap.size + 1 + 1, j, none⟩) (.inr rfl) _
      have K2 := Lib.hid ((HK2.out.trans (x2.mono (fun _ _ h => .inl h))).trans (hs2.mono (fun _ _ h => .inr h)))
      have KF := Lib.hid ((KX.out.trans x2).then_ hs2 (fun q hq h => by omega))
      have HV2 := Lib.hid (hv2.ext hs2 (fun g hg h => by have := (VBL.out _ hg).2; omega))
      clear hrw hs2 x2 hv2 x0 x1 x0b x1b g0 g1 g2
      have hzr := TR.out (eAt es j)
      rw [HZ.out] at hzr
      by_cases hz0 : z < 0
      · have V : Hid (tyE ds sg vars (.mk op num es) = -1) := by show _ = _; rw [V0.out]; exact SG.out j (by rw [TL.out]; exact HJ.out) (by rw [HT1.out]; exact hz0)
        go_wp2_with fail
        exact fin_ hQ ⟨ret_i V.out.symm, HV2.out, KF.out⟩
      · go_wp2_with fail
        go_roundw
        case rel => exact ⟨j + 1, _, by omega, by go_num, ⟨hrs.out, fun l hl => by
          by_cases hlj : l = j
          · rw [hlj, if_pos rfl, HT1.out]
          · rw [if_neg hlj]; exact hI.out.2 l (by omega)⟩, HV2.out, K2.out⟩
        case measure => simp [intOf]; omega
    · have hjn : j = n := by omega
      have hIL : IntsL wr (fun _ => True) (some ⟨w.heap.size + 2, 0, none⟩) n (tyEs ds sg vars es) := ⟨by rw [TL.out]; exact HL.out, fun _ => ⟨_, _, rfl, trivial, fun i hi => by
        rw [Nat.zero_add]; exact (hI.out.1.cell hi).trans (congrArg some (hI.out.2 i (by omega)))⟩⟩
      have x0 := RS.cell (i := 0) (by simp)
      have x1 := RS.cell (i := 1) (by simp)
      have y0 := RE.cell (i := 0) (by simp)
      have y1 := RE.cell (i := 1) (by simp)
      simp at x0 x1 y0 y1
      have qp := Lib.hid (HP.out.ext KE.out nsD.out)
      have HIL := Lib.hid hIL
      obtain ⟨u, hu⟩ : ∃ u, simpleL ds sg op num (tyEs ds sg vars es) = u := ⟨_, rfl⟩
      have HU := Lib.hid hu
      have SRG := Lib.hid (simple_range HOK.out op num (tyEs ds sg vars es))
      have V : Hid (tyE ds sg vars (.mk op num es) = u) := by show _ = _; rw [V0.out, hu]
      clear hu hIL hI RS RE
      go_wp2_with fail
      refine (implSimple ds sg HOK.out op num HNUM.out _ D _ _ _ _ _ _ _ _ _ _ _ qp.out HIL.out (by omega)).mono ?_
      rintro e w2 ⟨t, ok, rfl, hok, ht, p2⟩
      rw [HU.out] at hok ht
      have KF := Lib.hid (KE.out.trans (Keep.to p2))
      have HV2 := Lib.hid (hV.out.k p2)
      by_cases hu0 : 0 ≤ u
      · obtain rfl : ok = true := by rw [hok]; exact decide_eq_true hu0
        obtain rfl : t = u := ht rfl
        clear hok ht
        go_wp2_with fail
        exact fin_ hQ ⟨ret_i V.out.symm, HV2.out, KF.out⟩
      · obtain rfl : ok = false := by rw [hok]; exact decide_eq_false hu0
        have V2 : Hid (tyE ds sg vars (.mk op num es) = -1) := by
          show _ = _
          rw [V.out]
          rcases SRG.out with h | h
          · rw [HU.out] at h; exact h
          · rw [HU.out] at h; have := isT_iff.1 h; omega
        clear hok ht
        go_wp2_with fail
        exact fin_ hQ ⟨ret_i V2.out.symm, HV2.out, KF.out⟩
end
end Go.Proofs.Ytaeddcnakilnlaa
/- The program's types of expressions: all operations; the signatures of a program. -/
namespace Go.Proofs.Ytaeddcnakilnlaa
open Go.RowKit

section
variable (ds : List DeclL) (sg : List SigL) (hok : sigsOk ds sg = true)
include hok
theorem implTypeOf_n (N : Nat) : ∀ e : ExprL, nE e < N → allE fitN e → TyI ds sg e := by
  induction N with
  | zero => intro e h; omega
  | succ N ih =>
  intro e hN ha
  obtain ⟨op, num, es⟩ := e
  have IH : ∀ j, j < es.length → TyI ds sg (eAt es j) := fun j hj => ih _ (by have := nE_le es hj; rw [nE] at hN; omega) (allEs_at ha.2 hj)
  by_cases h12 : op = 12
  · subst h12; exact implTy_12 ds sg hok num ha.1 es IH
  by_cases h13 : op = 13
  · subst h13; exact implTy_13 ds sg hok num ha.1 es IH
  by_cases h7 : op = 7
  · subst h7; exact implTy_7 ds sg hok num ha.1 es IH
  by_cases h8 : op = 8
  · subst h8; exact implTy_8 ds sg hok num ha.1 es IH
  exact implTy_other ds sg hok op ⟨h12, h13, h7, h8⟩ num ha.1 es IH
theorem implTypeOf0 (e : ExprL) (ha : allE fitN e) : TyI ds sg e := implTypeOf_n ds sg hok _ e (Nat.lt_succ_self _) ha
end
end Go.Proofs.Ytaeddcnakilnlaa
/- The signatures of a program, by the program. -/
namespace Go.Proofs.Ytaeddcnakilnlaa
open Go.RowKit

set_option maxRecDepth 100000 in
set_option maxHeartbeats 400000 in
theorem implSigsOf (fs : List FuncL) (a0 : Option Addr) (n0 c0 : Nat) (a1 : Option Addr) (n1 c1 : Nat) (D1 : Nat → Prop) (w : World) (r1 : Rd w D1 (encFuncs fs) (.slice a1 n1 c1)) (hn4 : n1 ≤ 4) :
    Calls Try.prog 72 #[.agg #[.slice a0 n0 c0, .slice a1 n1 c1]] w fun e w' => ∃ a' c', e = .returned (.agg #[.slice a0 n0 c0, .slice a' n1 c']) ∧ Rd w' (fun _ => True) (encSigs (fs.map sigF)) (.slice a' n1 c') ∧ Keep w w' := by
  refine calls_k fun Q hQ => ?_
  obtain ⟨e1, hnc, hm, hat⟩ := funcs_at r1
  have HL := Lib.hid e1
  have HA := Lib.hid hat
  have HLM : Hid ((fs.map sigF).length = n1) := by show _ = _; simp [e1]
  have ER : Hid (∀ j, j < n1 → (fs.map sigF).take (j + 1) = (fs.map sigF).take j ++ [sigF (fAt fs j)]) := fun j hj => by
    have hj' : j < (fs.map sigF).length := by have := HLM.out; omega
    rw [List.take_succ_eq_append_getElem hj', ← sgAt_get hj', sgAt_sigF _ (by simpa using hj')]
  clear e1 hat
  go_enter Try.func72, Try.ntmps72
  have K0 := (((Keep.al w (.cells #[.slice a0 n0 c0, .slice a1 n1 c1] 50)).trans (Keep.al _ (.cells #[.slice none 0 0, .slice none 0 0] 85))).trans (Keep.al _ (.cells #[.slice a0 n0 c0, .slice none 0 0] 85)))
  have RB := rowOf ((w.alloc (.cells #[.slice a0 n0 c0, .slice a1 n1 c1] 50)).alloc (.cells #[.slice none 0 0, .slice none 0 0] 85)) #[.slice a0 n0 c0, .slice none 0 0] 85
  have RR := (rowOf (w.alloc (.cells #[.slice a0 n0 c0, .slice a1 n1 c1] 50)) #[.slice none 0 0, .slice none 0 0] 85).alloc (.cells #[.slice a0 n0 c0, .slice none 0 0] 85)
  simp only [World.size_alloc] at RB RR
  have HRB := Lib.hid RB
  have HRR := Lib.hid RR
  have HK0 := Lib.hid K0
  have HW3 : Hid ((((w.alloc (.cells #[.slice a0 n0 c0, .slice a1 n1 c1] 50)).alloc (.cells #[.slice none 0 0, .slice none 0 0] 85)).alloc (.cells #[.slice a0 n0 c0, .slice none 0 0] 85)).heap.size = w.heap.size + 3) := by show _ = _; simp
  clear RB RR K0
  go_wp2_with fail
  go_loopw [12] (fun iv wr => ∃ (j : Nat) (sv : Value), j ≤ n1 ∧ iv = .int .i64 j ∧ Hid (AccR wr (w.heap.size + 3) (fun k => k < w.heap.size ∨ w.heap.size + 3 ≤ k) 106 3 sv (((fs.map sigF).take j).map rowG)) ∧ Hid (wr.rowIs (w.heap.size + 2) 85 2 (fun i => (#[.slice a0 n0 c0, sv] : Array Value).getD i undef)) ∧ Hid (Ext (fun q => q = w.heap.size + 2) (((w.alloc (.cells #[.slice a0 n0 c0, .slice a1 n1 c1] 50)).alloc (.cells #[.slice none 0 0, .slice none 0 0] 85)).alloc (.cells #[.slice a0 n0 c0, .slice none 0 0] 85)) wr)) (fun iv _ => n1 - (intOf iv).toNat)
  case atStart => exact ⟨0, .slice none 0 0, Nat.zero_le _, rfl, (show AccR _ _ _ _ _ _ _ from by simpa using AccR.nil _ _ _ _ _), HRB.out, Ext.refl _ _⟩
  case round =>
    obtain ⟨j, sv, hj, rfl, hB, hR, hK⟩ := hrel
    have hs : w.heap.size + 3 ≤ wr.heap.size := by have := hK.out.size; have := HW3.out; omega
    have HS := Lib.hid hs
    have KW := Lib.hid (HK0.out.then_ hK.out (fun q hq h => by omega))
    by_cases hlt : j < n1
    · obtain ⟨b, o, rfl, hd, a3, n3, c3, a4, n4, c4, d0, d1, d2, d3, d4, r3, r4⟩ := HA.out j hlt
      have g0 := (KW.out.cell (World.block_lt_of_cell? w _ d0) (fun h => h)).trans d0
      have g1 := (KW.out.cell (World.block_lt_of_cell? w _ d1) (fun h => h)).trans d1
      have g2 := (KW.out.cell (World.block_lt_of_cell? w _ d2) (fun h => h)).trans d2
      have g3 := (KW.out.cell (World.block_lt_of_cell? w _ d3) (fun h => h)).trans d3
      have g4 := (KW.out.cell (World.block_lt_of_cell? w _ d4) (fun h => h)).trans d4
      have ka := Keep.al wr (.cells #[.slice a3 n3 c3, .int .i64 (fAt fs j).result, .int .i64 (fAt fs j).body.op, .int .i64 (fAt fs j).body.num, .slice a4 n4 c4] 63)
      have bnd := hB.out.bound
      have q3 := ((r3.lt.k KW.out).k ka).mono (D' := fun k => (fun k => k < w.heap.size ∨ w.heap.size + 3 ≤ k) k ∧ sv.ownBlock ≠ some k) (fun k hk => ⟨.inl (by omega), fun e => by have := bnd k e; omega⟩)
      have kl := Keep.al (wr.alloc (.cells #[.slice a3 n3 c3, .int .i64 (fAt fs j).result, .int .i64 (fAt fs j).body.op, .int .i64 (fAt fs j).body.num, .slice a4 n4 c4] 63)) (.cells #[.slice a3 n3 c3, .slice none 0 0, .int .i64 (fAt fs j).result] 106)
      have hX := lit_sig (wr.alloc (.cells #[.slice a3 n3 c3, .int .i64 (fAt fs j).result, .int .i64 (fAt fs j).body.op, .int .i64 (fAt fs j).body.num, .slice a4 n4 c4] 63)) (fun k => (fun k => k < w.heap.size ∨ w.heap.size + 3 ≤ k) k ∧ sv.ownBlock ≠ some k) 106 (sigF (fAt fs j)) a3 n3 c3 none 0 0 ⟨.inr (by simp; omega), fun e => by have := bnd _ e; simp at this; omega⟩ q3 (.nil 1 none 0)
      simp only [World.size_alloc, sigF] at hX
      have hO2 := (hB.out.keep ka).keep kl
      have hlr : (((fs.map sigF).take j).map rowG).length = j := by
        rw [List.length_map, List.length_take, HLM.out]; omega
      have HLR := Lib.hid hlr
      have hBB := Lib.hid (hK.out.trans (Keep.to (ka.trans kl)))
      have hR1 := hR.out.alloc (.cells #[.slice a3 n3 c3, .int .i64 (fAt fs j).result, .int .i64 (fAt fs j).body.op, .int .i64 (fAt fs j).body.num, .slice a4 n4 c4] 63)
      have hR2 := hR1.alloc (.cells #[.slice a3 n3 c3, .slice none 0 0, .int .i64 (fAt fs j).result] 106)
      have HR2 := Lib.hid hR2
      have y1 : wr.cell? ⟨w.heap.size + 1 + 1, 1, none⟩ = some sv := hR.out.cell (i := 1) (by omega)
      have y1a : (wr.alloc (.cells #[.slice a3 n3 c3, .int .i64 (fAt fs j).result, .int .i64 (fAt fs j).body.op, .int .i64 (fAt fs j).body.num, .slice a4 n4 c4] 63)).cell? ⟨w.heap.size + 1 + 1, 1, none⟩ = some sv := hR1.cell (i := 1) (by omega)
      have y1b : ((wr.alloc (.cells #[.slice a3 n3 c3, .int .i64 (fAt fs j).result, .int .i64 (fAt fs j).body.op, .int .i64 (fAt fs j).body.num, .slice a4 n4 c4] 63)).alloc (.cells #[.slice a3 n3 c3, .slice none 0 0, .int .i64 (fAt fs j).result] 106)).cell? ⟨w.heap.size + 1 + 1, 1, none⟩ = some sv := hR2.cell (i := 1) (by omega)
      clear d0 d1 d2 d3 d4 r3 r4 bnd q3 hlr ka kl hB hR1 hR2
      go_wp2_with (at_builtin; go_must (refine wpList_appR _ rfl (.tmp 17) (.tmp 23) 83 rfl (w.heap.size + 3) 106 (.agg #[.slice none 0 0, .slice none 0 0, .int .i64 0]) 3 56 Try.underlying83 (by kernel_rfl) rfl (by omega) (fun k => k < w.heap.size ∨ w.heap.size + 3 ≤ k) _ _ rfl hO2 _ 1 1 _ _ rfl hX (fun k _ hk => hk) (by rw [HLR.out]; omega) (by rw [HLR.out]; omega) (by simp; omega) ?_); intro v1 w10 hA2 xA sA; obtain ⟨av, nv, cv, rfl⟩ : ∃ av nv cv, v1 = .slice av nv cv := (by obtain ⟨a9, c9, e9, _⟩ := hA2.read (by omega); exact ⟨_, _, _, e9⟩); have hr10 := Lib.hid (row_ext HR2.out xA (fun (h : w.heap.size + 3 ≤ _) => by omega)); have fz : w10.frozen? ⟨w.heap.size + 1 + 1, 1, none⟩ = false := hr10.out.frozen 1; have cz : w10.cell? ⟨w.heap.size + 1 + 1, 1, none⟩ = some sv := hr10.out.cell (i := 1) (by omega); have HA2 := Lib.hid hA2; have HX10 := Lib.hid (hBB.out.then_ xA (fun q hq h => by have := HW3.out; omega)); clear hA2 xA sA)
      have hs2 : Ext (fun q => q = w.heap.size + 2) w10 (w10.setCell ⟨w.heap.size + 1 + 1, 1, none⟩ (.slice av nv cv)) := Ext.setCell (S := fun q => q = w.heap.size + 2) (Ext.refl _ w10) (p := ⟨w.heap.size + 1 + 1, 1, none⟩) (.inr rfl) _
      go_roundw
      case rel => exact ⟨j + 1, .slice av nv cv, by omega, by go_num, by
        show AccR _ _ _ _ _ _ _
        rw [ER.out j hlt, List.map_append]; exact HA2.out.ext hs2 (fun k _ hk => by rcases hk with (hk | hk) | hk <;> omega), by
        refine (hr10.out.set 1 (.slice av nv cv)).congr (fun i hi => ?_)
        rcases (show i = 0 ∨ i = 1 by omega) with rfl | rfl <;> rfl, HX10.out.trans hs2⟩
      case measure => simp [intOf]; omega
    · have HJ : Hid (j = n1) := by show _ = _; omega
      have hB2 := hB.out
      rw [List.take_of_length_le (by have := HLM.out; have := HJ.out; omega)] at hB2
      obtain ⟨a', c', e, _, _, rd⟩ := hB2.read (by omega)
      rw [List.length_map, HLM.out] at e
      subst e
      have RD := Lib.hid rd
      have y0 : wr.cell? ⟨w.heap.size + 1 + 1, 0, none⟩ = some (.slice a0 n0 c0) := hR.out.cell (i := 0) (by omega)
      have y1 : wr.cell? ⟨w.heap.size + 1 + 1, 1, none⟩ = some (.slice a' n1 c') := hR.out.cell (i := 1) (by omega)
      have rr := row_ext HRR.out hK.out (fun h => by omega)
      have z0 := rr.cell (i := 0) (by simp)
      have z1 := rr.cell (i := 1) (by simp)
      simp at z0 z1
      have fr : ∀ i, wr.frozen? ⟨w.heap.size + 1, i, none⟩ = false := rr.frozen
      have fr0 := fr 0
      have fr1 := fr 1
      clear hB hB2 rd rr fr
      go_wp2_with fail
      have sx : Ext (fun q => q = w.heap.size + 1) wr ((wr.setCell ⟨w.heap.size + 1, 0, none⟩ (.slice a0 n0 c0)).setCell ⟨w.heap.size + 1, 1, none⟩ (.slice a' n1 c')) := Ext.setCell (S := fun q => q = w.heap.size + 1) (Ext.setCell (S := fun q => q = w.heap.size + 1) (Ext.refl _ wr) (p := ⟨w.heap.size + 1, 0, none⟩) (.inr rfl) _) (p := ⟨w.heap.size + 1, 1, none⟩) (.inr rfl) _
      refine bodyPost_ret (v := .agg #[.slice a0 n0 c0, .slice a' n1 c']) (by simp [results, Try.results72, go_sem, z0, z1]) rfl (fin_ hQ ⟨a', c', rfl, (RD.out.ext sx (fun k hk => by omega)).t, KW.out.then_ sx (fun q hq h => by omega)⟩)
end Go.Proofs.Ytaeddcnakilnlaa
/- TypeOf of both packages. -/
namespace Go.Proofs.Ytaeddcnakilnlaa
open Go.RowKit

/-- What both functions TypeOf return. -/
def typeTop (ds : List DeclL) (fs : List FuncL) (vars : List Int) (e : ExprL) : Int :=
  if sigsOk ds (fs.map sigF) = true ∧ ¬ nodesL e.kids < 0 ∧ allT ds.length vars = true then tyE ds (fs.map sigF) vars e else -1

theorem cloneInts (a : Option Addr) (n c : Nat) (xs : List Int) (D : Nat → Prop) (w : World) (h : IntsL w D a n xs) (hn : n ≤ 1052000) :
    Calls Try.prog 74 #[.slice a n c] w fun e w' => ∃ v', e = .returned v' ∧ VR w' w.heap.size v' xs ∧ Keep w w' := by
  obtain ⟨h1, h2⟩ := h
  rcases Nat.eq_zero_or_pos n with h0 | h0
  · subst h0
    have hx : xs = [] := List.eq_nil_of_length_eq_zero h1
    subst hx
    rcases a with _ | a
    · refine (Try.slices_Clone_int_nil 0 c w).mono ?_
      rintro e w' ⟨rfl, rfl⟩
      exact ⟨_, rfl, World.ownsRow_nil _ _ _ _, Ext.refl _ _⟩
    · refine (Try.slices_Clone_int_zero a c w).mono ?_
      rintro e w' ⟨v', rfl, ho, _, hb⟩
      exact ⟨_, rfl, ho, Ext.of_below hb⟩
  · obtain ⟨b, o, rfl, _, hc⟩ := h2 h0
    refine (Try.slices_Clone_int b o n c xs w (by omega) (by omega) (fun j hj => hc j (by omega))).mono ?_
    rintro e w' ⟨v', rfl, ho, _, hb⟩
    rw [← h1, List.take_length] at ho
    exact ⟨_, rfl, ho, Ext.of_below hb⟩
/- BY gen_tyi12 -/

set_option maxRecDepth 100000 in
set_option maxHeartbeats 4000000 in
theorem specTypeOfTop (ds : List DeclL) (fs : List FuncL) (a0 : Option Addr) (n0 c0 : Nat) (a1 : Option Addr) (n1 c1 : Nat) (av : Option Addr) (nv cv : Nat) (vars : List Int) (op num : Int) (es : List ExprL) (a : Option Addr) (n c : Nat) (D0 D1 D2 D3 : Nat → Prop) (w : World)
    (r0 : Rd w D0 (encDecls ds) (.slice a0 n0 c0)) (r1 : Rd w D1 (encFuncs fs) (.slice a1 n1 c1)) (hv : Rd w D2 (encInts vars) (.slice av nv cv)) (hnv : nv ≤ 1048576) (h : Rd w D3 (encExprs es) (.slice a n c)) :
    Calls Try.prog 25 #[.agg #[.slice a0 n0 c0, .slice a1 n1 c1], .slice av nv cv, .agg #[.int .i64 op, .int .i64 num, .slice a n c]] w fun r w' => r = .returned (.int .i64 (typeTop ds fs vars (.mk op num es))) ∧ Keep w w' := by
  refine calls_k fun Q hQ => ?_
  have K0 := Lib.hid ((Keep.al w (.cells #[.slice a0 n0 c0, .slice a1 n1 c1] 50)).trans (Keep.al _ (.cells #[.int .i64 op, .int .i64 num, .slice a n c] 53)))
  have R0 := Lib.hid ((rowOf w #[.slice a0 n0 c0, .slice a1 n1 c1] 50).alloc (.cells #[.int .i64 op, .int .i64 num, .slice a n c] 53))
  have R1 := rowOf (w.alloc (.cells #[.slice a0 n0 c0, .slice a1 n1 c1] 50)) #[.int .i64 op, .int .i64 num, .slice a n c] 53
  simp only [World.size_alloc] at R1
  replace R1 := Lib.hid R1
  have hvl : nv = vars.length := (ints_at hv).1.symm
  have HVL := Lib.hid hvl
  have V0 : Hid (typeTop ds fs vars (.mk op num es) = if sigsOk ds (fs.map sigF) = true ∧ ¬ nodesL es < 0 ∧ allT n0 vars = true then tyE ds (fs.map sigF) vars (.mk op num es) else -1) := by show _ = _; rw [typeTop, (decls_at r0).1]; rfl
  clear hvl
  by_cases hs : sigsOk ds (fs.map sigF) = true
  case neg =>
    have HS : Hid (sigsOk ds (fs.map sigF) = false) := by show _ = _; simpa using hs
    have V : Hid (typeTop ds fs vars (.mk op num es) = -1) := by show _ = _; rw [V0.out, if_neg (fun h => hs h.1)]
    clear hs
    go_enter Try.func25, Try.ntmps25
    go_wp2_with fail
    refine (specValidSigs0 ds fs _ _ _ _ _ _ _ _ _ (r0.k K0.out) (r1.k K0.out)).mono ?_
    rw [HS.out]
    rintro e w1 ⟨rfl, p1⟩
    have KX := Lib.hid p1
    have x0 := (row_ext R0.out KX.out (fun h => h)).cell (i := 0) (by simp)
    have x1 := (row_ext R0.out KX.out (fun h => h)).cell (i := 1) (by simp)
    have y0 := (row_ext R1.out KX.out (fun h => h)).cell (i := 0) (by simp)
    have y1 := (row_ext R1.out KX.out (fun h => h)).cell (i := 1) (by simp)
    have y2 := (row_ext R1.out KX.out (fun h => h)).cell (i := 2) (by simp)
    simp at x0 x1 y0 y1 y2
    have KE := Lib.hid (K0.out.trans p1)
    clear p1
    go_wp2_with fail
    exact fin_ hQ ⟨ret_i V.out.symm, KE.out⟩
  have HS := Lib.hid hs
  by_cases hl : nodesL es < 0
  case pos =>
    have V : Hid (typeTop ds fs vars (.mk op num es) = -1) := by show _ = _; rw [V0.out, if_neg (fun h => h.2.1 hl)]
    clear hs
    go_enter Try.func25, Try.ntmps25
    go_wp2_with fail
    refine (specValidSigs0 ds fs _ _ _ _ _ _ _ _ _ (r0.k K0.out) (r1.k K0.out)).mono ?_
    rw [HS.out]
    rintro e w1 ⟨rfl, p1⟩
    have KX := Lib.hid p1
    have x0 := (row_ext R0.out KX.out (fun h => h)).cell (i := 0) (by simp)
    have x1 := (row_ext R0.out KX.out (fun h => h)).cell (i := 1) (by simp)
    have y0 := (row_ext R1.out KX.out (fun h => h)).cell (i := 0) (by simp)
    have y1 := (row_ext R1.out KX.out (fun h => h)).cell (i := 1) (by simp)
    have y2 := (row_ext R1.out KX.out (fun h => h)).cell (i := 2) (by simp)
    simp at x0 x1 y0 y1 y2
    have KE := Lib.hid (K0.out.trans p1)
    clear p1
    go_wp2_with fail
    refine (specNodesOf0 op num es _ _ _ _ _ (h.k KE.out)).mono ?_
    rintro e w2 ⟨rfl, p2⟩
    clear x0 x1 y0 y1 y2
    have KE2 := Lib.hid (KE.out.trans p2)
    replace KX := Lib.hid (KX.out.trans p2)
    clear p2
    have x0 := (row_ext R0.out KX.out (fun h => h)).cell (i := 0) (by simp)
    have x1 := (row_ext R0.out KX.out (fun h => h)).cell (i := 1) (by simp)
    have y0 := (row_ext R1.out KX.out (fun h => h)).cell (i := 0) (by simp)
    have y1 := (row_ext R1.out KX.out (fun h => h)).cell (i := 1) (by simp)
    have y2 := (row_ext R1.out KX.out (fun h => h)).cell (i := 2) (by simp)
    simp at x0 x1 y0 y1 y2
    go_wp2_with fail
    exact fin_ hQ ⟨ret_i V.out.symm, KE2.out⟩
  have HNE : Hid (nEs es + 1 ≤ 30) := by
    show _ ≤ _
    refine Decidable.byContradiction fun hc => hl ?_
    rw [nodesL_no hc]; omega
  by_cases hat : allT n0 vars = true
  case neg =>
    have HAT : Hid (allT n0 vars = false) := by show _ = _; simpa using hat
    have V : Hid (typeTop ds fs vars (.mk op num es) = -1) := by show _ = _; rw [V0.out, if_neg (fun h => hat h.2.2)]
    clear hs hat
    go_enter Try.func25, Try.ntmps25
    go_wp2_with fail
    refine (specValidSigs0 ds fs _ _ _ _ _ _ _ _ _ (r0.k K0.out) (r1.k K0.out)).mono ?_
    rw [HS.out]
    rintro e w1 ⟨rfl, p1⟩
    have KX := Lib.hid p1
    have x0 := (row_ext R0.out KX.out (fun h => h)).cell (i := 0) (by simp)
    have x1 := (row_ext R0.out KX.out (fun h => h)).cell (i := 1) (by simp)
    have y0 := (row_ext R1.out KX.out (fun h => h)).cell (i := 0) (by simp)
    have y1 := (row_ext R1.out KX.out (fun h => h)).cell (i := 1) (by simp)
    have y2 := (row_ext R1.out KX.out (fun h => h)).cell (i := 2) (by simp)
    simp at x0 x1 y0 y1 y2
    have KE := Lib.hid (K0.out.trans p1)
    clear p1
    go_wp2_with fail
    refine (specNodesOf0 op num es _ _ _ _ _ (h.k KE.out)).mono ?_
    rintro e w2 ⟨rfl, p2⟩
    clear x0 x1 y0 y1 y2
    have KE2 := Lib.hid (KE.out.trans p2)
    replace KX := Lib.hid (KX.out.trans p2)
    clear p2
    have x0 := (row_ext R0.out KX.out (fun h => h)).cell (i := 0) (by simp)
    have x1 := (row_ext R0.out KX.out (fun h => h)).cell (i := 1) (by simp)
    have y0 := (row_ext R1.out KX.out (fun h => h)).cell (i := 0) (by simp)
    have y1 := (row_ext R1.out KX.out (fun h => h)).cell (i := 1) (by simp)
    have y2 := (row_ext R1.out KX.out (fun h => h)).cell (i := 2) (by simp)
    simp at x0 x1 y0 y1 y2
    go_wp2_with fail
    refine (specAllTypes _ _ _ _ _ _ vars _ _ (Rd.toInts (hv.k KE2.out)) (by omega)).mono ?_
    rw [HAT.out]
    rintro e w3 ⟨rfl, rfl⟩
    go_wp2_with fail
    exact fin_ hQ ⟨ret_i V.out.symm, KE2.out⟩
  have HAT := Lib.hid hat
  have HALL : Hid (allT ds.length vars = true) := by show _ = _; rw [(decls_at r0).1]; exact hat
  obtain ⟨z, hz⟩ : ∃ z, tyE ds (fs.map sigF) vars (.mk op num es) = z := ⟨_, rfl⟩
  have HZ := Lib.hid hz
  have V : Hid (typeTop ds fs vars (.mk op num es) = z) := by show _ = _; rw [V0.out, if_pos ⟨hs, hl, hat⟩, hz]
  clear hs hat hz
  go_enter Try.func25, Try.ntmps25
  go_wp2_with fail
  refine (specValidSigs0 ds fs _ _ _ _ _ _ _ _ _ (r0.k K0.out) (r1.k K0.out)).mono ?_
  rw [HS.out]
  rintro e w1 ⟨rfl, p1⟩
  have KX := Lib.hid p1
  have x0 := (row_ext R0.out KX.out (fun h => h)).cell (i := 0) (by simp)
  have x1 := (row_ext R0.out KX.out (fun h => h)).cell (i := 1) (by simp)
  have y0 := (row_ext R1.out KX.out (fun h => h)).cell (i := 0) (by simp)
  have y1 := (row_ext R1.out KX.out (fun h => h)).cell (i := 1) (by simp)
  have y2 := (row_ext R1.out KX.out (fun h => h)).cell (i := 2) (by simp)
  simp at x0 x1 y0 y1 y2
  have KE := Lib.hid (K0.out.trans p1)
  clear p1
  go_wp2_with fail
  refine (specNodesOf0 op num es _ _ _ _ _ (h.k KE.out)).mono ?_
  rintro e w2 ⟨rfl, p2⟩
  clear x0 x1 y0 y1 y2
  have KE2 := Lib.hid (KE.out.trans p2)
  replace KX := Lib.hid (KX.out.trans p2)
  clear p2
  have x0 := (row_ext R0.out KX.out (fun h => h)).cell (i := 0) (by simp)
  have x1 := (row_ext R0.out KX.out (fun h => h)).cell (i := 1) (by simp)
  have y0 := (row_ext R1.out KX.out (fun h => h)).cell (i := 0) (by simp)
  have y1 := (row_ext R1.out KX.out (fun h => h)).cell (i := 1) (by simp)
  have y2 := (row_ext R1.out KX.out (fun h => h)).cell (i := 2) (by simp)
  simp at x0 x1 y0 y1 y2
  go_wp2_with fail
  refine (specAllTypes _ _ _ _ _ _ vars _ _ (Rd.toInts (hv.k KE2.out)) (by omega)).mono ?_
  rw [HAT.out]
  rintro e w3 ⟨rfl, rfl⟩
  go_wp2_with fail
  refine (specTypeOf0 ds fs HS.out (.mk op num es) _ _ _ _ _ _ _ _ _ vars _ _ _ _ ⟨(r0.k KE2.out).t, (r1.k KE2.out).t⟩ (hv.k KE2.out).t (h.k KE2.out).t (by rw [nE]; have := HNE.out; have := HVL.out; omega) HALL.out).mono ?_
  rw [HZ.out]
  rintro e w4 ⟨rfl, p4⟩
  go_wp2_with fail
  exact fin_ hQ ⟨ret_i V.out.symm, KE2.out.trans p4⟩

set_option maxRecDepth 100000 in
set_option maxHeartbeats 4000000 in
theorem implTypeOfTop (ds : List DeclL) (fs : List FuncL) (a0 : Option Addr) (n0 c0 : Nat) (a1 : Option Addr) (n1 c1 : Nat) (av : Option Addr) (nv cv : Nat) (vars : List Int) (op num : Int) (es : List ExprL) (a : Option Addr) (n c : Nat) (D0 D1 D2 D3 : Nat → Prop) (w : World)
    (r0 : Rd w D0 (encDecls ds) (.slice a0 n0 c0)) (r1 : Rd w D1 (encFuncs fs) (.slice a1 n1 c1)) (hv : Rd w D2 (encInts vars) (.slice av nv cv)) (hnv : nv ≤ 1048576) (h : Rd w D3 (encExprs es) (.slice a n c)) (ha : allE fitN (.mk op num es)) :
    Calls Try.prog 24 #[.agg #[.slice a0 n0 c0, .slice a1 n1 c1], .slice av nv cv, .agg #[.int .i64 op, .int .i64 num, .slice a n c]] w fun r w' => r = .returned (.int .i64 (typeTop ds fs vars (.mk op num es))) ∧ Keep w w' := by
  refine calls_k fun Q hQ => ?_
  have K0 := Lib.hid ((Keep.al w (.cells #[.slice a0 n0 c0, .slice a1 n1 c1] 50)).trans (Keep.al _ (.cells #[.int .i64 op, .int .i64 num, .slice a n c] 53)))
  have R0 := Lib.hid ((rowOf w #[.slice a0 n0 c0, .slice a1 n1 c1] 50).alloc (.cells #[.int .i64 op, .int .i64 num, .slice a n c] 53))
  have R1 := rowOf (w.alloc (.cells #[.slice a0 n0 c0, .slice a1 n1 c1] 50)) #[.int .i64 op, .int .i64 num, .slice a n c] 53
  simp only [World.size_alloc] at R1
  replace R1 := Lib.hid R1
  have hvl : nv = vars.length := (ints_at hv).1.symm
  have HVL := Lib.hid hvl
  have V0 : Hid (typeTop ds fs vars (.mk op num es) = if sigsOk ds (fs.map sigF) = true ∧ ¬ nodesL es < 0 ∧ allT n0 vars = true then tyE ds (fs.map sigF) vars (.mk op num es) else -1) := by show _ = _; rw [typeTop, (decls_at r0).1]; rfl
  clear hvl
  by_cases hs : sigsOk ds (fs.map sigF) = true
  case neg =>
    have HS : Hid (sigsOk ds (fs.map sigF) = false) := by show _ = _; simpa using hs
    have V : Hid (typeTop ds fs vars (.mk op num es) = -1) := by show _ = _; rw [V0.out, if_neg (fun h => hs h.1)]
    clear hs
    go_enter Try.func24, Try.ntmps24
    go_wp2_with fail
    refine (implValidSigs ds fs _ _ _ _ _ _ _ _ _ (r0.k K0.out) (r1.k K0.out)).mono ?_
    rw [HS.out]
    rintro e w1 ⟨rfl, p1⟩
    have KX := Lib.hid p1
    have x0 := (row_ext R0.out KX.out (fun h => h)).cell (i := 0) (by simp)
    have x1 := (row_ext R0.out KX.out (fun h => h)).cell (i := 1) (by simp)
    have y0 := (row_ext R1.out KX.out (fun h => h)).cell (i := 0) (by simp)
    have y1 := (row_ext R1.out KX.out (fun h => h)).cell (i := 1) (by simp)
    have y2 := (row_ext R1.out KX.out (fun h => h)).cell (i := 2) (by simp)
    simp at x0 x1 y0 y1 y2
    have KE := Lib.hid (K0.out.trans p1)
    clear p1
    go_wp2_with fail
    exact fin_ hQ ⟨ret_i V.out.symm, KE.out⟩
  have HS := Lib.hid hs
  by_cases hl : nodesL es < 0
  case pos =>
    have V : Hid (typeTop ds fs vars (.mk op num es) = -1) := by show _ = _; rw [V0.out, if_neg (fun h => h.2.1 hl)]
    clear hs
    go_enter Try.func24, Try.ntmps24
    go_wp2_with fail
    refine (implValidSigs ds fs _ _ _ _ _ _ _ _ _ (r0.k K0.out) (r1.k K0.out)).mono ?_
    rw [HS.out]
    rintro e w1 ⟨rfl, p1⟩
    have KX := Lib.hid p1
    have x0 := (row_ext R0.out KX.out (fun h => h)).cell (i := 0) (by simp)
    have x1 := (row_ext R0.out KX.out (fun h => h)).cell (i := 1) (by simp)
    have y0 := (row_ext R1.out KX.out (fun h => h)).cell (i := 0) (by simp)
    have y1 := (row_ext R1.out KX.out (fun h => h)).cell (i := 1) (by simp)
    have y2 := (row_ext R1.out KX.out (fun h => h)).cell (i := 2) (by simp)
    simp at x0 x1 y0 y1 y2
    have KE := Lib.hid (K0.out.trans p1)
    clear p1
    go_wp2_with fail
    refine (implNodesOf op num es _ _ _ _ _ (h.k KE.out)).mono ?_
    rintro e w2 ⟨rfl, p2⟩
    clear x0 x1 y0 y1 y2
    have KE2 := Lib.hid (KE.out.trans p2)
    replace KX := Lib.hid (KX.out.trans p2)
    clear p2
    have x0 := (row_ext R0.out KX.out (fun h => h)).cell (i := 0) (by simp)
    have x1 := (row_ext R0.out KX.out (fun h => h)).cell (i := 1) (by simp)
    have y0 := (row_ext R1.out KX.out (fun h => h)).cell (i := 0) (by simp)
    have y1 := (row_ext R1.out KX.out (fun h => h)).cell (i := 1) (by simp)
    have y2 := (row_ext R1.out KX.out (fun h => h)).cell (i := 2) (by simp)
    simp at x0 x1 y0 y1 y2
    go_wp2_with fail
    exact fin_ hQ ⟨ret_i V.out.symm, KE2.out⟩
  have HNE : Hid (nEs es + 1 ≤ 30) := by
    show _ ≤ _
    refine Decidable.byContradiction fun hc => hl ?_
    rw [nodesL_no hc]; omega
  by_cases hat : allT n0 vars = true
  case neg =>
    have HAT : Hid (allT n0 vars = false) := by show _ = _; simpa using hat
    have V : Hid (typeTop ds fs vars (.mk op num es) = -1) := by show _ = _; rw [V0.out, if_neg (fun h => hat h.2.2)]
    clear hs hat
    go_enter Try.func24, Try.ntmps24
    go_wp2_with fail
    refine (implValidSigs ds fs _ _ _ _ _ _ _ _ _ (r0.k K0.out) (r1.k K0.out)).mono ?_
    rw [HS.out]
    rintro e w1 ⟨rfl, p1⟩
    have KX := Lib.hid p1
    have x0 := (row_ext R0.out KX.out (fun h => h)).cell (i := 0) (by simp)
    have x1 := (row_ext R0.out KX.out (fun h => h)).cell (i := 1) (by simp)
    have y0 := (row_ext R1.out KX.out (fun h => h)).cell (i := 0) (by simp)
    have y1 := (row_ext R1.out KX.out (fun h => h)).cell (i := 1) (by simp)
    have y2 := (row_ext R1.out KX.out (fun h => h)).cell (i := 2) (by simp)
    simp at x0 x1 y0 y1 y2
    have KE := Lib.hid (K0.out.trans p1)
    clear p1
    go_wp2_with fail
    refine (implNodesOf op num es _ _ _ _ _ (h.k KE.out)).mono ?_
    rintro e w2 ⟨rfl, p2⟩
    clear x0 x1 y0 y1 y2
    have KE2 := Lib.hid (KE.out.trans p2)
    replace KX := Lib.hid (KX.out.trans p2)
    clear p2
    have x0 := (row_ext R0.out KX.out (fun h => h)).cell (i := 0) (by simp)
    have x1 := (row_ext R0.out KX.out (fun h => h)).cell (i := 1) (by simp)
    have y0 := (row_ext R1.out KX.out (fun h => h)).cell (i := 0) (by simp)
    have y1 := (row_ext R1.out KX.out (fun h => h)).cell (i := 1) (by simp)
    have y2 := (row_ext R1.out KX.out (fun h => h)).cell (i := 2) (by simp)
    simp at x0 x1 y0 y1 y2
    go_wp2_with fail
    refine (implAllTypes _ _ _ _ _ _ vars _ _ (Rd.toInts (hv.k KE2.out)) (by omega)).mono ?_
    rw [HAT.out]
    rintro e w3 ⟨rfl, rfl⟩
    go_wp2_with fail
    exact fin_ hQ ⟨ret_i V.out.symm, KE2.out⟩
  have HAT := Lib.hid hat
  have HALL : Hid (allT ds.length vars = true) := by show _ = _; rw [(decls_at r0).1]; exact hat
  obtain ⟨z, hz⟩ : ∃ z, tyE ds (fs.map sigF) vars (.mk op num es) = z := ⟨_, rfl⟩
  have HZ := Lib.hid hz
  have V : Hid (typeTop ds fs vars (.mk op num es) = z) := by show _ = _; rw [V0.out, if_pos ⟨hs, hl, hat⟩, hz]
  clear hs hat hz
  have HA := Lib.hid ha
  have hn4 : n1 ≤ 4 := by have h1 := (sigsOk_parts HS.out).2.2.1; have h2 := (funcs_at r1).1; simp at h1; omega
  go_enter Try.func24, Try.ntmps24
  go_wp2_with fail
  refine (implValidSigs ds fs _ _ _ _ _ _ _ _ _ (r0.k K0.out) (r1.k K0.out)).mono ?_
  rw [HS.out]
  rintro e w1 ⟨rfl, p1⟩
  have KX := Lib.hid p1
  have x0 := (row_ext R0.out KX.out (fun h => h)).cell (i := 0) (by simp)
  have x1 := (row_ext R0.out KX.out (fun h => h)).cell (i := 1) (by simp)
  have y0 := (row_ext R1.out KX.out (fun h => h)).cell (i := 0) (by simp)
  have y1 := (row_ext R1.out KX.out (fun h => h)).cell (i := 1) (by simp)
  have y2 := (row_ext R1.out KX.out (fun h => h)).cell (i := 2) (by simp)
  simp at x0 x1 y0 y1 y2
  have KE := Lib.hid (K0.out.trans p1)
  clear p1
  go_wp2_with fail
  refine (implNodesOf op num es _ _ _ _ _ (h.k KE.out)).mono ?_
  rintro e w2 ⟨rfl, p2⟩
  clear x0 x1 y0 y1 y2
  have KE2 := Lib.hid (KE.out.trans p2)
  replace KX := Lib.hid (KX.out.trans p2)
  clear p2
  have x0 := (row_ext R0.out KX.out (fun h => h)).cell (i := 0) (by simp)
  have x1 := (row_ext R0.out KX.out (fun h => h)).cell (i := 1) (by simp)
  have y0 := (row_ext R1.out KX.out (fun h => h)).cell (i := 0) (by simp)
  have y1 := (row_ext R1.out KX.out (fun h => h)).cell (i := 1) (by simp)
  have y2 := (row_ext R1.out KX.out (fun h => h)).cell (i := 2) (by simp)
  simp at x0 x1 y0 y1 y2
  go_wp2_with fail
  refine (implAllTypes _ _ _ _ _ _ vars _ _ (Rd.toInts (hv.k KE2.out)) (by omega)).mono ?_
  rw [HAT.out]
  rintro e w3 ⟨rfl, rfl⟩
  have qr0 := (r0.k KE2.out).kd
  have qr1 := (r1.k KE2.out).kd
  have qv := (hv.k KE2.out).kd
  have qh := (h.k KE2.out).kd
  have pc := Ext.refl0 w2
  go_wp2_with fail
  go_region_held3 (fun w' => w'.cell? ⟨w.heap.size, 0, none⟩ = some (.slice a0 n0 c0) ∧ w'.cell? ⟨w.heap.size, 1, none⟩ = some (.slice a1 n1 c1) ∧ w'.cell? ⟨w.heap.size + 1, 0, none⟩ = some (.int .i64 op) ∧ w'.cell? ⟨w.heap.size + 1, 1, none⟩ = some (.int .i64 num) ∧ w'.cell? ⟨w.heap.size + 1, 2, none⟩ = some (.slice a n c))
    (first | exact ⟨Keep.at pc x0, Keep.at pc x1, Keep.at pc y0, Keep.at pc y1, Keep.at pc y2⟩ | go_keep)
    (first
      | (go_at_call 72; refine (implSigsOf fs a0 n0 c0 a1 n1 c1 _ _ (qr1.k pc) hn4).mono ?_; rintro e wa ⟨asg, csg, rfl, hsg, pa⟩; replace pc := Ext.trans pc pa)
      | (go_at_call 74; refine (cloneInts av nv cv vars _ _ (Rd.toInts (qv.k pc)) (by omega)).mono ?_; rintro e wb ⟨v2, rfl, hv2, pb⟩; have qa := (((qr0.k pc).lt.mono (fun k hk => hk.2)).k pb); have qs := ((hsg.lt.mono (fun k hk => hk.2)).k pb); have qe := (((qh.k pc).lt.mono (fun k hk => hk.2)).k pb); have hbs := pb.size; have hbs0 := pc.size; replace pc := Ext.trans pc pb)
      | (go_at_call 73; refine (implTypeOf0 ds (fs.map sigF) HS.out (.mk op num es) HA.out a0 n0 c0 asg n1 csg v2 vars a n c _ wa.heap.size (fun k => k < wa.heap.size) ⟨qa, qs⟩ hv2 qe (fun _ h => h) hbs (by rw [nE]; have := HNE.out; have := HVL.out; omega) HALL.out).mono ?_; rw [HZ.out]; rintro e wc ⟨rfl, _, xc⟩; have hv3 := Lib.hid hv2.lt; replace pc := Ext.then_ pc xc (fun i hi e => by have h1 := (hv3.out i e).1; omega)))
  have KF := Lib.hid (KE2.out.trans (Keep.dt pc))
  go_wp2_with fail
  exact fin_ hQ ⟨ret_i V.out.symm, KF.out⟩
end Go.Proofs.Ytaeddcnakilnlaa
