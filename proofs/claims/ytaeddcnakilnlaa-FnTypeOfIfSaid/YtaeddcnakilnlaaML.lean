/- The generator of programs: genOther. -/
import Derived.Test.YtaeddcnakilnlaaMA
namespace Go.Proofs.Ytaeddcnakilnlaa
open Go.RowKit

theorem lit_expr2 (w : World) (D : Nat → Prop) (T : TypeId) (x y : ExprL) (a : Option Addr) (n c : Nat) (a' : Option Addr) (n' c' : Nat) (hB : D w.heap.size) (h : Rd w D (encExprs x.kids) (.slice a n c)) (h' : Rd w D (encExprs y.kids) (.slice a' n' c')) :
    Rd (w.alloc (.cells #[.int .i64 x.op, .int .i64 x.num, .slice a n c, .int .i64 y.op, .int .i64 y.num, .slice a' n' c'] T)) D (encExprs [x, y]) (.slice (some ⟨w.heap.size, 0, none⟩) 2 2) := by
  have e : encExprs [x, y] = .arr 3 ([x, y].map rowE) := by unfold encExprs; rw [rowsE_map]
  rw [e]
  refine Rd.litD w D T 3 _ ([x, y].map rowE) 2 hB (by simp) (by omega) (by omega) (by simp) (fun i hi => by
    have e : i = 0 ∨ i = 1 := by simp at hi; omega
    rcases e with rfl | rfl <;> simp [rGet, rowE_eq]) (fun i j hi hj => ?_)
  have e : i = 0 ∨ i = 1 := by simp at hi; omega
  rcases e with rfl | rfl
  · rcases (show j = 0 ∨ j = 1 ∨ j = 2 by omega) with rfl | rfl | rfl
    · exact ⟨_, rfl, by simp [rAt, rGet, rowE_eq, dGet]; exact .num _⟩
    · exact ⟨_, rfl, by simp [rAt, rGet, rowE_eq, dGet]; exact .num _⟩
    · exact ⟨_, rfl, by simp [rAt, rGet, rowE_eq, dGet]; exact h⟩
  · rcases (show j = 0 ∨ j = 1 ∨ j = 2 by omega) with rfl | rfl | rfl
    · exact ⟨_, rfl, by simp [rAt, rGet, rowE_eq, dGet]; exact .num _⟩
    · exact ⟨_, rfl, by simp [rAt, rGet, rowE_eq, dGet]; exact .num _⟩
    · exact ⟨_, rfl, by simp [rAt, rGet, rowE_eq, dGet]; exact h'⟩

/-- What genAll gives. -/
def GenL (B g : Nat) (p N : Int) (m : Nat) (w : World) (e : Ending) (w' : World) : Prop := ∃ (es : List ExprL) (a : Option Addr) (n c : Nat) (q : Int), e = .returned (.slice a n c) ∧ Rd w' (fun k => w.heap.size ≤ k) (encExprs es) (.slice a n c) ∧ es.length = m ∧ allEs (gfit 1000) es ∧ Rdx w' B g q ∧ q ≤ p + N ∧ Ext (· = g) w w'
theorem specGenAllB (ds : List DeclL) (fs : List FuncL) (B g b : Nat) (bi PG3 : Int) (hbi : bi = (b : Int)) (hG : GoodG ds fs) (types : List Int) (HI : ∀ b', b' ≤ b → GenS ds fs B g b') (hb3 : 2 ≤ b) (hPG : PG3 = pkG (b + 1)) (vars : List Int) (av : Option Addr) (nv cv : Nat) (ta : Option Addr) (nt ct : Nat) (p : Int) (a0 : Option Addr) (n0 c0 : Nat) (a1 : Option Addr) (n1 c1 : Nat) (w : World) (hT : ∀ t, t ∈ types → T5 t) (hpg : PG w g ds fs a0 n0 c0 a1 n1 c1) (hv : Rd w (fun k => k ≠ g) (encInts vars) (.slice av nv cv)) (hnv : nv + 3 * b ≤ 900)
    (ht : Rd w (fun k => k ≠ g) (encInts types) (.slice ta nt ct)) (hnt : nt ≤ 3) (hr : Rdx w B g p) (hBw : B ≤ w.heap.size) (hp : p + PG3 ≤ 900000000000 + 100) :
    Calls Try.prog 155 #[.pointer (some ⟨g, 0, none⟩), .agg #[.slice a0 n0 c0, .slice a1 n1 c1], .slice av nv cv, .slice ta nt ct, .int .i64 bi] w (GenL B g p (PG3 - 200) types.length w) := by
  subst hbi hPG
  have hl := (ints_at ht).1
  have hd := Nat.div_le_self b types.length
  have hp1 := pkG_part (b := b + 1) (m := b) (n := types.length) (by omega) (by omega) (by omega)
  have hp3 := pkG_3 (b := b + 1) (by omega)
  refine (specGenAll ds fs B g b hG types (HI _ hd) (by omega) vars av nv cv ta nt ct p a0 n0 c0 a1 n1 c1 w hT hpg hv (by omega) ht hnt hr hBw (by omega)).mono ?_
  rintro e w' ⟨es, a, n, c, q, h1, h2, h3, h4, h5, h6, h7⟩
  exact ⟨es, a, n, c, q, h1, h2, h3, h4, h5, by omega, h7⟩

set_option maxRecDepth 100000 in
set_option maxHeartbeats 4000000 in
theorem specGenOther (ds : List DeclL) (fs : List FuncL) (B g b2 : Nat) (hG : GoodG ds fs) (hb : 1 ≤ b2) (HI : ∀ b', b' < b2 + 2 → GenS ds fs B g b') (t : Int) (vars : List Int) (av : Option Addr) (nv cv : Nat) (p : Int) (a0 : Option Addr) (n0 c0 : Nat) (a1 : Option Addr) (n1 c1 : Nat) (bi : Int) (hbi : bi = ((b2 + 2 : Nat) : Int)) (w : World) (hT : T5 t) (hpg : PG w g ds fs a0 n0 c0 a1 n1 c1) (hv : Rd w (fun k => k ≠ g) (encInts vars) (.slice av nv cv)) (hnv : nv + 3 * (b2 + 2) ≤ 900)
    (hr : Rdx w B g p) (hBw : B ≤ w.heap.size) (hp : p + pkG (b2 + 2) ≤ 900000000001) :
    Calls Try.prog 158 #[.pointer (some ⟨g, 0, none⟩), .agg #[.slice a0 n0 c0, .slice a1 n1 c1], .slice av nv cv, .int .i64 t, .int .i64 bi] w (GenP B g p (pkG (b2 + 2) - 1) 1000 w) := by
  subst hbi
  refine calls_k fun Q hQ => ?_
  have HG := Lib.hid hG
  have HP := Lib.hid hpg
  have BW := Lib.hid hBw
  have hgB := hr.gB
  have hgw : g < w.heap.size := by omega
  have K1 := (Keep.al w (.cells #[.slice a0 n0 c0, .slice a1 n1 c1] 50)).trans (Keep.al _ (.cells #[.int .i64 0, .int .i64 0, .slice none 0 0] 53))
  have B0 := Lib.hid (Bx.born w (.slice a0 n0 c0) (.slice a1 n1 c1))
  have hds := hG.len4
  have hfs := hG.len
  have hn0 : n0 ≤ 4 := by have := (decls_at hpg.d).1; omega
  have hn1 : n1 ≤ 4 := by have := (funcs_at hpg.f).1; omega
  have qr := Lib.hid (hr.keep K1)
  have X1 := Lib.hid (Keep.to (S := (· = g)) K1)
  have HT := Lib.hid hT
  have HV := Lib.hid hv
  have IH := Lib.hid HI
  have hpk3 := pkG_3 (show 3 ≤ b2 + 2 by omega)
  have HPP := Lib.hid hp
  have hpp : p + 100 ≤ 900000000000 := by omega
  have hp2 := pkG_part (show 3 ≤ b2 + 2 by omega) (show b2 + 1 ≤ b2 + 2 by omega) (show 1 ≤ 3 by omega)
  have HPB2 : Hid (4 * pkG b2 ≤ 3 * pkG (b2 + 2)) := by show _ ≤ _; have e : b2 / 1 = b2 := Nat.div_one _; rw [e] at hp2; omega
  clear hG hpg hv hr hBw hT HI hp hp2
  go_enter Try.func158, Try.ntmps158
  go_wp2_with fail
  refine (pickX B g p _ _ qr.out (by omega) (by omega)).mono ?_
  rintro e w1 ⟨v, rfl, _, _, r1, x1⟩
  have b1 := Lib.hid (B0.out.ext x1 hgw)
  have X2 := Lib.hid (X1.out.trans x1)
  have R1 := Lib.hid r1
  clear r1 x1 K1
  go_upto_if 16 with fail
  go_cut [11] (fun s11 wx => Hid (Keep w1 wx))
  case first =>
    by_cases hv0 : v = 0
    case neg =>
      go_wp2_with fail
      go_meet
      case rel => exact Ext.refl _ _
    subst hv0
    go_wp2_with fail
    go_loopw [11] (fun sv wr => ∃ k : Nat, k ≤ n0 ∧ sv = .int .i64 ((k : Int) + 1) ∧ Hid (Keep w1 wr)) (fun i _ => n0 + 1 - (intOf i).toNat)
    case atStart => exact ⟨0, Nat.zero_le _, rfl, Ext.refl _ _⟩
    case round =>
      obtain ⟨k, hk, rfl, hK⟩ := hrel
      obtain ⟨wo, rfl⟩ : ∃ wo : World, wo = wr := ⟨_, rfl⟩
      have bo := Lib.hid (b1.out.k hK.out)
      have XO := Lib.hid (X2.out.trans (Keep.to hK.out))
      have x0 := bo.out.x0
      have x1 := bo.out.x1
      by_cases hlt : k < n0
      case neg =>
        have hlt2 : (n0 : Int) < (k : Int) + 1 := by omega
        go_wp2_with fail
        go_meet
        case rel => exact hK
      have hlt2 : (k : Int) + 1 ≤ (n0 : Int) := by omega
      have PO := Lib.hid (HP.out.ext XO.out)
      have qd := Lib.hid (Rd.toDecls PO.out.d)
      obtain ⟨bd, od, rfl, ⟨hbd, hbw⟩, ad, nd, cd, d0, d1, _, _⟩ := (decls_at (HP.out.d.lt.ext XO.out (fun k h => h.1))).2.2.2 k hlt
      have hbne : ¬ bd = w.heap.size + 1 := by omega
      have hbne2 : ¬ w.heap.size + 1 = bd := by omega
      have D0 := Lib.hid d0
      clear d0
      have hkn : k < ds.length := by have := (decls_at PO.out.d).1; omega
      have hw1 : IntKind.i64.wrap (k : Int) = (k : Int) := IntWalk.i64_in _ (by omega)
      have hkk : (0 : Int) ≤ (k : Int) := by omega
      have hkn2 : (k : Int) < (n0 : Int) := by omega
      go_upto_region 5 with fail
      go_cut [44] (fun s44 wx => ∃ b : Bool, s44 = .bool b ∧ Hid (b = true → isArr ds ((k : Int) + 1) = true) ∧ Hid (Keep wo wx))
      case first =>
        cases ha : isArr ds ((k : Int) + 1)
        · have HAr := Lib.hid ha
          clear ha
          go_wp2_with fail
          refine (specIsArrow _ _ _ ds _ _ _ qd.out (by omega)).mono ?_
          rw [HAr.out]
          rintro e w2 ⟨rfl, rfl⟩
          go_wp2_with fail
          go_meet
          case rel => exact ⟨false, rfl, (fun h => by cases h), Ext.refl _ _⟩
        · have HAr := Lib.hid ha
          clear ha
          by_cases hto : (dAt ds k).to_ = t
          · have HPR := Lib.hid PO.out.pr
            have HVI := Lib.hid ((HV.out.g XO.out).toInts)
            have hto2 : ((dAt ds k).to_ == t) = true := by simpa using hto
            clear hto
            go_wp2_with fail
            refine (specIsArrow _ _ _ ds _ _ _ qd.out (by omega)).mono ?_
            rw [HAr.out]
            rintro e w2 ⟨rfl, rfl⟩
            go_wp2_with fail
            refine (specCanMake ds fs vars _ _ _ _ _ _ _ _ _ _ _ _ HPR.out hds hfs HVI.out (by omega)).mono ?_
            rintro e w3 ⟨b, rfl, k3⟩
            go_wp2_with fail
            go_meet
            case rel => exact ⟨b, rfl, (fun _ => HAr.out), k3⟩
          · have hto2 : ((dAt ds k).to_ == t) = false := by simpa using hto
            clear hto
            go_wp2_with fail
            refine (specIsArrow _ _ _ ds _ _ _ qd.out (by omega)).mono ?_
            rw [HAr.out]
            rintro e w2 ⟨rfl, rfl⟩
            go_wp2_with fail
            go_meet
            case rel => exact ⟨false, rfl, (fun h => by cases h), Ext.refl _ _⟩
      case rest =>
      obtain ⟨b, rfl, hba, hX⟩ := hcut
      clear x0 x1 d1
      cases b
      · go_wp2_with fail
        go_roundw
        case measure => simp [intOf]; omega
        case rel => first | exact ⟨k + 1, by omega, by go_num, hK.out.trans hX.out⟩ | ((repeat apply Exists.intro); exact ⟨⟨k + 1, by omega, by go_num, hK.out.trans hX.out⟩, rfl⟩)
      · have XC := Lib.hid (XO.out.trans (Keep.to hX.out))
        have bc := Lib.hid (bo.out.k hX.out)
        have y0 := bc.out.x0
        have y1 := bc.out.x1
        have d2 := (hX.out.cell (World.block_lt_of_cell? _ _ D0.out) (fun h => h)).trans D0.out
        have PD := Lib.hid (HP.out.ext XC.out.drew)
        have VD := Lib.hid (HV.out.g XC.out.drew)
        have RD := Lib.hid (((R1.out.keep hK.out).keep hX.out).keep (Ext.refl (fun _ => False) wc).drew)
        have BD : Hid (B ≤ wc.drew.heap.size) := by show B ≤ wc.heap.size; have := XC.out.size; have := BW.out; omega
        have hka : (dAt ds k).cons.length = 0 := by have h := (isArr_parts (hba.out rfl)).2.2; rw [show ((k : Int) + 1).toNat - 1 = k by omega] at h; exact h
        have HFr := Lib.hid ((HG.out.arrow hkn hka).1)
        have HTk : Hid (T5 ((k : Int) + 1)) := ⟨by omega, by omega⟩
        have hwc := bc.out.lt
        have IHb := Lib.hid (IH.out b2 (by omega))
        have hw2 : IntKind.i64.wrap (b2 : Int) = (b2 : Int) := IntWalk.i64_in _ (by omega)
        clear hka
        go_wp2_with fail
        go_region_held3 (fun w' => w'.cell? ⟨w.heap.size, 0, none⟩ = some (.slice (some ⟨bd, od, none⟩) n0 c0) ∧ w'.cell? ⟨w.heap.size, 1, none⟩ = some (.slice a1 n1 c1) ∧ w'.cell? ⟨bd, od + k * 3, none⟩ = some (.int .i64 (dAt ds k).from_))
          (first | exact ⟨y0, y1, d2⟩ | exact ⟨ka0, ka1, ka2⟩ | exact ⟨kb0, kb1, kb2⟩ | exact ⟨kc0, kc1, kc2⟩ | go_keep)
          (first
            | (go_at_call 153; refine (specLeaf ds fs B g HG.out ((k : Int) + 1) vars _ _ _ _ _ _ _ _ _ _ wc.drew HTk.out PD.out VD.out (by omega) RD.out BD.out (by omega)).mono ?_; rintro e wa ⟨x, ax, nx, cx, qa, rfl, rx, fx, ra, hqa, Xa⟩; have ka0 := Xa.at (w := wc.drew) y0 (by show w.heap.size ≠ g; omega); have ka1 := Xa.at (w := wc.drew) y1 (by show w.heap.size ≠ g; omega); have ka2 := Xa.at (w := wc.drew) d2 hbd; have XA := Lib.hid (XC.out.drew.trans Xa); have RA := Lib.hid ra; have hleA : wc.heap.size ≤ wa.heap.size := Xa.size; have HQA := Lib.hid hqa; have FX := Lib.hid fx; have RX := Lib.hid rx; have BXA := Lib.hid ((bc.out.k (Ext.refl (fun _ => False) wc).drew).ext Xa hgw); have BA := Lib.hid (Nat.le_trans BW.out XA.out.size); clear rx fx ra Xa)
            | (go_at_call 110; refine (IHb.out (dAt ds k).from_ vars _ _ _ qa _ _ _ _ _ _ wa HFr.out (HP.out.ext XA.out) (HV.out.g XA.out) (by omega) RA.out BA.out (by have h1 := HQA.out; have h2 := HPP.out; have h3 := HPB2.out; omega)).mono ?_; rintro e wb ⟨y, ay, ny, cy, qb, rfl, ry, fy, rb, hqb, Xb⟩; have kb0 := Xb.at ka0 (by show w.heap.size ≠ g; omega); have kb1 := Xb.at ka1 (by show w.heap.size ≠ g; omega); have kb2 := Xb.at ka2 hbd; have XB := Lib.hid (XA.out.trans Xb); have RB := Lib.hid rb; have HQB := Lib.hid hqb; have FY := Lib.hid fy; have hleB : wa.heap.size ≤ wb.heap.size := Xb.size; have RXY := Lib.hid (lit_expr2 wb (fun k => w.heap.size + 2 ≤ k) 53 x y ax nx cx ay ny cy (by omega) ((RX.out.ext Xb (fun k hk => (by change wc.heap.size ≤ k at hk; omega))).mono (fun k hk => (by change wc.heap.size ≤ k at hk; omega))) (ry.mono (fun k hk => (by change wa.heap.size ≤ k at hk; omega)))); have BXB := Lib.hid (BXA.out.ext Xb hgw); clear ry fy rb hqb Xb)
            | (go_at_call 112; refine (specNodeG _ _ _ _ _ _).mono ?_; rintro e w9 ⟨rfl, k9⟩; have kc0 := (Keep.to (S := (· = g)) k9).at (at_al kb0) (by show w.heap.size ≠ g; omega); have kc1 := (Keep.to (S := (· = g)) k9).at (at_al kb1) (by show w.heap.size ≠ g; omega); have kc2 := (Keep.to (S := (· = g)) k9).at (at_al kb2) hbd; have K9 := Lib.hid ((Keep.al wb (.cells #[.int .i64 x.op, .int .i64 x.num, .slice ax nx cx, .int .i64 y.op, .int .i64 y.num, .slice ay ny cy] 53)).trans k9); have RD9 := Lib.hid (RXY.out.k k9); have u0 := (BXB.out.k K9.out).u0; have u1 := (BXB.out.k K9.out).u1; have u2 := (BXB.out.k K9.out).u2; have f0 := (BXB.out.k K9.out).f0; have f1 := (BXB.out.k K9.out).f1; have f2 := (BXB.out.k K9.out).f2; clear k9)
            | fail)
        have X9 := Lib.hid (XB.out.trans (Keep.to K9.out))
        have R9 := Lib.hid (RB.out.keep K9.out)
        have HFI : Hid (gfit 1000 11 0) := ⟨by omega, by omega⟩
        have HFS : Hid (allEs (gfit 1000) [x, y]) := ⟨FX.out, FY.out, trivial⟩
        have HQ9 : Hid (qb ≤ p + (pkG (b2 + 2) - 1)) := by show _ ≤ _; have h1 := HQA.out; have h2 := HQB.out; have h3 := HPB2.out; omega
        clear kc0 kc1 kc2 kb0 kb1 kb2 ka0 ka1 ka2 y0 y1 d2
        go_wp2_with fail
        refine bodyPost_ret (v := .agg #[.int .i64 11, .int .i64 0, .slice (some ⟨wb.heap.size, 0, none⟩) 2 2]) (by simp [results, Try.results158, go_sem, u0, u1, u2]) rfl (fin_ hQ ?_)
        exact gen_fin (ks := [x, y]) X9.out R9.out BW.out RD9.out HFI.out HFS.out HQ9.out
  case rest =>
  have K1c := hcut
  clear hcut
  have bq := Lib.hid (b1.out.k K1c.out)
  have XQ := Lib.hid (X2.out.trans (Keep.to K1c.out))
  have RQ := Lib.hid (R1.out.keep K1c.out)
  have x0 := bq.out.x0
  have qd := Lib.hid (Rd.toDecls (HP.out.ext XQ.out).d)
  clear b1 X2 R1 K1c
  go_wp2_with fail
  refine (specConsOf0 _ _ _ ds _ t _ qd.out HG.out.few).mono ?_
  rintro e w2 ⟨ac, m, cc, rfl, hmc, oc, k2⟩
  have b2x := Lib.hid (bq.out.k k2)
  have X3 := Lib.hid (XQ.out.trans (Keep.to k2))
  have R2 := Lib.hid (RQ.out.keep k2)
  have OC := Lib.hid oc.read
  have HM := Lib.hid oc.1
  have hsq := XQ.out.size
  clear oc k2 x0 qd
  have IHB : Hid (∀ b', b' ≤ b2 + 1 → GenS ds fs B g b') := fun b' h => IH.out b' (by omega)
  have hw1 : IntKind.i64.wrap ((b2 : Int) + 1) = (b2 : Int) + 1 := IntWalk.i64_in _ (by omega)
  have hw0 : IntKind.i64.wrap ((b2 : Int) + 2 - 1) = (b2 : Int) + 1 := by rw [show (b2 : Int) + 2 - 1 = (b2 : Int) + 1 by omega]; exact hw1
  rcases Nat.eq_zero_or_pos m with hm | hm
  · subst hm
    by_cases ht : 0 < t
    · have y0 := b2x.out.x0
      have y1 := b2x.out.x1
      have PD := Lib.hid (HP.out.ext X3.out)
      have VD := Lib.hid (HV.out.g X3.out)
      have BD : Hid (B ≤ w2.heap.size) := Nat.le_trans BW.out X3.out.size
      go_wp2_with fail
      refine (specLeaf ds fs B g HG.out t vars _ _ _ _ _ _ _ _ _ _ _ HT.out PD.out VD.out (by omega) R2.out BD.out (by omega)).mono ?_
      rintro e w5 ⟨x, ax, nx, cx, q5, rfl, rx, fx, r5, hq5, X5⟩
      have b5 := Lib.hid (b2x.out.ext X5 hgw)
      have X6 := Lib.hid (X3.out.trans X5)
      have RX := Lib.hid (rx.mono (D' := fun k => w.heap.size + 2 ≤ k) (fun k hk => Nat.le_trans b2x.out.lt hk))
      have FX := Lib.hid ((allE_eq _ _).1 fx)
      have R5 := Lib.hid r5
      have HQ5 : Hid (q5 ≤ p + (pkG (b2 + 2) - 1)) := by show _ ≤ _; omega
      clear y0 y1 rx fx r5 hq5 X5
      have bz := b5.out
      have u0 := bz.u0
      have u1 := bz.u1
      have u2 := bz.u2
      have f0 := bz.f0
      have f1 := bz.f1
      have f2 := bz.f2
      clear bz
      go_wp2_with fail
      refine bodyPost_ret (v := .agg #[.int .i64 x.op, .int .i64 x.num, .slice ax nx cx]) (by simp [results, Try.results158, go_sem, u0, u1, u2]) rfl (fin_ hQ ?_)
      exact gen_fin (ks := x.kids) X6.out R5.out BW.out RX.out FX.out.1 FX.out.2 HQ5.out
    · have ht2 : t ≤ 0 := by omega
      clear ht
      go_wp2_with fail
      refine (pickX B g _ _ _ R2.out (by omega) (by omega)).mono ?_
      rintro e w4 ⟨v, rfl, _, _, r4, x4⟩
      have b4 := Lib.hid (b2x.out.ext x4 hgw)
      have X4 := Lib.hid (X3.out.trans x4)
      have R4 := Lib.hid r4
      clear r4 x4
      by_cases hv0 : v = 0
      · subst hv0
        have y0 := at_al (o := .cells #[.int .i64 0] 3) b4.out.x0
        have y1 := at_al (o := .cells #[.int .i64 0] 3) b4.out.x1
        have z0 := b4.out.x0
        have z1 := b4.out.x1
        have X4a := Lib.hid (X4.out.trans (Keep.to (Keep.al w4 (.cells #[.int .i64 0] 3))))
        have PD := Lib.hid (HP.out.ext X4a.out)
        have VD := Lib.hid (HV.out.g X4a.out)
        have BD := Lib.hid (Nat.le_trans BW.out X4a.out.size)
        have hs4 := X4.out.size
        have TY := Lib.hid (lit_intsD w4 (fun k => k ≠ g) 3 [0] #[.int .i64 0] 1 (by omega) rfl rfl (by omega))
        go_wp2_with fail
        refine (specGenAllB ds fs B g (b2 + 1) _ (pkG (b2 + 2)) (by omega) HG.out [0] IHB.out (by omega) rfl vars _ _ _ _ _ _ _ _ _ _ _ _ _ _ (by intro t ht; rw [List.mem_singleton.1 ht]; exact ⟨by omega, by omega⟩) PD.out VD.out (by omega) TY.out (by omega) (R4.out.keep (Keep.al _ _)) BD.out (by have := HPP.out; omega)).mono ?_
        rintro e w5 ⟨es, a5, n5, c5, q5, rfl, rd5, _, fs5, r5, hq5, X5⟩
        have b5 := Lib.hid ((b4.out.k (Keep.al _ _)).ext X5 hgw)
        have X6 := Lib.hid (X4a.out.trans X5)
        have hw5 := b4.out.lt
        have RX := Lib.hid (rd5.mono (D' := fun k => w.heap.size + 2 ≤ k) (fun k hk => by simp at hk; omega))
        have R5 := Lib.hid r5
        have F5 := Lib.hid fs5
        have HQ5 := Lib.hid hq5
        clear y0 y1 z0 z1 rd5 r5 fs5 hq5 X5
        go_wp2_with fail
        refine (specNodeG _ _ _ _ _ _).mono ?_
        rintro e w9 ⟨rfl, k9⟩
        have b9 := Lib.hid (b5.out.k k9)
        have X9 := Lib.hid (X6.out.trans (Keep.to k9))
        have R9 := Lib.hid (R5.out.keep k9)
        have RD9 := Lib.hid (RX.out.k k9)
        have HFI : Hid (gfit 1000 5 0) := ⟨by omega, by omega⟩
        have HQ9 : Hid (q5 ≤ p + (pkG (b2 + 2) - 1)) := by show _ ≤ _; have h1 := HQ5.out; omega
        clear k9
        have bz := b9.out
        have u0 := bz.u0
        have u1 := bz.u1
        have u2 := bz.u2
        have f0 := bz.f0
        have f1 := bz.f1
        have f2 := bz.f2
        clear bz
        go_wp2_with fail
        refine bodyPost_ret (v := .agg #[.int .i64 5, .int .i64 0, .slice a5 n5 c5]) (by simp [results, Try.results158, go_sem, u0, u1, u2]) rfl (fin_ hQ ?_)
        exact gen_fin (ks := es) X9.out R9.out BW.out RD9.out HFI.out F5.out HQ9.out
      · have hvn : (v == 0) = false := by simpa using hv0
        have y0 := b4.out.x0
        have y1 := b4.out.x1
        have hs4 := X4.out.size
        have hw5 := b4.out.lt
        have IA := Lib.hid ((lit_intsD w4 (fun k => k ≠ g) 3 [1, 2, 3, 4] #[.int .i64 1, .int .i64 2, .int .i64 3, .int .i64 4] 4 (by omega) rfl rfl (by omega)).k (Ext.refl (fun _ => False) (w4.alloc (.cells #[.int .i64 1, .int .i64 2, .int .i64 3, .int .i64 4] 3))).drew)
        have IB := Lib.hid (((lit_intsD w4 (fun k => k ≠ g) 3 [1, 2, 3, 4] #[.int .i64 1, .int .i64 2, .int .i64 3, .int .i64 4] 4 (by omega) rfl rfl (by omega)).k (Keep.al _ (.cells #[.int .i64 0, .int .i64 0] 3))).k (Ext.refl (fun _ => False) ((w4.alloc (.cells #[.int .i64 1, .int .i64 2, .int .i64 3, .int .i64 4] 3)).alloc (.cells #[.int .i64 0, .int .i64 0] 3))).drew)
        have IC := Lib.hid ((lit_intsD (w4.alloc (.cells #[.int .i64 0, .int .i64 0] 3)) (fun k => k ≠ g) 3 [1, 2, 3, 4] #[.int .i64 1, .int .i64 2, .int .i64 3, .int .i64 4] 4 (by simp only [World.size_alloc]; omega) rfl rfl (by omega)).k (Ext.refl (fun _ => False) ((w4.alloc (.cells #[.int .i64 0, .int .i64 0] 3)).alloc (.cells #[.int .i64 1, .int .i64 2, .int .i64 3, .int .i64 4] 3))).drew)
        have TB := Lib.hid ((lit_intsD (w4.alloc (.cells #[.int .i64 1, .int .i64 2, .int .i64 3, .int .i64 4] 3)) (fun k => k ≠ g) 3 [0, 0] #[.int .i64 0, .int .i64 0] 2 (by simp only [World.size_alloc]; omega) rfl rfl (by omega)).k (Ext.refl (fun _ => False) ((w4.alloc (.cells #[.int .i64 1, .int .i64 2, .int .i64 3, .int .i64 4] 3)).alloc (.cells #[.int .i64 0, .int .i64 0] 3))).drew)
        have TC := Lib.hid (((lit_intsD w4 (fun k => k ≠ g) 3 [0, 0] #[.int .i64 0, .int .i64 0] 2 (by omega) rfl rfl (by omega)).k (Keep.al _ (.cells #[.int .i64 1, .int .i64 2, .int .i64 3, .int .i64 4] 3))).k (Ext.refl (fun _ => False) ((w4.alloc (.cells #[.int .i64 0, .int .i64 0] 3)).alloc (.cells #[.int .i64 1, .int .i64 2, .int .i64 3, .int .i64 4] 3))).drew)
        simp only [World.size_alloc] at IC TB
        have KKA := Lib.hid ((Keep.al w4 (.cells #[.int .i64 1, .int .i64 2, .int .i64 3, .int .i64 4] 3)).drew)
        have KKB := Lib.hid (((Keep.al w4 (.cells #[.int .i64 1, .int .i64 2, .int .i64 3, .int .i64 4] 3)).trans (Keep.al _ (.cells #[.int .i64 0, .int .i64 0] 3))).drew)
        have KKC := Lib.hid (((Keep.al w4 (.cells #[.int .i64 0, .int .i64 0] 3)).trans (Keep.al _ (.cells #[.int .i64 1, .int .i64 2, .int .i64 3, .int .i64 4] 3))).drew)
        have CA := Lib.hid (oneX B g (p + 1 + 1) _ 4 4 [1, 2, 3, 4] (fun k => k ≠ g) _ (R4.out.keep KKA.out) (by omega) IA.out.toInts (by omega) (by omega) (fun h => h rfl))
        have CB := Lib.hid (oneX B g (p + 1 + 1) _ 4 4 [1, 2, 3, 4] (fun k => k ≠ g) _ (R4.out.keep KKB.out) (by omega) IB.out.toInts (by omega) (by omega) (fun h => h rfl))
        have CC := Lib.hid (oneX B g (p + 1 + 1) _ 4 4 [1, 2, 3, 4] (fun k => k ≠ g) _ (R4.out.keep KKC.out) (by omega) IC.out.toInts (by omega) (by omega) (fun h => h rfl))
        go_wp2_with fail
        go_region_held3 (fun w' => w'.cell? ⟨w.heap.size, 0, none⟩ = some (.slice a0 n0 c0) ∧ w'.cell? ⟨w.heap.size, 1, none⟩ = some (.slice a1 n1 c1))
          (first | exact ⟨y0, y1⟩ | exact ⟨kb0, kb1⟩ | exact ⟨kc0, kc1⟩ | exact ⟨ka0, ka1⟩ | go_keep)
          (first
            | (go_at_call 69; (with_reducible refine CA.out.mono ?_); intro e wa hpost; obtain ⟨op, hop, he, ra, xa⟩ := hpost; subst he; have ka0 := xa.at ((Keep.to (S := (· = g)) KKA.out).at y0 (by show w.heap.size ≠ g; omega)) (by show w.heap.size ≠ g; omega); have ka1 := xa.at ((Keep.to (S := (· = g)) KKA.out).at y1 (by show w.heap.size ≠ g; omega)) (by show w.heap.size ≠ g; omega); have HOP := Lib.hid hop; have hsA := ((Keep.to (S := (· = g)) KKA.out).trans xa).size; have XC2 := Lib.hid (((Keep.to (S := (· = g)) KKA.out).trans xa).trans (Keep.to (Keep.al wa (.cells #[.int .i64 0, .int .i64 0] 3)))); have RC2 := Lib.hid (ra.keep (Keep.al wa (.cells #[.int .i64 0, .int .i64 0] 3))); have TY := Lib.hid (lit_intsD wa (fun k => k ≠ g) 3 [0, 0] #[.int .i64 0, .int .i64 0] 2 (by omega) rfl rfl (by omega)); clear ra xa hop)
            | (go_at_call 69; (with_reducible refine CB.out.mono ?_); intro e wa hpost; obtain ⟨op, hop, he, ra, xa⟩ := hpost; subst he; have ka0 := xa.at ((Keep.to (S := (· = g)) KKB.out).at y0 (by show w.heap.size ≠ g; omega)) (by show w.heap.size ≠ g; omega); have ka1 := xa.at ((Keep.to (S := (· = g)) KKB.out).at y1 (by show w.heap.size ≠ g; omega)) (by show w.heap.size ≠ g; omega); have HOP := Lib.hid hop; have hsA := ((Keep.to (S := (· = g)) KKB.out).trans xa).size; have XC2 := Lib.hid ((Keep.to (S := (· = g)) KKB.out).trans xa); have RC2 := Lib.hid ra; have TY := Lib.hid (TB.out.g xa); clear ra xa hop)
            | (go_at_call 69; (with_reducible refine CC.out.mono ?_); intro e wa hpost; obtain ⟨op, hop, he, ra, xa⟩ := hpost; subst he; have ka0 := xa.at ((Keep.to (S := (· = g)) KKC.out).at y0 (by show w.heap.size ≠ g; omega)) (by show w.heap.size ≠ g; omega); have ka1 := xa.at ((Keep.to (S := (· = g)) KKC.out).at y1 (by show w.heap.size ≠ g; omega)) (by show w.heap.size ≠ g; omega); have HOP := Lib.hid hop; have hsA := ((Keep.to (S := (· = g)) KKC.out).trans xa).size; have XC2 := Lib.hid ((Keep.to (S := (· = g)) KKC.out).trans xa); have RC2 := Lib.hid ra; have TY := Lib.hid (TC.out.g xa); clear ra xa hop)
            | (go_at_call 155; refine (specGenAllB ds fs B g (b2 + 1) _ (pkG (b2 + 2)) (by omega) HG.out [0, 0] IHB.out (by omega) rfl vars _ _ _ _ _ _ _ _ _ _ _ _ _ _ (by intro t ht; simp only [List.mem_cons, List.not_mem_nil, or_false, or_self] at ht; rw [ht]; exact ⟨by omega, by omega⟩) (HP.out.ext (X4.out.trans XC2.out)) (HV.out.g (X4.out.trans XC2.out)) (by omega) TY.out (by omega) RC2.out (Nat.le_trans BW.out (X4.out.trans XC2.out).size) (by have := HPP.out; omega)).mono ?_; rintro e w5 ⟨es, a5, n5, c5, q5, rfl, rd5, _, fs5, r5, hq5, X5⟩; have kb0 := (XC2.out.trans X5).at y0 (by show w.heap.size ≠ g; omega); have kb1 := (XC2.out.trans X5).at y1 (by show w.heap.size ≠ g; omega); have hsC := XC2.out.size; have b5 := Lib.hid (b4.out.ext (XC2.out.trans X5) hgw); have X6 := Lib.hid ((X4.out.trans XC2.out).trans X5); have RX := Lib.hid (rd5.mono (D' := fun k => w.heap.size + 2 ≤ k) (fun k hk => (by omega))); have R5 := Lib.hid r5; have F5 := Lib.hid fs5; have HQ5 := Lib.hid hq5; clear rd5 r5 fs5 hq5 X5)
            | (go_at_call 112; refine (specNodeG _ _ _ _ _ _).mono ?_; rintro e w9 ⟨rfl, k9⟩; have kc0 := (Keep.to (S := (· = g)) k9).at kb0 (by show w.heap.size ≠ g; omega); have kc1 := (Keep.to (S := (· = g)) k9).at kb1 (by show w.heap.size ≠ g; omega); have K9 := Lib.hid k9; have u0 := (b5.out.k K9.out).u0; have u1 := (b5.out.k K9.out).u1; have u2 := (b5.out.k K9.out).u2; have f0 := (b5.out.k K9.out).f0; have f1 := (b5.out.k K9.out).f1; have f2 := (b5.out.k K9.out).f2; clear k9)
            | fail)
        all_goals
          have X9 := Lib.hid (X6.out.trans (Keep.to K9.out))
          have R9 := Lib.hid (R5.out.keep K9.out)
          have RD9 := Lib.hid (RX.out.k K9.out)
          have HFI : Hid (gfit 1000 op 0) := ⟨by omega, by omega⟩
          have HQ9 : Hid (q5 ≤ p + (pkG (b2 + 2) - 1)) := by show _ ≤ _; have h1 := HQ5.out; omega
          clear kc0 kc1 kb0 kb1 ka0 ka1 y0 y1
          go_wp2_with fail
          refine bodyPost_ret (v := .agg #[.int .i64 op, .int .i64 0, .slice a5 n5 c5]) (by simp [results, Try.results158, go_sem, u0, u1, u2]) rfl (fin_ hQ ?_)
          exact gen_fin (ks := es) X9.out R9.out BW.out RD9.out HFI.out F5.out HQ9.out
  · have hd0 : decide (0 < m) = true := decide_eq_true hm
    have hm3 : m ≤ 3 := by have := (HG.out.cons t).1; have := HM.out; omega
    go_wp2_with fail
    refine (pickX B g _ _ _ R2.out (by omega) (by omega)).mono ?_
    rintro e w3 ⟨v, rfl, hv, _, r3, x3⟩
    obtain ⟨hv0, hv1⟩ := hv (by omega)
    obtain ⟨i, rfl⟩ := Int.eq_ofNat_of_zero_le hv0
    have hi : i < m := by omega
    obtain ⟨bc, oc, rfl, hbc, hcc⟩ := OC.out.2 hm
    have hbc2 : wc.heap.size ≤ bc := hbc
    have d0 := x3.at (hcc i hi) (by show bc ≠ g; omega)
    have hcm : iAt (consL ds t) i ∈ consL ds t := by rw [iAt_get (by have := HM.out; omega)]; exact List.getElem_mem _
    generalize iAt (consL ds t) i = c at d0 hcm
    have HCR := Lib.hid ((HG.out.cons t).2 c hcm)
    have b3 := Lib.hid (b2x.out.ext x3 hgw)
    have X4 := Lib.hid (X3.out.trans x3)
    have R3 := Lib.hid r3
    have y0 := b3.out.x0
    have y1 := b3.out.x1
    have hw3 := b3.out.lt
    have PD := Lib.hid (HP.out.ext X4.out.drew)
    have VD := Lib.hid (HV.out.g X4.out.drew)
    have RD := Lib.hid (R3.out.keep (Ext.refl (fun _ => False) w3).drew)
    have hdw := Lib.hid (Rd.toDecls PD.out.d)
    have HF := Lib.hid (HG.out.fields c)
    have BD : Hid (B ≤ w3.drew.heap.size) := by show B ≤ w3.heap.size; have := X4.out.size; have := BW.out; omega
    have BXD := Lib.hid (b3.out.k (Ext.refl (fun _ => False) w3).drew)
    clear hcc hv hv0 r3 x3 hcm
    go_wp2_with fail
    clear d0
    go_region_held3 (fun w' => w'.cell? ⟨w.heap.size, 0, none⟩ = some (.slice a0 n0 c0) ∧ w'.cell? ⟨w.heap.size, 1, none⟩ = some (.slice a1 n1 c1))
      (first | exact ⟨y0, y1⟩ | exact ⟨ka0, ka1⟩ | exact ⟨kb0, kb1⟩ | exact ⟨kc0, kc1⟩ | go_keep)
      (first
        | (go_at_call 126; refine (specConFieldsD _ _ _ ds _ c w3.drew hdw.out HG.out.few).mono ?_; rintro e wa ⟨af, mf, cf, rfl, hmf, hfa, ka⟩; have ka0 := (Keep.to (S := (· = g)) ka).at (w := w3.drew) y0 (by show w.heap.size ≠ g; omega); have ka1 := (Keep.to (S := (· = g)) ka).at (w := w3.drew) y1 (by show w.heap.size ≠ g; omega); have KA := Lib.hid ka; have hmf3 : mf ≤ 3 := (by have := HF.out.1; have := hfa.1; omega); have TYA := Lib.hid (hfa.toRd hmf (by omega)); clear hfa ka)
        | (go_at_call 155; refine (specGenAllB ds fs B g (b2 + 1) _ (pkG (b2 + 2)) (by omega) HG.out (conFieldsL ds c) IHB.out (by omega) rfl vars _ _ _ _ _ _ _ _ _ _ _ _ _ wa HF.out.2 (PD.out.k KA.out) (VD.out.k KA.out) (by omega) TYA.out (by omega) (RD.out.keep KA.out) (Nat.le_trans BD.out KA.out.size) (by have := HPP.out; omega)).mono ?_; rintro e w5 ⟨es, a5, n5, c5, q5, rfl, rd5, _, fs5, r5, hq5, X5⟩; have kb0 := X5.at ka0 (by show w.heap.size ≠ g; omega); have kb1 := X5.at ka1 (by show w.heap.size ≠ g; omega); have hsA : w3.heap.size ≤ wa.heap.size := KA.out.size; have b5 := Lib.hid ((BXD.out.k KA.out).ext X5 hgw); have X6 := Lib.hid ((X4.out.drew.trans (Keep.to KA.out)).trans X5); have RX := Lib.hid (rd5.mono (D' := fun k => w.heap.size + 2 ≤ k) (fun k hk => (by omega))); have R5 := Lib.hid r5; have F5 := Lib.hid fs5; have HQ5 := Lib.hid hq5; clear rd5 r5 fs5 hq5 X5)
        | (go_at_call 112; refine (specNodeG _ _ _ _ _ _).mono ?_; rintro e w9 ⟨rfl, k9⟩; have kc0 := (Keep.to (S := (· = g)) k9).at kb0 (by show w.heap.size ≠ g; omega); have kc1 := (Keep.to (S := (· = g)) k9).at kb1 (by show w.heap.size ≠ g; omega); have K9 := Lib.hid k9; have u0 := (b5.out.k K9.out).u0; have u1 := (b5.out.k K9.out).u1; have u2 := (b5.out.k K9.out).u2; have f0 := (b5.out.k K9.out).f0; have f1 := (b5.out.k K9.out).f1; have f2 := (b5.out.k K9.out).f2; clear k9)
        | fail)
    have X9 := Lib.hid (X6.out.trans (Keep.to K9.out))
    have R9 := Lib.hid (R5.out.keep K9.out)
    have RD9 := Lib.hid (RX.out.k K9.out)
    have HFI : Hid (gfit 1000 6 c) := ⟨by have := HCR.out.1; omega, by have := HCR.out.2; omega⟩
    have HQ9 : Hid (q5 ≤ p + (pkG (b2 + 2) - 1)) := by show _ ≤ _; have h1 := HQ5.out; omega
    clear kc0 kc1 kb0 kb1 ka0 ka1 y0 y1
    go_wp2_with fail
    refine bodyPost_ret (v := .agg #[.int .i64 6, .int .i64 c, .slice a5 n5 c5]) (by simp [results, Try.results158, go_sem, u0, u1, u2]) rfl (fin_ hQ ?_)
    exact gen_fin (ks := es) X9.out R9.out BW.out RD9.out HFI.out F5.out HQ9.out
end Go.Proofs.Ytaeddcnakilnlaa
/- The generator of programs: gen. -/
namespace Go.Proofs.Ytaeddcnakilnlaa
open Go.RowKit

theorem pkG_half {b : Nat} (h : 3 ≤ b) : 8 * pkG (b / 2) ≤ 2 * pkG b := by
  obtain ⟨c, rfl⟩ : ∃ c, b = c + 2 := ⟨b - 2, by omega⟩
  have h2 : pkG (c + 2) = 4 * pkG c := by rw [pkG_succ, pkG_succ]; omega
  have := pkG_mono (show (c + 2) / 2 ≤ c by omega)
  omega

set_option maxRecDepth 100000 in
set_option maxHeartbeats 8000000 in
theorem specGenStep (ds : List DeclL) (fs : List FuncL) (B g b2 : Nat) (hG : GoodG ds fs) (hb : 1 ≤ b2) (HI : ∀ b', b' < b2 + 2 → GenS ds fs B g b') : GenS ds fs B g (b2 + 2) := by
  intro t vars av nv cv p a0 n0 c0 a1 n1 c1 w hT hpg hv hnv hr hBw hp
  refine calls_k fun Q hQ => ?_
  have HG := Lib.hid hG
  have HP := Lib.hid hpg
  have BW := Lib.hid hBw
  have hgB := hr.gB
  have hgw : g < w.heap.size := by omega
  have K1 := (Keep.al w (.cells #[.slice a0 n0 c0, .slice a1 n1 c1] 50)).trans (Keep.al _ (.cells #[.int .i64 0, .int .i64 0, .slice none 0 0] 53))
  have B0 := Lib.hid (Bx.born w (.slice a0 n0 c0) (.slice a1 n1 c1))
  have hds := hG.len4
  have hfs := hG.len
  have hn0 : n0 ≤ 4 := by have := (decls_at hpg.d).1; omega
  have hn1 : n1 ≤ 4 := by have := (funcs_at hpg.f).1; omega
  have qr := Lib.hid (hr.keep K1)
  have X1 := Lib.hid (Keep.to (S := (· = g)) K1)
  have HT := Lib.hid hT
  have HV := Lib.hid hv
  have IH := Lib.hid HI
  have hpk3 := pkG_3 (show 3 ≤ b2 + 2 by omega)
  have HPP := Lib.hid hp
  have hpp : p + 100 ≤ 900000000000 := by omega
  have HPE : Hid (∃ c : Nat, c = (b2 + 2) / 2) := ⟨_, rfl⟩
  obtain ⟨c, hc⟩ := HPE.out
  have HC := Lib.hid hc
  have hcb : c < b2 + 2 := by omega
  have hhalf : Hid (8 * pkG c ≤ 2 * pkG (b2 + 2)) := by show _ ≤ _; rw [hc]; exact pkG_half (by omega)
  have IHB : Hid (∀ b', b' ≤ b2 + 1 → GenS ds fs B g b') := fun b' h => IH.out b' (by omega)
  have hb3 : ¬ (b2 : Int) + 2 < 3 := by omega
  clear hG hpg hv hr hBw hT HI hp HPE hc
  go_enter Try.func110, Try.ntmps110
  go_wp2_with fail
  refine (pickX B g p _ _ qr.out (by omega) (by omega)).mono ?_
  rintro e w1 ⟨v, rfl, hv, _, r1, x1⟩
  obtain ⟨hv0, hv1⟩ := hv (by omega)
  have b2x := Lib.hid (B0.out.ext x1 hgw)
  have X2 := Lib.hid (X1.out.trans x1)
  have R2 := Lib.hid r1
  have PD := Lib.hid (HP.out.ext X2.out)
  have VD := Lib.hid (HV.out.g X2.out)
  have BD : Hid (B ≤ w1.heap.size) := Nat.le_trans BW.out X2.out.size
  have hs1 := X2.out.size
  have hw3 := b2x.out.lt
  have x0 := b2x.out.x0
  have x1' := b2x.out.x1
  have hvc : v = 0 ∨ (v = 1 ∨ v = 2) ∨ v = 3 ∨ (v = 4 ∨ v = 5 ∨ v = 6) ∨ (v = 7 ∨ v = 8) ∨ (v = 9 ∨ v = 10 ∨ v = 11) := by omega
  clear hv r1 x1 K1 B0 X1 qr hv0 hv1
  have HX0 := Lib.hid x0
  have HX1 := Lib.hid x1'
  rcases hvc with rfl | h | rfl | h | h | h
  · go_wp2_with fail
    refine (specLeaf ds fs B g HG.out t vars _ _ _ _ _ _ _ _ _ _ _ HT.out PD.out VD.out (by omega) R2.out BD.out (by omega)).mono ?_
    rintro e w5 ⟨x, ax, nx, cx, q5, rfl, rx, fx, r5, hq5, X5⟩
    have b5 := Lib.hid (b2x.out.ext X5 hgw)
    have X6 := Lib.hid (X2.out.trans X5)
    have RX := Lib.hid (rx.mono (D' := fun k => w.heap.size + 2 ≤ k) (fun k hk => Nat.le_trans b2x.out.lt hk))
    have FX := Lib.hid ((allE_eq _ _).1 fx)
    have R5 := Lib.hid r5
    have HQ5 : Hid (q5 ≤ p + pkG (b2 + 2)) := by show _ ≤ _; omega
    clear rx fx r5 hq5 X5
    have bz := b5.out
    have u0 := bz.u0
    have u1 := bz.u1
    have u2 := bz.u2
    have f0 := bz.f0
    have f1 := bz.f1
    have f2 := bz.f2
    clear bz
    go_wp2_with fail
    refine bodyPost_ret (v := .agg #[.int .i64 x.op, .int .i64 x.num, .slice ax nx cx]) (by simp [results, Try.results110, go_sem, u0, u1, u2]) rfl (fin_ hQ ?_)
    exact gen_fin (ks := x.kids) X6.out R5.out BW.out RX.out FX.out.1 FX.out.2 HQ5.out
  · -- a let
    rcases h with rfl | rfl
    all_goals
      go_wp2_with fail
      refine (specAnyType ds fs vars B g (p + 1) _ _ _ _ _ _ _ _ _ _ PD.out hds hfs VD.out (by omega) R2.out BD.out (by omega)).mono ?_
      rintro e w2 ⟨u, rfl, hu, r2, x2⟩
      have HU := Lib.hid hu
      have b3 := Lib.hid (b2x.out.ext x2 hgw)
      have X3 := Lib.hid (X2.out.trans x2)
      have R3 := Lib.hid r2
      have IHc := Lib.hid (IH.out c hcb)
      have hdv : IntKind.i64.wrap (Int.tdiv ((b2 : Int) + 2) 2) = (c : Int) := by rw [IntWalk.i64_quo _ _ (by omega), HC.out, Int.natCast_ediv]; rfl
      have hdv3 : IntKind.i64.wrap (c : Int) = (c : Int) := IntWalk.i64_in _ (by omega)
      have hdv2 : ((b2 : Int) + 2) / 2 = (c : Int) := by rw [HC.out, Int.natCast_ediv]; rfl
      have y0 := b3.out.x0
      have y1 := b3.out.x1
      have hs2 := X3.out.size
      have KKA := Lib.hid ((Ext.refl (fun _ => False) w2).drew)
      have KKB := Lib.hid ((Keep.al w2 (.cells #[.int .i64 u] 3)).drew)
      have HQh : Hid (p + 1 + 1 + pkG c ≤ 900000000000) := by show _ ≤ _; have h1 := hhalf.out; have h2 := HPP.out; omega
      have CA := Lib.hid (IHc.out u vars av nv cv (p + 1 + 1) _ _ _ _ _ _ _ HU.out (HP.out.ext (X3.out.trans (Keep.to KKA.out))) (HV.out.g (X3.out.trans (Keep.to KKA.out))) (by omega) (R3.out.keep KKA.out) (Nat.le_trans BW.out (X3.out.trans (Keep.to KKA.out)).size) HQh.out)
      have CB := Lib.hid (IHc.out u vars av nv cv (p + 1 + 1) _ _ _ _ _ _ _ HU.out (HP.out.ext (X3.out.trans (Keep.to KKB.out))) (HV.out.g (X3.out.trans (Keep.to KKB.out))) (by omega) (R3.out.keep KKB.out) (Nat.le_trans BW.out (X3.out.trans (Keep.to KKB.out)).size) HQh.out)
      have UB := Lib.hid ((lit_intsD w2 (fun k => k ≠ g) 3 [u] #[.int .i64 u] 1 (by omega) rfl rfl (by omega)).k (Ext.refl (fun _ => False) (w2.alloc (.cells #[.int .i64 u] 3))).drew)
      clear hu r2 x2 x0 x1'
      go_wp2_with fail
      go_region_held3 (fun w' => w'.cell? ⟨w.heap.size, 0, none⟩ = some (.slice a0 n0 c0) ∧ w'.cell? ⟨w.heap.size, 1, none⟩ = some (.slice a1 n1 c1))
        (first | exact ⟨y0, y1⟩ | exact ⟨kb0, kb1⟩ | exact ⟨kc0, kc1⟩ | exact ⟨kd0, kd1⟩ | exact ⟨ka0, ka1⟩ | go_keep)
        (first
          | (have hgate := HX0; go_at_call 110; (with_reducible refine CA.out.mono ?_); rintro e wa ⟨x, ax, nx, cx, qa, rfl, rx, fx, ra, hqa, xa⟩; have ka0 := xa.at ((Keep.to (S := (· = g)) KKA.out).at y0 (by show w.heap.size ≠ g; omega)) (by show w.heap.size ≠ g; omega); have ka1 := xa.at ((Keep.to (S := (· = g)) KKA.out).at y1 (by show w.heap.size ≠ g; omega)) (by show w.heap.size ≠ g; omega); have XA := Lib.hid (((Keep.to (S := (· = g)) KKA.out).trans xa).trans (Keep.to (Keep.al wa (.cells #[.int .i64 u] 3)))); have RA := Lib.hid (ra.keep (Keep.al wa (.cells #[.int .i64 u] 3))); have HQA := Lib.hid hqa; have hsa : w2.heap.size ≤ wa.heap.size := xa.size; have RX := Lib.hid ((rx.mono (D' := fun k => w2.heap.size ≤ k) (fun k hk => hk)).k (Keep.al wa (.cells #[.int .i64 u] 3))); have FX := Lib.hid fx; have UU := Lib.hid (lit_intsD wa (fun k => k ≠ g) 3 [u] #[.int .i64 u] 1 (by omega) rfl rfl (by omega)); clear rx fx ra hqa xa HX0)
          | (have hgate := HX0; go_at_call 110; (with_reducible refine CB.out.mono ?_); rintro e wa ⟨x, ax, nx, cx, qa, rfl, rx, fx, ra, hqa, xa⟩; have ka0 := xa.at ((Keep.to (S := (· = g)) KKB.out).at y0 (by show w.heap.size ≠ g; omega)) (by show w.heap.size ≠ g; omega); have ka1 := xa.at ((Keep.to (S := (· = g)) KKB.out).at y1 (by show w.heap.size ≠ g; omega)) (by show w.heap.size ≠ g; omega); have XA := Lib.hid ((Keep.to (S := (· = g)) KKB.out).trans xa); have RA := Lib.hid ra; have HQA := Lib.hid hqa; have RX := Lib.hid (rx.mono (D' := fun k => w2.heap.size ≤ k) (fun k hk => Nat.le_trans KKB.out.size hk)); have FX := Lib.hid fx; have UU := Lib.hid (UB.out.g xa); clear rx fx ra hqa xa HX0)
          | (go_at_call 115; refine (specExtend av nv cv vars _ _ 1 1 [u] _ _ (HV.out.g (X3.out.trans XA.out)).toInts (by omega) UU.out.toInts (by omega)).mono ?_; rintro e wb ⟨ae, ne, ce, rfl, hne, hea, kb⟩; have kb0 := (XA.out.trans (Keep.to kb)).at y0 (by show w.heap.size ≠ g; omega); have kb1 := (XA.out.trans (Keep.to kb)).at y1 (by show w.heap.size ≠ g; omega); have hnl := (ints_at VD.out).1; obtain rfl : ne = nv + 1 := (by have h1 := hea.1; rw [List.length_append] at h1; simp at h1; omega); have XB := Lib.hid (XA.out.trans (Keep.to kb)); have RB := Lib.hid (RA.out.keep kb); have hsA := XA.out.size; have VB := Lib.hid ((hea.read.toRd hne (by omega)).mono (D' := fun k => k ≠ g) (fun k hk => by omega)); have RXB := Lib.hid (RX.out.k kb); clear hea kb)
          | (go_at_call 110; refine (IHc.out t (vars ++ [u]) ae (nv + 1) ce qa _ _ _ _ _ _ _ HT.out (HP.out.ext (X3.out.trans XB.out)) VB.out (by omega) RB.out (Nat.le_trans BW.out (X3.out.trans XB.out).size) (by have h1 := hhalf.out; have h2 := HPP.out; have h3 := HQA.out; omega)).mono ?_; rintro e wc ⟨y, ay, ny, cy, qb, rfl, ry, fy, rb, hqb, xc⟩; have kc0 := (XB.out.trans xc).at y0 (by show w.heap.size ≠ g; omega); have kc1 := (XB.out.trans xc).at y1 (by show w.heap.size ≠ g; omega); have XC := Lib.hid (XB.out.trans xc); have RC := Lib.hid rb; have HQB := Lib.hid hqb; have FY := Lib.hid fy; have hsB := XB.out.size; have hsC := xc.size; have hb3l := b3.out.lt; have RXY := Lib.hid (lit_expr2 wc (fun k => w.heap.size + 2 ≤ k) 53 x y ax nx cx ay ny cy (by omega) ((RXB.out.ext xc (fun k hk => by omega)).mono (fun k hk => by omega)) (ry.mono (fun k hk => by omega))); have BXC := Lib.hid (b3.out.ext (XB.out.trans xc) hgw); clear ry fy rb hqb xc)
          | (go_at_call 112; refine (specNodeG _ _ _ _ _ _).mono ?_; rintro e w9 ⟨rfl, k9⟩; have kd0 := (Keep.to (S := (· = g)) k9).at (at_al kc0) (by show w.heap.size ≠ g; omega); have kd1 := (Keep.to (S := (· = g)) k9).at (at_al kc1) (by show w.heap.size ≠ g; omega); have K9 := Lib.hid ((Keep.al wc (.cells #[.int .i64 x.op, .int .i64 x.num, .slice ax nx cx, .int .i64 y.op, .int .i64 y.num, .slice ay ny cy] 53)).trans k9); have RD9 := Lib.hid (RXY.out.k k9); have u0 := (BXC.out.k K9.out).u0; have u1 := (BXC.out.k K9.out).u1; have u2 := (BXC.out.k K9.out).u2; have f0 := (BXC.out.k K9.out).f0; have f1 := (BXC.out.k K9.out).f1; have f2 := (BXC.out.k K9.out).f2; clear k9)
          | fail)
      all_goals
        have X9 := Lib.hid ((X3.out.trans XC.out).trans (Keep.to K9.out))
        have R9 := Lib.hid (RC.out.keep K9.out)
        have HFI : Hid (gfit 1000 13 0) := ⟨by omega, by omega⟩
        have HFS : Hid (allEs (gfit 1000) [x, y]) := ⟨FX.out, FY.out, trivial⟩
        have HQ9 : Hid (qb ≤ p + pkG (b2 + 2)) := by show _ ≤ _; have h1 := HQA.out; have h2 := HQB.out; have h3 := hhalf.out; omega
        clear kd0 kd1 kc0 kc1 kb0 kb1 ka0 ka1 y0 y1
        go_wp2_with fail
        refine bodyPost_ret (v := .agg #[.int .i64 13, .int .i64 0, .slice (some ⟨wc.heap.size, 0, none⟩) 2 2]) (by simp [results, Try.results110, go_sem, u0, u1, u2]) rfl (fin_ hQ ?_)
        exact gen_fin (ks := [x, y]) X9.out R9.out BW.out RD9.out HFI.out HFS.out HQ9.out
  · -- a choice
    have X3 := Lib.hid (X2.out.trans (Keep.to (Keep.al w1 (.cells #[.int .i64 0, .int .i64 t, .int .i64 t] 3))))
    have z0 := at_al (o := (.cells #[.int .i64 0, .int .i64 t, .int .i64 t] 3)) x0
    have z1 := at_al (o := (.cells #[.int .i64 0, .int .i64 t, .int .i64 t] 3)) x1'
    have TY := Lib.hid (lit_intsD w1 (fun k => k ≠ g) 3 [0, t, t] #[.int .i64 0, .int .i64 t, .int .i64 t] 3 (by omega) rfl rfl (by omega))
    have hw1 : IntKind.i64.wrap ((b2 : Int) + 1) = (b2 : Int) + 1 := IntWalk.i64_in _ (by omega)
    have hw0 : IntKind.i64.wrap ((b2 : Int) + 2 - 1) = (b2 : Int) + 1 := by rw [show (b2 : Int) + 2 - 1 = (b2 : Int) + 1 by omega]; exact hw1
    have CA := Lib.hid (specGenAllB ds fs B g (b2 + 1) ((b2 : Int) + 1) (pkG (b2 + 2)) (by omega) HG.out [0, t, t] IHB.out (by omega) rfl vars av nv cv (some ⟨w1.heap.size, 0, none⟩) 3 3 (p + 1) _ _ _ _ _ _ (w1.alloc (.cells #[.int .i64 0, .int .i64 t, .int .i64 t] 3)) (by intro z hz; simp only [List.mem_cons, List.not_mem_nil, or_false, or_self] at hz; rcases hz with hz | hz <;> rw [hz] <;> first | exact HT.out | exact ⟨by omega, by omega⟩) (HP.out.ext X3.out) (HV.out.g X3.out) (by omega) TY.out (by omega) (R2.out.keep (Keep.al _ _)) (Nat.le_trans BW.out X3.out.size) (by have := HPP.out; omega))
    go_wp2_with fail
    refine CA.out.mono ?_
    rintro e w5 ⟨es, a5, n5, c5, q5, rfl, rd5, _, fs5, r5, hq5, X5⟩
    have b5 := Lib.hid ((b2x.out.k (Keep.al _ _)).ext X5 hgw)
    have X6 := Lib.hid (X3.out.trans X5)
    have RX := Lib.hid (rd5.mono (D' := fun k => w.heap.size + 2 ≤ k) (fun k hk => by simp at hk; omega))
    have R5 := Lib.hid r5
    have F5 := Lib.hid fs5
    have HQ5 := Lib.hid hq5
    clear z0 z1 x0 x1' rd5 r5 fs5 hq5 X5
    go_wp2_with fail
    refine (specNodeG _ _ _ _ _ _).mono ?_
    rintro e w9 ⟨rfl, k9⟩
    have b9 := Lib.hid (b5.out.k k9)
    have X9 := Lib.hid (X6.out.trans (Keep.to k9))
    have R9 := Lib.hid (R5.out.keep k9)
    have RD9 := Lib.hid (RX.out.k k9)
    have HFI : Hid (gfit 1000 7 0) := ⟨by omega, by omega⟩
    have HQ9 : Hid (q5 ≤ p + pkG (b2 + 2)) := by show _ ≤ _; have h1 := HQ5.out; omega
    clear k9
    have bz := b9.out
    have u0 := bz.u0
    have u1 := bz.u1
    have u2 := bz.u2
    have f0 := bz.f0
    have f1 := bz.f1
    have f2 := bz.f2
    clear bz
    go_wp2_with fail
    refine bodyPost_ret (v := .agg #[.int .i64 7, .int .i64 0, .slice a5 n5 c5]) (by simp [results, Try.results110, go_sem, u0, u1, u2]) rfl (fin_ hQ ?_)
    exact gen_fin (ks := es) X9.out R9.out BW.out RD9.out HFI.out F5.out HQ9.out
  · -- a match
    rcases h with rfl | rfl | rfl
    all_goals
      go_wp2_with fail
      refine (specGenMatch ds fs B g b2 HG.out hb IH.out t vars _ _ _ (p + 1) _ _ _ _ _ _ _ (by omega) _ HT.out PD.out VD.out (by omega) R2.out BD.out (by have := HPP.out; omega)).mono ?_
      rintro e w5 ⟨x, ax, nx, cx, q5, rfl, rx, fx, r5, hq5, X5⟩
      have b5 := Lib.hid (b2x.out.ext X5 hgw)
      have X6 := Lib.hid (X2.out.trans X5)
      have RX := Lib.hid (rx.mono (D' := fun k => w.heap.size + 2 ≤ k) (fun k hk => Nat.le_trans b2x.out.lt hk))
      have FX := Lib.hid ((allE_eq _ _).1 fx)
      have R5 := Lib.hid r5
      have HQ5 : Hid (q5 ≤ p + pkG (b2 + 2)) := by show _ ≤ _; omega
      clear rx fx r5 hq5 X5
      have bz := b5.out
      have u0 := bz.u0
      have u1 := bz.u1
      have u2 := bz.u2
      have f0 := bz.f0
      have f1 := bz.f1
      have f2 := bz.f2
      clear bz
      go_wp2_with fail
      refine bodyPost_ret (v := .agg #[.int .i64 x.op, .int .i64 x.num, .slice ax nx cx]) (by simp [results, Try.results110, go_sem, u0, u1, u2]) rfl (fin_ hQ ?_)
      exact gen_fin (ks := x.kids) X6.out R5.out BW.out RX.out FX.out.1 FX.out.2 HQ5.out
  · -- a call
    rcases h with rfl | rfl
    all_goals
      go_wp2_with fail
      refine (specCallable ds fs t _ _ _ _ _ _ _ PD.out.pr hds hfs).mono ?_
      rintro e w2 ⟨al, n, cl, xs, rfl, hnl, hn5, hx, hxs, k2⟩
      have b3 := Lib.hid (b2x.out.k k2)
      have X3 := Lib.hid (X2.out.trans (Keep.to k2))
      have R3 := Lib.hid (R2.out.keep k2)
      have HXI := Lib.hid hx
      have HXS := Lib.hid hxs
      clear x0 x1' hx hxs k2
      rcases Nat.eq_zero_or_pos n with h0 | h0
      · subst h0
        have y0 := b3.out.x0
        have y1 := b3.out.x1
        have PD3 := Lib.hid (HP.out.ext X3.out)
        have VD3 := Lib.hid (HV.out.g X3.out)
        have BD3 : Hid (B ≤ w2.heap.size) := Nat.le_trans BW.out X3.out.size
        go_wp2_with fail
        refine (specGenOther ds fs B g b2 HG.out hb IH.out t vars _ _ _ (p + 1) _ _ _ _ _ _ _ (by omega) _ HT.out PD3.out VD3.out (by omega) R3.out BD3.out (by have := HPP.out; omega)).mono ?_
        rintro e w5 ⟨x, ax, nx, cx, q5, rfl, rx, fx, r5, hq5, X5⟩
        have b5 := Lib.hid (b3.out.ext X5 hgw)
        have X6 := Lib.hid (X3.out.trans X5)
        have RX := Lib.hid (rx.mono (D' := fun k => w.heap.size + 2 ≤ k) (fun k hk => Nat.le_trans b3.out.lt hk))
        have FX := Lib.hid ((allE_eq _ _).1 fx)
        have R5 := Lib.hid r5
        have HQ5 : Hid (q5 ≤ p + pkG (b2 + 2)) := by show _ ≤ _; omega
        clear rx fx r5 hq5 X5
        have bz := b5.out
        have u0 := bz.u0
        have u1 := bz.u1
        have u2 := bz.u2
        have f0 := bz.f0
        have f1 := bz.f1
        have f2 := bz.f2
        clear bz
        go_wp2_with fail
        refine bodyPost_ret (v := .agg #[.int .i64 x.op, .int .i64 x.num, .slice ax nx cx]) (by simp [results, Try.results110, go_sem, u0, u1, u2]) rfl (fin_ hQ ?_)
        exact gen_fin (ks := x.kids) X6.out R5.out BW.out RX.out FX.out.1 FX.out.2 HQ5.out
      · have hd0 : decide (0 < n) = true := decide_eq_true h0
        go_wp2_with fail
        refine (pickX B g (p + 1) _ _ R3.out (by omega) (by omega)).mono ?_
        rintro e w3 ⟨v, rfl, hv, _, r3, x3⟩
        obtain ⟨hv0, hv1⟩ := hv (by omega)
        obtain ⟨i, rfl⟩ := Int.eq_ofNat_of_zero_le hv0
        have hi : i < n := by omega
        obtain ⟨bc, oc, rfl, hbc, hcc⟩ := HXI.out.2 h0
        have hbc2 : w1.heap.size ≤ bc := hbc
        have d0 := x3.at (hcc i hi) (by show bc ≠ g; omega)
        have hcm := HXS.out (iAt xs i) (by rw [iAt_get (by have := HXI.out.1; omega)]; exact List.getElem_mem _)
        generalize iAt xs i = z at d0 hcm
        obtain ⟨k, rfl⟩ := Int.eq_ofNat_of_zero_le hcm.1
        have hkf : k < fs.length := by omega
        have b4 := Lib.hid (b3.out.ext x3 hgw)
        have X4 := Lib.hid (X3.out.trans x3)
        have R4 := Lib.hid r3
        have FA := Lib.hid (funcs_at (HP.out.f.lt.ext X4.out (fun k h => h.1)))
        have hk1 : k < n1 := by have := FA.out.1; omega
        obtain ⟨b, o, rfl, ⟨hbg, hbw0⟩, ap, np, cp, ab, nb, cb, g0, _, _, _, _, rp, _⟩ := FA.out.2.2.2 k hk1
        have hbne : ¬ b = w.heap.size + 1 := by omega
        have hbne2 : ¬ w.heap.size + 1 = b := by omega
        have SG := Lib.hid (HG.out.sig hkf)
        have hnp3 : np ≤ 3 := by have := (HG.out.sig hkf).1; have := (ints_at rp).1; omega
        have y0 := b4.out.x0
        have y1 := b4.out.x1
        have hw4 := b4.out.lt
        have kk0 : (0 : Int) ≤ (k : Int) := by omega
        have kk1 : (k : Int) < (n1 : Int) := by omega
        have hw1 : IntKind.i64.wrap ((b2 : Int) + 1) = (b2 : Int) + 1 := IntWalk.i64_in _ (by omega)
        have hw0 : IntKind.i64.wrap ((b2 : Int) + 2 - 1) = (b2 : Int) + 1 := by rw [show (b2 : Int) + 2 - 1 = (b2 : Int) + 1 by omega]; exact hw1
        have KD := Lib.hid ((Ext.refl (fun _ => False) w3).drew)
        have BXD := Lib.hid (b4.out.k KD.out)
        have CA := Lib.hid (specGenAllB ds fs B g (b2 + 1) ((b2 : Int) + 1) (pkG (b2 + 2)) (by omega) HG.out (fAt fs k).params IHB.out (by omega) rfl vars av nv cv ap np cp (p + 1 + 1) _ _ _ _ _ _ w3.drew SG.out.2.2 (HP.out.ext X4.out.drew) (HV.out.g X4.out.drew) (by omega) ((rp.mono (fun k h => h.1)).k KD.out) hnp3 (R4.out.keep KD.out) (Nat.le_trans BW.out X4.out.drew.size) (by have := HPP.out; omega))
        clear hcc hv hv0 r3 x3 hcm rp
        go_wp2_with fail
        clear d0
        go_region_held3 (fun w' => w'.cell? ⟨w.heap.size, 0, none⟩ = some (.slice a0 n0 c0) ∧ w'.cell? ⟨w.heap.size, 1, none⟩ = some (.slice (some ⟨b, o, none⟩) n1 c1) ∧ w'.cell? ⟨b, o + k * 5, none⟩ = some (.slice ap np cp))
          (first | exact ⟨y0, y1, g0⟩ | exact ⟨kb0, kb1, kb2⟩ | exact ⟨kc0, kc1, kc2⟩ | go_keep)
          (first
            | (go_at_call 155; (with_reducible refine CA.out.mono ?_); rintro e w5 ⟨es, a5, n5, c5, q5, rfl, rd5, _, fs5, r5, hq5, X5⟩; have kb0 := X5.at (w := w3.drew) y0 (by show w.heap.size ≠ g; omega); have kb1 := X5.at (w := w3.drew) y1 (by show w.heap.size ≠ g; omega); have kb2 := X5.at (w := w3.drew) g0 hbg; have b5 := Lib.hid (BXD.out.ext X5 hgw); have X6 := Lib.hid (X4.out.drew.trans X5); have RX := Lib.hid (rd5.mono (D' := fun k => w.heap.size + 2 ≤ k) (fun k hk => (by change w3.heap.size ≤ k at hk; omega))); have R5 := Lib.hid r5; have F5 := Lib.hid fs5; have HQ5 := Lib.hid hq5; clear rd5 r5 fs5 hq5 X5)
            | (go_at_call 112; refine (specNodeG _ _ _ _ _ _).mono ?_; rintro e w9 ⟨rfl, k9⟩; have kc0 := (Keep.to (S := (· = g)) k9).at kb0 (by show w.heap.size ≠ g; omega); have kc1 := (Keep.to (S := (· = g)) k9).at kb1 (by show w.heap.size ≠ g; omega); have kc2 := (Keep.to (S := (· = g)) k9).at kb2 hbg; have K9 := Lib.hid k9; have u0 := (b5.out.k K9.out).u0; have u1 := (b5.out.k K9.out).u1; have u2 := (b5.out.k K9.out).u2; have f0 := (b5.out.k K9.out).f0; have f1 := (b5.out.k K9.out).f1; have f2 := (b5.out.k K9.out).f2; clear k9)
            | fail)
        have X9 := Lib.hid (X6.out.trans (Keep.to K9.out))
        have R9 := Lib.hid (R5.out.keep K9.out)
        have RD9 := Lib.hid (RX.out.k K9.out)
        have HFI : Hid (gfit 1000 9 (k : Int)) := ⟨by omega, by omega⟩
        have HQ9 : Hid (q5 ≤ p + pkG (b2 + 2)) := by show _ ≤ _; have h1 := HQ5.out; omega
        clear kc0 kc1 kc2 kb0 kb1 kb2 y0 y1 g0
        go_wp2_with fail
        refine bodyPost_ret (v := .agg #[.int .i64 9, .int .i64 (k : Int), .slice a5 n5 c5]) (by simp [results, Try.results110, go_sem, u0, u1, u2]) rfl (fin_ hQ ?_)
        exact gen_fin (ks := es) X9.out R9.out BW.out RD9.out HFI.out F5.out HQ9.out
  · rcases h with rfl | rfl | rfl
    all_goals
      go_wp2_with fail
      refine (specGenOther ds fs B g b2 HG.out hb IH.out t vars _ _ _ (p + 1) _ _ _ _ _ _ _ (by omega) _ HT.out PD.out VD.out (by omega) R2.out BD.out (by have := HPP.out; omega)).mono ?_
      rintro e w5 ⟨x, ax, nx, cx, q5, rfl, rx, fx, r5, hq5, X5⟩
      have b5 := Lib.hid (b2x.out.ext X5 hgw)
      have X6 := Lib.hid (X2.out.trans X5)
      have RX := Lib.hid (rx.mono (D' := fun k => w.heap.size + 2 ≤ k) (fun k hk => Nat.le_trans b2x.out.lt hk))
      have FX := Lib.hid ((allE_eq _ _).1 fx)
      have R5 := Lib.hid r5
      have HQ5 : Hid (q5 ≤ p + pkG (b2 + 2)) := by show _ ≤ _; omega
      clear rx fx r5 hq5 X5
      have bz := b5.out
      have u0 := bz.u0
      have u1 := bz.u1
      have u2 := bz.u2
      have f0 := bz.f0
      have f1 := bz.f1
      have f2 := bz.f2
      clear bz
      go_wp2_with fail
      refine bodyPost_ret (v := .agg #[.int .i64 x.op, .int .i64 x.num, .slice ax nx cx]) (by simp [results, Try.results110, go_sem, u0, u1, u2]) rfl (fin_ hQ ?_)
      exact gen_fin (ks := x.kids) X6.out R5.out BW.out RX.out FX.out.1 FX.out.2 HQ5.out

set_option maxRecDepth 100000 in
set_option maxHeartbeats 1000000 in
theorem specGenLow (ds : List DeclL) (fs : List FuncL) (B g b : Nat) (hG : GoodG ds fs) (hb : b < 3) (t : Int) (vars : List Int) (av : Option Addr) (nv cv : Nat) (p : Int) (a0 : Option Addr) (n0 c0 : Nat) (a1 : Option Addr) (n1 c1 : Nat) (w : World) (hT : T5 t) (hpg : PG w g ds fs a0 n0 c0 a1 n1 c1) (hv : Rd w (fun k => k ≠ g) (encInts vars) (.slice av nv cv)) (hnv : nv + 3 * b ≤ 900) (hr : Rdx w B g p) (hBw : B ≤ w.heap.size) (hp : p + 18 ≤ 900000000000) :
    Calls Try.prog 110 #[.pointer (some ⟨g, 0, none⟩), .agg #[.slice a0 n0 c0, .slice a1 n1 c1], .slice av nv cv, .int .i64 t, .int .i64 (b : Int)] w (GenPz B g p 18 1000 4 w) := by
  refine calls_k fun Q hQ => ?_
  have HG := Lib.hid hG
  have HP := Lib.hid hpg
  have BW := Lib.hid hBw
  have hgB := hr.gB
  have hgw : g < w.heap.size := by omega
  have K1 := (Keep.al w (.cells #[.slice a0 n0 c0, .slice a1 n1 c1] 50)).trans (Keep.al _ (.cells #[.int .i64 0, .int .i64 0, .slice none 0 0] 53))
  have B0 := Lib.hid (Bx.born w (.slice a0 n0 c0) (.slice a1 n1 c1))
  have hds := hG.len4
  have hfs := hG.len
  have hn0 : n0 ≤ 4 := by have := (decls_at hpg.d).1; omega
  have hn1 : n1 ≤ 4 := by have := (funcs_at hpg.f).1; omega
  have qr := Lib.hid (hr.keep K1)
  have X1 := Lib.hid (Keep.to (S := (· = g)) K1)
  have PD := Lib.hid (hpg.k K1)
  have VD := Lib.hid (hv.k K1)
  have BD : Hid (B ≤ ((w.alloc (.cells #[.slice a0 n0 c0, .slice a1 n1 c1] 50)).alloc (.cells #[.int .i64 0, .int .i64 0, .slice none 0 0] 53)).heap.size) := Nat.le_trans hBw X1.out.size
  have HT := Lib.hid hT
  have hb3 : (b : Int) < 3 := by omega
  clear hG hpg hv hr hBw hT K1
  go_enter Try.func110, Try.ntmps110
  go_wp2_with fail
  refine (specLeafz ds fs B g HG.out t vars _ _ _ _ _ _ _ _ _ _ _ HT.out PD.out VD.out (by omega) qr.out BD.out (by omega)).mono ?_
  rintro e w5 ⟨x, ax, nx, cx, q5, rfl, rx, fx, sx, r5, hq5, X5⟩
  have b5 := Lib.hid (B0.out.ext X5 hgw)
  have X6 := Lib.hid (X1.out.trans X5)
  have RX := Lib.hid (rx.mono (D' := fun k => w.heap.size + 2 ≤ k) (fun k hk => by simp at hk; omega))
  have FX := Lib.hid ((allE_eq _ _).1 fx)
  have R5 := Lib.hid r5
  have HQ5 := Lib.hid hq5
  have HZ9 : Hid (nEs x.kids + 1 ≤ 4) := by show _ ≤ _; rw [← nE_eq]; exact sx
  clear rx fx sx r5 hq5 X5
  have bz := b5.out
  have u0 := bz.u0
  have u1 := bz.u1
  have u2 := bz.u2
  have f0 := bz.f0
  have f1 := bz.f1
  have f2 := bz.f2
  clear bz
  go_wp2_with fail
  refine bodyPost_ret (v := .agg #[.int .i64 x.op, .int .i64 x.num, .slice ax nx cx]) (by simp [results, Try.results110, go_sem, u0, u1, u2]) rfl (fin_ hQ ?_)
  exact gen_finz (ks := x.kids) X6.out R5.out BW.out RX.out FX.out.1 FX.out.2 HQ5.out HZ9.out

theorem specGen_n (ds : List DeclL) (fs : List FuncL) (B g : Nat) (hG : GoodG ds fs) (N : Nat) : ∀ b, b < N → GenS ds fs B g b := by
  induction N with
  | zero => intro b h; omega
  | succ N ih =>
  intro b hb
  by_cases h3 : 3 ≤ b
  · obtain ⟨b2, rfl⟩ : ∃ b2, b = b2 + 2 := ⟨b - 2, by omega⟩
    exact specGenStep ds fs B g b2 hG (by omega) (fun b' h => ih b' (by omega))
  · intro t vars av nv cv p a0 n0 c0 a1 n1 c1 w hT hpg hv hnv hr hBw hp
    have hpb := pkG_pos b
    refine (specGenLow ds fs B g b hG (by omega) t vars av nv cv p a0 n0 c0 a1 n1 c1 w hT hpg hv hnv hr hBw (by omega)).mono ?_
    rintro e w' ⟨x, a, n, c, q, h1, h2, h3, _, h4, h5, h6⟩
    exact ⟨x, a, n, c, q, h1, h2, h3, h4, by omega, h6⟩
theorem specGen (ds : List DeclL) (fs : List FuncL) (B g : Nat) (hG : GoodG ds fs) (b : Nat) : GenS ds fs B g b := specGen_n ds fs B g hG (b + 1) b (Nat.lt_succ_self b)
/-- The same, with what is known of sizes. -/
theorem specGenB (ds : List DeclL) (fs : List FuncL) (B g b : Nat) (hG : GoodG ds fs) (t : Int) (vars : List Int) (av : Option Addr) (nv cv : Nat) (p : Int) (a0 : Option Addr) (n0 c0 : Nat) (a1 : Option Addr) (n1 c1 : Nat) (w : World) (hT : T5 t) (hpg : PG w g ds fs a0 n0 c0 a1 n1 c1) (hv : Rd w (fun k => k ≠ g) (encInts vars) (.slice av nv cv)) (hnv : nv + 3 * b ≤ 900) (hr : Rdx w B g p) (hBw : B ≤ w.heap.size) (hp : p + pkG b ≤ 900000000000) :
    Calls Try.prog 110 #[.pointer (some ⟨g, 0, none⟩), .agg #[.slice a0 n0 c0, .slice a1 n1 c1], .slice av nv cv, .int .i64 t, .int .i64 (b : Int)] w fun e w' => ∃ (x : ExprL) (a : Option Addr) (n c : Nat) (q : Int),
      e = .returned (.agg #[.int .i64 x.op, .int .i64 x.num, .slice a n c]) ∧ Rd w' (fun k => w.heap.size ≤ k) (encExprs x.kids) (.slice a n c) ∧ allE (gfit 1000) x ∧ (b < 3 → nE x ≤ 4) ∧ Rdx w' B g q ∧ q ≤ p + pkG b ∧ Ext (· = g) w w' := by
  have hpb := pkG_pos b
  by_cases h3 : b < 3
  · refine (specGenLow ds fs B g b hG h3 t vars av nv cv p a0 n0 c0 a1 n1 c1 w hT hpg hv hnv hr hBw (by omega)).mono ?_
    rintro e w' ⟨x, a, n, c, q, h1, h2, h3, h7, h4, h5, h6⟩
    exact ⟨x, a, n, c, q, h1, h2, h3, fun _ => h7, h4, by omega, h6⟩
  · refine (specGen ds fs B g hG b t vars av nv cv p a0 n0 c0 a1 n1 c1 w hT hpg hv hnv hr hBw hp).mono ?_
    rintro e w' ⟨x, a, n, c, q, h1, h2, h5, h4, h6, h7⟩
    exact ⟨x, a, n, c, q, h1, h2, h5, fun h => absurd h h3, h4, h6, h7⟩
end Go.Proofs.Ytaeddcnakilnlaa
