/- calleesIn of the reference: all nodes are visited, numbers are inserted. -/
import Derived.Test.YtaeddcnakilnlaaWInsert
import Derived.Test.YtaeddcnakilnlaaMX
import Derived.Test.YtaeddcnakilnlaaME
import Derived.Test.YtaeddcnakilnlaaMGA
import Derived.Test.YtaeddcnakilnlaaWIndices
import Derived.Laws.CopyRow
namespace Go.Proofs.Ytaeddcnakilnlaa
open Go.RowKit

set_option maxRecDepth 100000 in
set_option maxHeartbeats 4000000 in
theorem specCalleesIn_n (N : Nat) : ∀ (op num : Int) (es : List ExprL), nEs es < N → ∀ (a : Option Addr) (n c : Nat) (D : Nat → Prop) (al : Option Addr) (nl cl : Nat) (xs : List Int) (B : Nat) (w : World), Rd w D (encExprs es) (.slice a n c) → IntsL w (fun q => B ≤ q) al nl xs → nl ≤ cl → B ≤ w.heap.size → xs.length + (nEs es + 1) ≤ 1000 →
    Calls Try.prog 89 #[.agg #[.int .i64 op, .int .i64 num, .slice a n c], .slice al nl cl] w fun e w' => ∃ a' n' c', e = .returned (.slice a' n' c') ∧ n' ≤ c' ∧ IntsL w' (fun q => B ≤ q) a' n' (visE cvis (.mk op num es) xs) ∧ Keep w w' := by
  induction N with
  | zero => intro _ _ es h; omega
  | succ N ihN =>
  intro op num es hN a n c D al nl cl xs B w h hl hlc hB hlen
  refine calls_k fun Q hQ => ?_
  have K0 := Keep.al w (.cells #[.int .i64 op, .int .i64 num, .slice a n c] 53)
  have R0 := rowOf w #[.int .i64 op, .int .i64 num, .slice a n c] 53
  have IH := Lib.hid (fun (j : Nat) (hj : j < es.length) => ihN (eAt es j).op (eAt es j).num (eAt es j).kids (by have := nE_le es hj; have := nE_eq (eAt es j); omega))
  have LB : ∀ j, (visEs cvis (es.take j) (cvis op num xs)).length + nEs (es.drop j) ≤ xs.length + (nEs es + 1) := fun j => by
    have h1 := cvisEs_len (es.take j) (cvis op num xs)
    have h2 : (cvis op num xs).length ≤ xs.length + 1 := cvis_len1 op num xs
    have h3 : nEs es = nEs (es.take j) + nEs (es.drop j) := by rw [← nEs_append, List.take_append_drop]
    omega
  have LBB := Lib.hid LB
  have h1 := h.k K0
  have hl1 := hl.ext K0 (fun _ _ h => h)
  clear ihN hN LB
  obtain ⟨e1, hnc, hm, hat⟩ := exprs_at h1
  have HL := Lib.hid e1
  have HA := Lib.hid hat
  have HI := Lib.hid hl1
  have hxl : nl = xs.length := hl.1.symm
  have hnl : nl ≤ 1000 := by omega
  have HXL := Lib.hid hxl
  clear e1 hat h1 h hl hl1 hxl
  by_cases h1 : op = 9
  · have V : Hid (cvis op num xs = insL xs num) := by show _ = _; rw [cvis, show isCal op = true from by rw [isCal]; simp [h1]]; rfl
    have h1' : (op == 9) = true := by simpa using h1
    clear h1
    go_enter Try.func89, Try.ntmps89
    go_wp2_with fail
    refine (specInsert _ _ _ _ _ _ _ HI.out (by omega)).mono ?_
    rintro e w1 ⟨a1, n1, c1, rfl, hn1, o1, p1⟩
    have I1 := Lib.hid ((o1.read).mono (D' := fun q => B ≤ q) (fun q hq => by simp at hq; omega))
    have KW := K0.trans p1
    have RW := row_ext R0 p1 (fun h => h)
    have BW : Keep (w.alloc (.cells #[.int .i64 op, .int .i64 num, .slice a n c] 53)) w1 := p1
    clear o1 p1
    have x2 := RW.cell (i := 2) (by simp)
    simp at x2
    go_wp2_with fail
    go_loopw [1, 5] (fun lv iv wr => ∃ (j : Nat) (a' : Option Addr) (n' c' : Nat), j ≤ n ∧ iv = .int .i64 j ∧ lv = .slice a' n' c' ∧ n' ≤ c' ∧ Hid (IntsL wr (fun q => B ≤ q) a' n' (visEs cvis (es.take j) (cvis op num xs))) ∧ Hid (wr.rowIs w.heap.size 53 3 (fun i => (#[.int .i64 op, .int .i64 num, .slice a n c] : Array Value).getD i undef)) ∧ Keep (w.alloc (.cells #[.int .i64 op, .int .i64 num, .slice a n c] 53)) wr ∧ Keep w wr) (fun _ iv _ => n - (intOf iv).toNat)
    case atStart => exact ⟨0, a1, n1, c1, Nat.zero_le _, rfl, rfl, hn1, by show IntsL _ _ _ _ _; rw [List.take_zero, visEs, V.out]; exact I1.out, RW, BW, KW⟩
    case round =>
      obtain ⟨j, a', n', c', hj, rfl, rfl, hnc', hI, hR, hBW, hK⟩ := hrel
      have x2 := hR.out.cell (i := 2) (by simp)
      simp at x2
      by_cases hlt : j < n
      · have HJ : Hid (j < es.length) := by have := HL.out; show _ < _; omega
        obtain ⟨b, o, rfl, hd, a2, n2, c2, d0, d1, d2, r2⟩ := HA.out j hlt
        have g0 := (hBW.cell (World.block_lt_of_cell? _ _ d0) (fun h => h)).trans d0
        have g1 := (hBW.cell (World.block_lt_of_cell? _ _ d1) (fun h => h)).trans d1
        have g2 := (hBW.cell (World.block_lt_of_cell? _ _ d2) (fun h => h)).trans d2
        have q2 := r2.k hBW
        have hb : (visEs cvis (es.take j) (cvis op num xs)).length + (nEs (eAt es j).kids + 1) ≤ 1000 := by
          have h1 := LBB.out j
          have h2 : nEs (es.drop j) = nE (eAt es j) + nEs (es.drop (j + 1)) := by rw [List.drop_eq_getElem_cons HJ.out, nEs, eAt_get HJ.out]
          have h3 := nE_eq (eAt es j)
          omega
        have hBs : B ≤ wr.heap.size := Nat.le_trans hB hK.size
        clear d0 d1 d2 r2
        go_wp2_with fail
        refine (IH.out j HJ.out _ _ _ _ _ _ _ _ B _ q2 hI.out hnc' hBs hb).mono ?_
        rintro e w2 ⟨a3, n3, c3, rfl, hn3, i3, p3⟩
        have I3 : Hid (IntsL w2 (fun q => B ≤ q) a3 n3 (visEs cvis (es.take (j + 1)) (cvis op num xs))) := by
          show IntsL _ _ _ _ _
          rw [visEs_take cvis es HJ.out]
          have e : eAt es j = .mk (eAt es j).op (eAt es j).num (eAt es j).kids := by cases eAt es j; rfl
          rw [e]; exact i3
        have hR2 := Lib.hid (row_ext hR.out p3 (fun h => h))
        clear i3 x2 g0 g1 g2
        go_wp2_with fail
        go_roundw
        case rel => exact ⟨j + 1, a3, n3, c3, by omega, by go_num, rfl, hn3, I3, hR2, hBW.trans p3, hK.trans p3⟩
        case measure => simp [intOf]; omega
      · have HJ : Hid (es.length ≤ j) := by have := HL.out; show _ ≤ _; omega
        go_wp2_with fail
        refine fin_ hQ ⟨a', n', c', rfl, hnc', ?_, hK⟩
        rw [visE]
        have h := hI.out
        rw [List.take_of_length_le HJ.out] at h
        exact h
  · by_cases h2 : op = 10
    · have V : Hid (cvis op num xs = insL xs num) := by show _ = _; rw [cvis, show isCal op = true from by rw [isCal]; simp [h2]]; rfl
      have h1' : (op == 9) = false := by simpa using h1
      have h2' : (op == 10) = true := by simpa using h2
      clear h1 h2
      go_enter Try.func89, Try.ntmps89
      go_wp2_with fail
      refine (specInsert _ _ _ _ _ _ _ HI.out (by omega)).mono ?_
      rintro e w1 ⟨a1, n1, c1, rfl, hn1, o1, p1⟩
      have I1 := Lib.hid ((o1.read).mono (D' := fun q => B ≤ q) (fun q hq => by simp at hq; omega))
      have KW := K0.trans p1
      have RW := row_ext R0 p1 (fun h => h)
      have BW : Keep (w.alloc (.cells #[.int .i64 op, .int .i64 num, .slice a n c] 53)) w1 := p1
      clear o1 p1
      have x2 := RW.cell (i := 2) (by simp)
      simp at x2
      go_wp2_with fail
      go_loopw [1, 5] (fun lv iv wr => ∃ (j : Nat) (a' : Option Addr) (n' c' : Nat), j ≤ n ∧ iv = .int .i64 j ∧ lv = .slice a' n' c' ∧ n' ≤ c' ∧ Hid (IntsL wr (fun q => B ≤ q) a' n' (visEs cvis (es.take j) (cvis op num xs))) ∧ Hid (wr.rowIs w.heap.size 53 3 (fun i => (#[.int .i64 op, .int .i64 num, .slice a n c] : Array Value).getD i undef)) ∧ Keep (w.alloc (.cells #[.int .i64 op, .int .i64 num, .slice a n c] 53)) wr ∧ Keep w wr) (fun _ iv _ => n - (intOf iv).toNat)
      case atStart => exact ⟨0, a1, n1, c1, Nat.zero_le _, rfl, rfl, hn1, by show IntsL _ _ _ _ _; rw [List.take_zero, visEs, V.out]; exact I1.out, RW, BW, KW⟩
      case round =>
        obtain ⟨j, a', n', c', hj, rfl, rfl, hnc', hI, hR, hBW, hK⟩ := hrel
        have x2 := hR.out.cell (i := 2) (by simp)
        simp at x2
        by_cases hlt : j < n
        · have HJ : Hid (j < es.length) := by have := HL.out; show _ < _; omega
          obtain ⟨b, o, rfl, hd, a2, n2, c2, d0, d1, d2, r2⟩ := HA.out j hlt
          have g0 := (hBW.cell (World.block_lt_of_cell? _ _ d0) (fun h => h)).trans d0
          have g1 := (hBW.cell (World.block_lt_of_cell? _ _ d1) (fun h => h)).trans d1
          have g2 := (hBW.cell (World.block_lt_of_cell? _ _ d2) (fun h => h)).trans d2
          have q2 := r2.k hBW
          have hb : (visEs cvis (es.take j) (cvis op num xs)).length + (nEs (eAt es j).kids + 1) ≤ 1000 := by
            have h1 := LBB.out j
            have h2 : nEs (es.drop j) = nE (eAt es j) + nEs (es.drop (j + 1)) := by rw [List.drop_eq_getElem_cons HJ.out, nEs, eAt_get HJ.out]
            have h3 := nE_eq (eAt es j)
            omega
          have hBs : B ≤ wr.heap.size := Nat.le_trans hB hK.size
          clear d0 d1 d2 r2
          go_wp2_with fail
          refine (IH.out j HJ.out _ _ _ _ _ _ _ _ B _ q2 hI.out hnc' hBs hb).mono ?_
          rintro e w2 ⟨a3, n3, c3, rfl, hn3, i3, p3⟩
          have I3 : Hid (IntsL w2 (fun q => B ≤ q) a3 n3 (visEs cvis (es.take (j + 1)) (cvis op num xs))) := by
            show IntsL _ _ _ _ _
            rw [visEs_take cvis es HJ.out]
            have e : eAt es j = .mk (eAt es j).op (eAt es j).num (eAt es j).kids := by cases eAt es j; rfl
            rw [e]; exact i3
          have hR2 := Lib.hid (row_ext hR.out p3 (fun h => h))
          clear i3 x2 g0 g1 g2
          go_wp2_with fail
          go_roundw
          case rel => exact ⟨j + 1, a3, n3, c3, by omega, by go_num, rfl, hn3, I3, hR2, hBW.trans p3, hK.trans p3⟩
          case measure => simp [intOf]; omega
        · have HJ : Hid (es.length ≤ j) := by have := HL.out; show _ ≤ _; omega
          go_wp2_with fail
          refine fin_ hQ ⟨a', n', c', rfl, hnc', ?_, hK⟩
          rw [visE]
          have h := hI.out
          rw [List.take_of_length_le HJ.out] at h
          exact h
    · have V : Hid (cvis op num xs = xs) := by show _ = _; rw [cvis, show isCal op = false from by rw [isCal]; simp [h1, h2]]; rfl
      have h1' : (op == 9) = false := by simpa using h1
      have h2' : (op == 10) = false := by simpa using h2
      clear h1 h2
      go_enter Try.func89, Try.ntmps89
      have KW := K0
      have RW := R0
      have BW : Keep (w.alloc (.cells #[.int .i64 op, .int .i64 num, .slice a n c] 53)) (w.alloc (.cells #[.int .i64 op, .int .i64 num, .slice a n c] 53)) := Ext.refl _ _
      have x2 := RW.cell (i := 2) (by simp)
      simp at x2
      go_wp2_with fail
      go_loopw [1, 5] (fun lv iv wr => ∃ (j : Nat) (a' : Option Addr) (n' c' : Nat), j ≤ n ∧ iv = .int .i64 j ∧ lv = .slice a' n' c' ∧ n' ≤ c' ∧ Hid (IntsL wr (fun q => B ≤ q) a' n' (visEs cvis (es.take j) (cvis op num xs))) ∧ Hid (wr.rowIs w.heap.size 53 3 (fun i => (#[.int .i64 op, .int .i64 num, .slice a n c] : Array Value).getD i undef)) ∧ Keep (w.alloc (.cells #[.int .i64 op, .int .i64 num, .slice a n c] 53)) wr ∧ Keep w wr) (fun _ iv _ => n - (intOf iv).toNat)
      case atStart => exact ⟨0, al, nl, cl, Nat.zero_le _, rfl, rfl, hlc, by show IntsL _ _ _ _ _; rw [List.take_zero, visEs, V.out]; exact HI.out, RW, BW, KW⟩
      case round =>
        obtain ⟨j, a', n', c', hj, rfl, rfl, hnc', hI, hR, hBW, hK⟩ := hrel
        have x2 := hR.out.cell (i := 2) (by simp)
        simp at x2
        by_cases hlt : j < n
        · have HJ : Hid (j < es.length) := by have := HL.out; show _ < _; omega
          obtain ⟨b, o, rfl, hd, a2, n2, c2, d0, d1, d2, r2⟩ := HA.out j hlt
          have g0 := (hBW.cell (World.block_lt_of_cell? _ _ d0) (fun h => h)).trans d0
          have g1 := (hBW.cell (World.block_lt_of_cell? _ _ d1) (fun h => h)).trans d1
          have g2 := (hBW.cell (World.block_lt_of_cell? _ _ d2) (fun h => h)).trans d2
          have q2 := r2.k hBW
          have hb : (visEs cvis (es.take j) (cvis op num xs)).length + (nEs (eAt es j).kids + 1) ≤ 1000 := by
            have h1 := LBB.out j
            have h2 : nEs (es.drop j) = nE (eAt es j) + nEs (es.drop (j + 1)) := by rw [List.drop_eq_getElem_cons HJ.out, nEs, eAt_get HJ.out]
            have h3 := nE_eq (eAt es j)
            omega
          have hBs : B ≤ wr.heap.size := Nat.le_trans hB hK.size
          clear d0 d1 d2 r2
          go_wp2_with fail
          refine (IH.out j HJ.out _ _ _ _ _ _ _ _ B _ q2 hI.out hnc' hBs hb).mono ?_
          rintro e w2 ⟨a3, n3, c3, rfl, hn3, i3, p3⟩
          have I3 : Hid (IntsL w2 (fun q => B ≤ q) a3 n3 (visEs cvis (es.take (j + 1)) (cvis op num xs))) := by
            show IntsL _ _ _ _ _
            rw [visEs_take cvis es HJ.out]
            have e : eAt es j = .mk (eAt es j).op (eAt es j).num (eAt es j).kids := by cases eAt es j; rfl
            rw [e]; exact i3
          have hR2 := Lib.hid (row_ext hR.out p3 (fun h => h))
          clear i3 x2 g0 g1 g2
          go_wp2_with fail
          go_roundw
          case rel => exact ⟨j + 1, a3, n3, c3, by omega, by go_num, rfl, hn3, I3, hR2, hBW.trans p3, hK.trans p3⟩
          case measure => simp [intOf]; omega
        · have HJ : Hid (es.length ≤ j) := by have := HL.out; show _ ≤ _; omega
          go_wp2_with fail
          refine fin_ hQ ⟨a', n', c', rfl, hnc', ?_, hK⟩
          rw [visE]
          have h := hI.out
          rw [List.take_of_length_le HJ.out] at h
          exact h
end Go.Proofs.Ytaeddcnakilnlaa
/- Marks: the indices of what is marked; and the functions that a body names, by the program. -/
namespace Go.Proofs.Ytaeddcnakilnlaa
open Go.RowKit

/-- What the visits of calleesOf keep: block p holds the slice of marks, which lies in block g. -/
def CInv (p g n : Nat) (_ : Nat) (bs : List Bool) (w : World) : Prop := w.rowIs p 114 1 (fun _ => .slice (some ⟨g, 0, none⟩) n n) ∧ w.rowIs g 4 n (fun i => .bool (bAtL bs i)) ∧ bs.length = n ∧ p ≠ g
theorem CInv.keep {p g n k : Nat} {bs : List Bool} {w w' : World} (h : CInv p g n k bs w) (hk : Keep w w') : CInv p g n k bs w' := ⟨row_ext h.1 hk (fun h => h), row_ext h.2.1 hk (fun h => h), h.2.2⟩

set_option maxHeartbeats 1000000 in
theorem calClos (p g n k : Nat) (bs : List Bool) (op num : Int) (a : Option Addr) (m c : Nat) (w : World) (hc : calIn n op num) (h : CInv p g n k bs w) :
    Calls Try.prog 131 #[.agg #[.int .i64 op, .int .i64 num, .slice a m c], .pointer (some ⟨p, 0, none⟩)] w fun e w' => e = .returned (.tuple #[]) ∧ CInv p g n (k + 1) (bvis op num bs) w' ∧ StM (fun _ r => r = g) w w' := by
  refine calls_k fun Q hQ => ?_
  have H0 := Lib.hid h
  obtain ⟨h1, h2, hl, hpg⟩ := h
  have HL := Lib.hid hl
  have vp := h1.cell (i := 0) (by omega)
  have lp := h1.lt
  have lg := h2.lt
  have H1 := Lib.hid h1
  have H2 := Lib.hid h2
  clear h1 h2 hl
  have hit : Hid (isCal op = true → ∀ x : Nat, num = (x : Int) → x < n → ∀ w', Ext (fun _ => False) (w.setCell ⟨g, x, none⟩ (.bool true)) w' → CInv p g n (k + 1) (bvis op num bs) w' ∧ StM (fun _ r => r = g) w w') := by
    show _ → _
    rintro hi x rfl hx w' hX
    refine ⟨⟨row_ext (H1.out.setOther (a := ⟨g, x, none⟩) hpg _) hX (fun h => h), ?_, by rw [bvis_len]; exact HL.out, hpg⟩, ⟨((Ext.refl (fun r => r = g) w).setCell (p := ⟨g, x, none⟩) (.inr rfl) _).trans (Keep.to hX), fun r _ hr => hr⟩⟩
    refine (row_ext (H2.out.set x _) hX (fun h => h)).congr (fun i hi2 => ?_)
    rw [bvis, if_pos hi, Int.toNat_natCast]
    rw [bAtL_setN (by rw [HL.out]; exact hx)]
    by_cases e : i = x
    · subst e; simp
    · rw [if_neg e]; simp [show ¬ x = i from fun h => e h.symm]
  have R : isCal op = true → ∃ x : Nat, num = (x : Int) ∧ x < n := fun hi => ⟨num.toNat, by have := hc hi; omega, by have := hc hi; omega⟩
  by_cases c1 : op = 9
  · have hi : isCal op = true := by simp [isCal, c1]
    obtain ⟨x, rfl, hx⟩ := R hi
    have y0 := H2.out.cell hx
    have f0 := H2.out.frozen x
    have HI := Lib.hid hi
    subst c1
    clear R hi hc
    go_enter Try.func131, Try.ntmps131
    go_wp2
    refine bodyPost_end (v := .tuple #[]) (by simp [results, Try.results131, go_sem]) rfl (fin_ hQ ⟨rfl, hit.out HI.out x rfl hx _ (Keep.al _ _)⟩)
  by_cases c2 : op = 10
  · have hi : isCal op = true := by simp [isCal, c2]
    obtain ⟨x, rfl, hx⟩ := R hi
    have y0 := H2.out.cell hx
    have f0 := H2.out.frozen x
    have HI := Lib.hid hi
    subst c2
    clear R hi hc c1
    go_enter Try.func131, Try.ntmps131
    go_wp2
    refine bodyPost_end (v := .tuple #[]) (by simp [results, Try.results131, go_sem]) rfl (fin_ hQ ⟨rfl, hit.out HI.out x rfl hx _ (Keep.al _ _)⟩)
  have V : Hid (bvis op num bs = bs) := by show _ = _; rw [bvis, if_neg (by simp [isCal, c1, c2])]
  have c1' : (op == 9) = false := by simpa using c1
  have c2' : (op == 10) = false := by simpa using c2
  have hf : Hid (CInv p g n (k + 1) (bvis op num bs) (w.alloc (.cells #[.int .i64 op, .int .i64 num, .slice a m c] 53)) ∧ StM (fun _ r => r = g) w (w.alloc (.cells #[.int .i64 op, .int .i64 num, .slice a m c] 53))) := by
    show _ ∧ _
    rw [V.out]
    exact ⟨H0.out.keep (Keep.al _ _), ⟨Keep.to (Keep.al _ _), fun r _ hr => hr⟩⟩
  clear R c1 c2 hc
  go_enter Try.func131, Try.ntmps131
  go_wp2
  refine bodyPost_end (v := .tuple #[]) (by simp [results, Try.results131, go_sem]) rfl (fin_ hQ ⟨rfl, hf.out⟩)

set_option maxRecDepth 100000 in
set_option maxHeartbeats 2000000 in
theorem implCalleesOf0 (fs : List FuncL) (a0 : Option Addr) (n0 c0 : Nat) (a1 : Option Addr) (n1 c1 : Nat) (D1 : Nat → Prop) (w : World) (r1 : Rd w D1 (encFuncs fs) (.slice a1 n1 c1))
    (f : Nat) (hf : f < fs.length) (h4 : fs.length ≤ 4) (hcal : allE (calIn fs.length) (fAt fs f).body) (hne : nEs (fAt fs f).body.kids + 1 ≤ 30) :
    Calls Try.prog 87 #[.agg #[.slice a0 n0 c0, .slice a1 n1 c1], .int .i64 (f : Int)] w fun e w' => ∃ g, e = .returned (.slice (some ⟨g, 0, none⟩) n1 n1) ∧ w.heap.size ≤ g ∧ w'.rowIs g 4 n1 (fun i => .bool (bAtL (visE bvis (fAt fs f).body (List.replicate n1 false)) i)) ∧ Keep w w' := by
  refine calls_k fun Q hQ => ?_
  have K0 := Keep.al w (.cells #[.slice a0 n0 c0, .slice a1 n1 c1] 50)
  obtain ⟨e1, hnc, hm, hat⟩ := funcs_at r1
  rw [e1] at hcal hf h4
  have HC := Lib.hid hcal
  have HNE := Lib.hid hne
  obtain ⟨b, o, rfl, hd, a3, n3, c3, a4, n4, c4, d0, d1, d2, d3, d4, r3, r4⟩ := hat f hf
  clear hcal hne hat e1 d0 d1 r3
  go_enter Try.func87, Try.ntmps87
  go_wp2_with (at_make; refine wpList_makeN _ rfl _ _ 114 rfl 4 (.bool false) #[.bool false] 1 1 Try.underlying114 (by kernel_rfl) rfl rfl n1 rfl rfl (by omega) (by omega) ?_; intro w1 hr hk hsz; simp only [World.size_alloc] at hr hk hsz; have KA := K0.trans (hk.trans (Keep.al w1 (.cells #[.slice (some ⟨w.heap.size + 1, 0, none⟩) n1 n1] 114))); have x1 := boxk (hk.trans (Keep.al w1 (.cells #[.slice (some ⟨w.heap.size + 1, 0, none⟩) n1 n1] 114))) 1; simp at x1; have g2 := (KA.cell (World.block_lt_of_cell? w _ d2) (fun h => h)).trans d2; have g3 := (KA.cell (World.block_lt_of_cell? w _ d3) (fun h => h)).trans d3; have g4 := (KA.cell (World.block_lt_of_cell? w _ d4) (fun h => h)).trans d4; have x1b := boxk hk 1; simp at x1b)
  have R1 : w1.rowIs (w.heap.size + 1) 4 n1 (fun i => .bool (bAtL (List.replicate n1 false) i)) := by
    rw [Nat.mul_one] at hr
    refine hr.congr (fun i hi => ?_)
    rw [Nat.mod_one]
    simp [bAtL, hi]
  have RP := (rowOf w1 #[.slice (some ⟨w.heap.size + 1, 0, none⟩) n1 n1] 114).congr (g := fun _ => .slice (some ⟨w.heap.size + 1, 0, none⟩) n1 n1) (fun i hi => by
    obtain rfl : i = 0 := by simpa using hi
    rfl)
  rw [hsz] at RP
  have I0 : CInv (w.heap.size + 1 + 1) (w.heap.size + 1) n1 0 (List.replicate n1 false) (w1.alloc (.cells #[.slice (some ⟨w.heap.size + 1, 0, none⟩) n1 n1] 114)) := ⟨RP, R1.alloc _, by simp, by omega⟩
  have q4 := (r4.lt).k KA
  have IH := Lib.hid I0
  have KH := Lib.hid KA
  clear R1 RP I0 hr
  refine (walk_m bvis 131 #[.pointer (some ⟨w.heap.size + 1 + 1, 0, none⟩)] (calIn n1) (fun _ r => r = w.heap.size + 1) (CInv (w.heap.size + 1 + 1) (w.heap.size + 1) n1) (fun args w => by kernel_rfl) (fun k s w w' h hk => ⟨h.keep hk, fun r hr => hr⟩) (fun k s w r h hr => by subst hr; exact h.2.1.lt)
    (fun k s op num a n c w hk hc h => calClos _ _ _ _ _ _ _ _ _ _ _ hc h) _ _ _ _ (Nat.lt_succ_self _) ((allE_eq _ _).1 HC.out).1 ((allE_eq _ _).1 HC.out).2 0 _ _ _ _ _ _ q4 (fun q hq => ⟨by have := hq.2; simp; omega, fun e => by have := hq.2; omega⟩) (by have := HNE.out; omega) IH.out).mono ?_
  rintro e w2 ⟨rfl, I2, X2⟩
  have v0 := I2.1.cell (i := 0) (by omega)
  go_wp2_with fail
  refine fin_ hQ ⟨_, rfl, by omega, ?_, KH.out.then_ X2.ext (fun q hq e => by omega)⟩
  have h := I2.2.1
  rw [← visE_eq] at h
  exact h
end Go.Proofs.Ytaeddcnakilnlaa
/- A list of work: a slice of integers of the call's own that is read and cut at its front and appended to at its end. -/
namespace Go.Proofs.Ytaeddcnakilnlaa
open Go.RowKit

/-- A slice of integers in a block of the call's own, at any offset, with room for its capacity. -/
def QRow (w : World) (base : Nat) (v : Value) (xs : List Int) : Prop :=
  ∃ (g o c : Nat) (cur : Array Value), v = .slice (some ⟨g, o, none⟩) xs.length c ∧ base ≤ g ∧ w.heap[g]? = some (.cells cur 3 (0, 0)) ∧ xs.length ≤ c ∧ o + c ≤ cur.size ∧ c ≤ maxLen ∧ ∀ i, i < xs.length → cur[o + i]? = some (.int .i64 (iAt xs i))
section
variable {w w' : World} {base : Nat} {v : Value} {xs : List Int}
theorem QRow.lt (h : QRow w base v xs) : ∀ k, v.ownBlock = some k → base ≤ k ∧ k < w.heap.size := by
  obtain ⟨g, o, c, cur, rfl, hb, hg, _⟩ := h
  intro k hk
  have : g = k := by simpa [Value.ownBlock] using hk
  subst this
  exact ⟨hb, (Array.getElem?_eq_some_iff.1 hg).1⟩
theorem QRow.ext {S : Nat → Prop} (h : QRow w base v xs) (hx : Ext S w w') (hs : ∀ k, v.ownBlock = some k → ¬ S k) : QRow w' base v xs := by
  have hl := h.lt
  obtain ⟨g, o, c, cur, rfl, hb, hg, h1⟩ := h
  exact ⟨g, o, c, cur, rfl, hb, (hx.block g (hl g rfl).2 (hs g rfl)).trans hg, h1⟩
theorem QRow.form (h : QRow w base v xs) : ∃ g o c, v = .slice (some ⟨g, o, none⟩) xs.length c ∧ base ≤ g ∧ g < w.heap.size ∧ xs.length ≤ c ∧ (∀ i, i < xs.length → w.cell? ⟨g, o + i, none⟩ = some (.int .i64 (iAt xs i))) := by
  have hl := h.lt
  obtain ⟨g, o, c, cur, rfl, hb, hg, h1, h2, h3, h4⟩ := h
  exact ⟨g, o, c, rfl, hb, (hl g rfl).2, h1, fun i hi => by simp [World.cell?, hg, h4 i hi]⟩
theorem QRow.tail {g o n c : Nat} {x : Int} (h : QRow w base (.slice (some ⟨g, o, none⟩) n c) (x :: xs)) : QRow w base (.slice (some ⟨g, o + 1, none⟩) (n - 1) (c - 1)) xs := by
  obtain ⟨g', o', c', cur, e, hb, hg, h1, h2, h3, h4⟩ := h
  injection e with e1 e2 e3
  injection e1 with e1
  injection e1 with e4 e5
  subst e4 e5 e2 e3
  simp only [List.length_cons] at h1 h4 ⊢
  refine ⟨g, o + 1, c - 1, cur, by simp, hb, hg, by omega, by omega, by omega, fun i hi => ?_⟩
  have := h4 (i + 1) (by omega)
  rw [show o + 1 + i = o + (i + 1) by omega, this]
  simp [iAt]
theorem QRow.tail0 {g o n c : Nat} {x : Int} (h : QRow w base (.slice (some ⟨g, o, none⟩) n c) [x]) : QRow w base (.slice (some ⟨g, o, none⟩) 0 0) [] := by
  obtain ⟨g', o', c', cur, e, hb, hg, _, h2, _, _⟩ := h
  injection e with e1 e2 e3
  injection e1 with e1
  injection e1 with e4 e5
  subst e4 e5
  exact ⟨g, o, 0, cur, rfl, hb, hg, Nat.le_refl _, by omega, Nat.zero_le _, fun i hi => absurd hi (by simp)⟩
theorem QRow.lit (w : World) (x : Int) {base : Nat} (hb : base ≤ w.heap.size) : QRow (w.alloc (.cells #[.int .i64 x] 3)) base (.slice (some ⟨w.heap.size, 0, none⟩) 1 1) [x] :=
  ⟨w.heap.size, 0, 1, #[.int .i64 x], rfl, hb, heap_alloc_new w _, Nat.le_refl _, by simp, by simp [maxLen], fun i hi => by
    obtain rfl : i = 0 := by simpa using hi
    simp [iAt]⟩
end

theorem own_keep {w w' : World} {base : Nat} {e : TypeId} {size : Nat} {v : Value} {n : Nat} {xs : List Value} {S : Nat → Prop} (h : w.ownsRow base e size v n xs) (hk : Ext S w w') (hs : ∀ g, v.ownBlock = some g → ¬ S g) : w'.ownsRow base e size v n xs := by
  obtain ⟨h1, h2⟩ := h
  refine ⟨h1, ?_⟩
  rcases h2 with h2 | ⟨g, cap, cur, e, hb, hg, rest⟩
  · exact .inl h2
  · exact .inr ⟨g, cap, cur, e, hb, (hk.block g (Array.getElem?_eq_some_iff.1 hg).1 (hs g (by rw [e]; rfl))).trans hg, rest⟩
theorem run_append_q (w : World) (base : Nat) (ty : TypeId) (v : Value) (xs : List Int) (hq : QRow w base v xs) (a : Nat) (c : Nat) (y : Int) (hc : w.cell? ⟨a, 0, none⟩ = some (.int .i64 y)) (hn : xs.length ≤ 1000000) (hbase : base ≤ w.heap.size) :
    ∃ v' w', (Builtin.append_ #[26, 26] ty #[v, .slice (some ⟨a, 0, none⟩) 1 c]).run Try.prog w = .ok v' w' ∧ QRow w' base v' (xs ++ [y]) ∧ Ext (fun k => v.ownBlock = some k) w w' ∧ (v'.ownBlock = v.ownBlock ∨ v'.ownBlock = some w.heap.size) := by
  obtain ⟨i, hi, hzz⟩ := Option.map_eq_some_iff.1 (show (Try.prog.info? 3).map (fun i => (i.zero, i.size, i.bytes)) = some (some (.int .i64 0), 1, 8) by kernel_rfl)
  simp only [Prod.mk.injEq] at hzz
  obtain ⟨hz, hsize, hby⟩ := hzz
  obtain ⟨g, o, c0, cur, rfl, hb, hg, hle, hfit, hcm, hcell⟩ := hq
  have hnews : ∀ j u, ([.int .i64 y] : List Value)[j]? = some u → w.cell? ((⟨a, 0, none⟩ : Addr).add j) = some u := fun j u hj => by
    rcases j with _ | j
    · simp only [List.getElem?_cons_zero, Option.some.injEq] at hj
      subst hj
      rw [Addr.add_lit]; exact hc
    · simp at hj
  have h1 : ∀ u ∈ ([.int .i64 y] : List Value), u.oneCell' = true := by simp [Value.oneCell']
  by_cases hroom : xs.length + 1 ≤ c0
  · have hf := run_firstCells_some (P := Try.prog) w i.size 1 ⟨a, 0, none⟩ 1 c [.int .i64 y] (by rw [hsize]; rfl) hnews
    rw [hsize] at hf
    have hst := run_storeCells_at Try.prog g (o + xs.length) 3 [.int .i64 y] 0 cur w hg (by simp; omega) h1
    simp only [Nat.add_zero] at hst
    obtain ⟨nc, hnc⟩ : ∃ nc, (cur.toList.take (o + xs.length) ++ [Value.int .i64 y] ++ cur.toList.drop (o + xs.length + 1)).toArray = nc := ⟨_, rfl⟩
    refine ⟨.slice (some ⟨g, o, none⟩) (xs.length + 1) c0, w.setRow g nc, ?_, ⟨g, o, c0, nc, by simp, hb, setRow_heap w g cur _ _ _ hg, by simpa using hroom, ?_, hcm, fun j hj => ?_⟩, ⟨rfl, rfl, rfl, by simp, fun k _ hk => setRow_other w g k _ (fun e => hk (by simp [Value.ownBlock, e]))⟩, .inl rfl⟩
    · subst hnc
      simp only [List.length_cons, List.length_nil, Nat.zero_add] at hst
      simp [Builtin.append_, run_underlying Try.underlying26, sizeOf, typeInfo, hi, Builtin.lenOf, hroom, hf, hsize, Addr.add_lit, hst]
    · subst hnc
      simp only [List.size_toArray, List.length_append, List.length_take, List.length_drop, Array.length_toList, List.length_cons, List.length_nil]
      omega
    · subst hnc
      simp only [List.length_append, List.length_cons, List.length_nil] at hj
      simp only [List.getElem?_toArray]
      by_cases hj2 : j < xs.length
      · have e : iAt (xs ++ [y]) j = iAt xs j := by simp [iAt, List.getD, List.getElem?_append_left hj2]
        rw [List.append_assoc, List.getElem?_append_left (by simp; omega), List.getElem?_take_of_lt (by omega), Array.getElem?_toList, hcell j hj2, e]
      · obtain rfl : j = xs.length := by omega
        have e : iAt (xs ++ [y]) xs.length = y := by simp [iAt]
        have hm : min (o + xs.length) cur.size = o + xs.length := by omega
        rw [e, List.append_assoc, List.getElem?_append_right (by simp; omega)]
        simp [hm]
  · have holds : ∀ j u, (xs.map (Value.int .i64))[j]? = some u → w.cell? ((⟨g, o, none⟩ : Addr).add j) = some u := fun j u hj => by
      obtain ⟨hj1, hj2⟩ := List.getElem?_eq_some_iff.1 hj
      simp only [List.length_map] at hj1
      have := hcell j hj1
      rw [Addr.add_lit]
      simp only [World.cell?, hg]
      rw [← hj2]
      simpa [iAt, hj1] using this
    have hr := run_append_grow (P := Try.prog) w 26 ty 3 i (.int .i64 0) Try.underlying26 hi hz ⟨g, o, none⟩ xs.length c0 (xs.map (Value.int .i64)) (by rw [hsize]; simp) holds ⟨a, 0, none⟩ 1 c [.int .i64 y] (by rw [hsize]; rfl) hnews (by omega) (by omega) (growslice_fits (by omega) (by rw [hby]; omega))
    have hge := grownCap_ge w (xs.length + 1) c0 3
    refine ⟨_, _, hr, ⟨w.heap.size, 0, _, _, by simp, hbase, heap_alloc_new w.drew _, by simpa using hge, ?_, grownCap_le_maxLen w (xs.length + 1) c0 3 (by simp [maxLen]; omega), fun j hj => ?_⟩, ⟨rfl, rfl, rfl, by simp, fun k hk _ => Below.heap_alloc w.drew _ k hk⟩, .inr rfl⟩
    · simp only [Array.size_append, List.size_toArray, List.length_map, List.length_cons, List.length_nil, size_zeroCells]
      rw [show (Value.int .i64 0).cells.size = 1 from rfl]
      omega
    · have hj' : j < (xs ++ [y]).length := hj
      have e : ((xs ++ [y]).map (Value.int .i64))[j]? = some (.int .i64 (iAt (xs ++ [y]) j)) := by
        rw [List.getElem?_map, List.getElem?_eq_getElem hj']
        simp only [iAt, List.getD, List.getElem?_eq_getElem hj', Option.map_some, Option.getD_some]
      rw [Nat.zero_add, Array.getElem?_append_left (by simpa using hj), ← e]
      simp

theorem wpList_appQ (w : World) {ops : Array Oper} {rest : List Oper} {o : Oper} {a : Act} {Q : Exit → Act → World → Prop} (hgd : o.guard = none) (s x : Operand)
    (ho : o.op = .call { callee := .builtin .append, args := #[s, x], argTypes := #[26, 26] })
    (base : Nat) (v : Value) (xs : List Int) (hs : a.eval s = v) (hq : QRow w base v xs)
    (g c : Nat) (y : Int) (hx : a.eval x = .slice (some ⟨g, 0, none⟩) 1 c) (hc : w.cell? ⟨g, 0, none⟩ = some (.int .i64 y)) (hn : xs.length ≤ 1000000) (hbase : base ≤ w.heap.size)
    (h : ∀ v' w', QRow w' base v' (xs ++ [y]) → Ext (fun k => v.ownBlock = some k) w w' → (v'.ownBlock = v.ownBlock ∨ v'.ownBlock = some w.heap.size) → wpList Try.prog ops Q rest (a.put o.dst v') w') : wpList Try.prog ops Q (o :: rest) a w := by
  refine wpList_plain hgd fun K hK => ?_
  obtain ⟨v', w', hrun, h2, h3, h4⟩ := run_append_q w base o.type v xs hq g c y hc hn hbase
  unfold Oper.wp execOp
  simp only [ho, resolve, invoke, builtin, Sem.run_bind, Sem.run_pure, Result.andThen_ok, List.map_toArray, List.map_cons, List.map_nil, hs, hx, hrun]
  exact hK _ _ (h v' w' h2 h3 h4)
end Go.Proofs.Ytaeddcnakilnlaa
