/- calleesIn of the reference: all nodes are visited, numbers are inserted. -/
import Derived.Test.YtbknmljfnjlieaaInsert
import Derived.Test.YtbknmljfnjlieaaCallPlain
namespace Go.Proofs.Ytbknmljfnjlieaa
open Go.RowKit

set_option maxRecDepth 100000 in
set_option maxHeartbeats 4000000 in
theorem specCalleesIn_n (N : Nat) : ∀ (op num : Int) (es : List ExprL), nEs es < N → ∀ (a : Option Addr) (n c : Nat) (D : Nat → Prop) (al : Option Addr) (nl cl : Nat) (xs : List Int) (B : Nat) (w : World), Rd w D (encExprs es) (.slice a n c) → IntsL w (fun q => B ≤ q) al nl xs → nl ≤ cl → B ≤ w.heap.size → xs.length + (nEs es + 1) ≤ 1000 →
    Calls Try.prog 67 #[.agg #[.int .i64 op, .int .i64 num, .slice a n c], .slice al nl cl] w fun e w' => ∃ a' n' c', e = .returned (.slice a' n' c') ∧ n' ≤ c' ∧ IntsL w' (fun q => B ≤ q) a' n' (visE cvis (.mk op num es) xs) ∧ Keep w w' := by
  induction N with
  | zero => intro _ _ es h; omega
  | succ N ihN =>
  intro op num es hN a n c D al nl cl xs B w h hl hlc hB hlen
  refine calls_k fun Q hQ => ?_
  have K0 := Keep.al w (.cells #[.int .i64 op, .int .i64 num, .slice a n c] 41)
  have R0 := rowOf w #[.int .i64 op, .int .i64 num, .slice a n c] 41
  have IH := Lib.hid (fun (j : Nat) (hj : j < es.length) => ihN (eAt es j).op (eAt es j).num (eAt es j).kids (by have := nE_le es hj; have := nE_eq (eAt es j); omega))
  have LB : ∀ j, (visEs cvis (es.take j) (cvis op num xs)).length + nEs (es.drop j) ≤ xs.length + (nEs es + 1) := fun j => by
    have h1 := cvisEs_len (es.take j) (cvis op num xs)
    have h2 : (cvis op num xs).length ≤ xs.length + 1 := cvis_len1 op num xs
    have h3 : nEs es = nEs (es.take j) + nEs (es.drop j) := by rw [← nEs_append, List.take_append_drop]
    omega
  have LBB := Lib.hid LB
  have h1 := h.k K0
  have hl1 := hl.ext K0 (fun _ _ h => h)
  clear ihN hN LB
  obtain ⟨e1, hnc, hm, hat⟩ := exprs_at h1
  have HL := Lib.hid e1
  have HA := Lib.hid hat
  have HI := Lib.hid hl1
  have hxl : nl = xs.length := hl.1.symm
  have hnl : nl ≤ 1000 := by omega
  have HXL := Lib.hid hxl
  clear e1 hat h1 h hl hl1 hxl
  by_cases h1 : op = 9
  · have V : Hid (cvis op num xs = insL xs num) := by show _ = _; rw [cvis, show isCal op = true from by rw [isCal]; simp [h1]]; rfl
    have h1' : (op == 9) = true := by simpa using h1
    clear h1
    go_enter Try.func67, Try.ntmps67
    go_wp2_with fail
    refine (specInsert _ _ _ _ _ _ _ HI.out (by omega)).mono ?_
    rintro e w1 ⟨a1, n1, c1, rfl, hn1, o1, p1⟩
    have I1 := Lib.hid ((o1.read).mono (D' := fun q => B ≤ q) (fun q hq => by simp at hq; omega))
    have KW := K0.trans p1
    have RW := row_ext R0 p1 (fun h => h)
    have BW : Keep (w.alloc (.cells #[.int .i64 op, .int .i64 num, .slice a n c] 41)) w1 := p1
    clear o1 p1
    have x2 := RW.cell (i := 2) (by simp)
    simp at x2
    go_wp2_with fail
    go_loopw [1, 5] (fun lv iv wr => ∃ (j : Nat) (a' : Option Addr) (n' c' : Nat), j ≤ n ∧ iv = .int .i64 j ∧ lv = .slice a' n' c' ∧ n' ≤ c' ∧ Hid (IntsL wr (fun q => B ≤ q) a' n' (visEs cvis (es.take j) (cvis op num xs))) ∧ Hid (wr.rowIs w.heap.size 41 3 (fun i => (#[.int .i64 op, .int .i64 num, .slice a n c] : Array Value).getD i undef)) ∧ Keep (w.alloc (.cells #[.int .i64 op, .int .i64 num, .slice a n c] 41)) wr ∧ Keep w wr) (fun _ iv _ => n - (intOf iv).toNat)
    case atStart => exact ⟨0, a1, n1, c1, Nat.zero_le _, rfl, rfl, hn1, by show IntsL _ _ _ _ _; rw [List.take_zero, visEs, V.out]; exact I1.out, RW, BW, KW⟩
    case round =>
      obtain ⟨j, a', n', c', hj, rfl, rfl, hnc', hI, hR, hBW, hK⟩ := hrel
      have x2 := hR.out.cell (i := 2) (by simp)
      simp at x2
      by_cases hlt : j < n
      · have HJ : Hid (j < es.length) := by have := HL.out; show _ < _; omega
        obtain ⟨b, o, rfl, hd, a2, n2, c2, d0, d1, d2, r2⟩ := HA.out j hlt
        have g0 := (hBW.cell (World.block_lt_of_cell? _ _ d0) (fun h => h)).trans d0
        have g1 := (hBW.cell (World.block_lt_of_cell? _ _ d1) (fun h => h)).trans d1
        have g2 := (hBW.cell (World.block_lt_of_cell? _ _ d2) (fun h => h)).trans d2
        have q2 := r2.k hBW
        have hb : (visEs cvis (es.take j) (cvis op num xs)).length + (nEs (eAt es j).kids + 1) ≤ 1000 := by
          have h1 := LBB.out j
          have h2 : nEs (es.drop j) = nE (eAt es j) + nEs (es.drop (j + 1)) := by rw [List.drop_eq_getElem_cons HJ.out, nEs, eAt_get HJ.out]
          have h3 := nE_eq (eAt es j)
          omega
        have hBs : B ≤ wr.heap.size := Nat.le_trans hB hK.size
        clear d0 d1 d2 r2
        go_wp2_with fail
        refine (IH.out j HJ.out _ _ _ _ _ _ _ _ B _ q2 hI.out hnc' hBs hb).mono ?_
        rintro e w2 ⟨a3, n3, c3, rfl, hn3, i3, p3⟩
        have I3 : Hid (IntsL w2 (fun q => B ≤ q) a3 n3 (visEs cvis (es.take (j + 1)) (cvis op num xs))) := by
          show IntsL _ _ _ _ _
          rw [visEs_take cvis es HJ.out]
          have e : eAt es j = .mk (eAt es j).op (eAt es j).num (eAt es j).kids := by cases eAt es j; rfl
          rw [e]; exact i3
        have hR2 := Lib.hid (row_ext hR.out p3 (fun h => h))
        clear i3 x2 g0 g1 g2
        go_wp2_with fail
        go_roundw
        case rel => exact ⟨j + 1, a3, n3, c3, by omega, by go_num, rfl, hn3, I3, hR2, hBW.trans p3, hK.trans p3⟩
        case measure => simp [intOf]; omega
      · have HJ : Hid (es.length ≤ j) := by have := HL.out; show _ ≤ _; omega
        go_wp2_with fail
        refine fin_ hQ ⟨a', n', c', rfl, hnc', ?_, hK⟩
        rw [visE]
        have h := hI.out
        rw [List.take_of_length_le HJ.out] at h
        exact h
  · by_cases h2 : op = 10
    · have V : Hid (cvis op num xs = insL xs num) := by show _ = _; rw [cvis, show isCal op = true from by rw [isCal]; simp [h2]]; rfl
      have h1' : (op == 9) = false := by simpa using h1
      have h2' : (op == 10) = true := by simpa using h2
      clear h1 h2
      go_enter Try.func67, Try.ntmps67
      go_wp2_with fail
      refine (specInsert _ _ _ _ _ _ _ HI.out (by omega)).mono ?_
      rintro e w1 ⟨a1, n1, c1, rfl, hn1, o1, p1⟩
      have I1 := Lib.hid ((o1.read).mono (D' := fun q => B ≤ q) (fun q hq => by simp at hq; omega))
      have KW := K0.trans p1
      have RW := row_ext R0 p1 (fun h => h)
      have BW : Keep (w.alloc (.cells #[.int .i64 op, .int .i64 num, .slice a n c] 41)) w1 := p1
      clear o1 p1
      have x2 := RW.cell (i := 2) (by simp)
      simp at x2
      go_wp2_with fail
      go_loopw [1, 5] (fun lv iv wr => ∃ (j : Nat) (a' : Option Addr) (n' c' : Nat), j ≤ n ∧ iv = .int .i64 j ∧ lv = .slice a' n' c' ∧ n' ≤ c' ∧ Hid (IntsL wr (fun q => B ≤ q) a' n' (visEs cvis (es.take j) (cvis op num xs))) ∧ Hid (wr.rowIs w.heap.size 41 3 (fun i => (#[.int .i64 op, .int .i64 num, .slice a n c] : Array Value).getD i undef)) ∧ Keep (w.alloc (.cells #[.int .i64 op, .int .i64 num, .slice a n c] 41)) wr ∧ Keep w wr) (fun _ iv _ => n - (intOf iv).toNat)
      case atStart => exact ⟨0, a1, n1, c1, Nat.zero_le _, rfl, rfl, hn1, by show IntsL _ _ _ _ _; rw [List.take_zero, visEs, V.out]; exact I1.out, RW, BW, KW⟩
      case round =>
        obtain ⟨j, a', n', c', hj, rfl, rfl, hnc', hI, hR, hBW, hK⟩ := hrel
        have x2 := hR.out.cell (i := 2) (by simp)
        simp at x2
        by_cases hlt : j < n
        · have HJ : Hid (j < es.length) := by have := HL.out; show _ < _; omega
          obtain ⟨b, o, rfl, hd, a2, n2, c2, d0, d1, d2, r2⟩ := HA.out j hlt
          have g0 := (hBW.cell (World.block_lt_of_cell? _ _ d0) (fun h => h)).trans d0
          have g1 := (hBW.cell (World.block_lt_of_cell? _ _ d1) (fun h => h)).trans d1
          have g2 := (hBW.cell (World.block_lt_of_cell? _ _ d2) (fun h => h)).trans d2
          have q2 := r2.k hBW
          have hb : (visEs cvis (es.take j) (cvis op num xs)).length + (nEs (eAt es j).kids + 1) ≤ 1000 := by
            have h1 := LBB.out j
            have h2 : nEs (es.drop j) = nE (eAt es j) + nEs (es.drop (j + 1)) := by rw [List.drop_eq_getElem_cons HJ.out, nEs, eAt_get HJ.out]
            have h3 := nE_eq (eAt es j)
            omega
          have hBs : B ≤ wr.heap.size := Nat.le_trans hB hK.size
          clear d0 d1 d2 r2
          go_wp2_with fail
          refine (IH.out j HJ.out _ _ _ _ _ _ _ _ B _ q2 hI.out hnc' hBs hb).mono ?_
          rintro e w2 ⟨a3, n3, c3, rfl, hn3, i3, p3⟩
          have I3 : Hid (IntsL w2 (fun q => B ≤ q) a3 n3 (visEs cvis (es.take (j + 1)) (cvis op num xs))) := by
            show IntsL _ _ _ _ _
            rw [visEs_take cvis es HJ.out]
            have e : eAt es j = .mk (eAt es j).op (eAt es j).num (eAt es j).kids := by cases eAt es j; rfl
            rw [e]; exact i3
          have hR2 := Lib.hid (row_ext hR.out p3 (fun h => h))
          clear i3 x2 g0 g1 g2
          go_wp2_with fail
          go_roundw
          case rel => exact ⟨j + 1, a3, n3, c3, by omega, by go_num, rfl, hn3, I3, hR2, hBW.trans p3, hK.trans p3⟩
          case measure => simp [intOf]; omega
        · have HJ : Hid (es.length ≤ j) := by have := HL.out; show _ ≤ _; omega
          go_wp2_with fail
          refine fin_ hQ ⟨a', n', c', rfl, hnc', ?_, hK⟩
          rw [visE]
          have h := hI.out
          rw [List.take_of_length_le HJ.out] at h
          exact h
    · have V : Hid (cvis op num xs = xs) := by show _ = _; rw [cvis, show isCal op = false from by rw [isCal]; simp [h1, h2]]; rfl
      have h1' : (op == 9) = false := by simpa using h1
      have h2' : (op == 10) = false := by simpa using h2
      clear h1 h2
      go_enter Try.func67, Try.ntmps67
      have KW := K0
      have RW := R0
      have BW : Keep (w.alloc (.cells #[.int .i64 op, .int .i64 num, .slice a n c] 41)) (w.alloc (.cells #[.int .i64 op, .int .i64 num, .slice a n c] 41)) := Ext.refl _ _
      have x2 := RW.cell (i := 2) (by simp)
      simp at x2
      go_wp2_with fail
      go_loopw [1, 5] (fun lv iv wr => ∃ (j : Nat) (a' : Option Addr) (n' c' : Nat), j ≤ n ∧ iv = .int .i64 j ∧ lv = .slice a' n' c' ∧ n' ≤ c' ∧ Hid (IntsL wr (fun q => B ≤ q) a' n' (visEs cvis (es.take j) (cvis op num xs))) ∧ Hid (wr.rowIs w.heap.size 41 3 (fun i => (#[.int .i64 op, .int .i64 num, .slice a n c] : Array Value).getD i undef)) ∧ Keep (w.alloc (.cells #[.int .i64 op, .int .i64 num, .slice a n c] 41)) wr ∧ Keep w wr) (fun _ iv _ => n - (intOf iv).toNat)
      case atStart => exact ⟨0, al, nl, cl, Nat.zero_le _, rfl, rfl, hlc, by show IntsL _ _ _ _ _; rw [List.take_zero, visEs, V.out]; exact HI.out, RW, BW, KW⟩
      case round =>
        obtain ⟨j, a', n', c', hj, rfl, rfl, hnc', hI, hR, hBW, hK⟩ := hrel
        have x2 := hR.out.cell (i := 2) (by simp)
        simp at x2
        by_cases hlt : j < n
        · have HJ : Hid (j < es.length) := by have := HL.out; show _ < _; omega
          obtain ⟨b, o, rfl, hd, a2, n2, c2, d0, d1, d2, r2⟩ := HA.out j hlt
          have g0 := (hBW.cell (World.block_lt_of_cell? _ _ d0) (fun h => h)).trans d0
          have g1 := (hBW.cell (World.block_lt_of_cell? _ _ d1) (fun h => h)).trans d1
          have g2 := (hBW.cell (World.block_lt_of_cell? _ _ d2) (fun h => h)).trans d2
          have q2 := r2.k hBW
          have hb : (visEs cvis (es.take j) (cvis op num xs)).length + (nEs (eAt es j).kids + 1) ≤ 1000 := by
            have h1 := LBB.out j
            have h2 : nEs (es.drop j) = nE (eAt es j) + nEs (es.drop (j + 1)) := by rw [List.drop_eq_getElem_cons HJ.out, nEs, eAt_get HJ.out]
            have h3 := nE_eq (eAt es j)
            omega
          have hBs : B ≤ wr.heap.size := Nat.le_trans hB hK.size
          clear d0 d1 d2 r2
          go_wp2_with fail
          refine (IH.out j HJ.out _ _ _ _ _ _ _ _ B _ q2 hI.out hnc' hBs hb).mono ?_
          rintro e w2 ⟨a3, n3, c3, rfl, hn3, i3, p3⟩
          have I3 : Hid (IntsL w2 (fun q => B ≤ q) a3 n3 (visEs cvis (es.take (j + 1)) (cvis op num xs))) := by
            show IntsL _ _ _ _ _
            rw [visEs_take cvis es HJ.out]
            have e : eAt es j = .mk (eAt es j).op (eAt es j).num (eAt es j).kids := by cases eAt es j; rfl
            rw [e]; exact i3
          have hR2 := Lib.hid (row_ext hR.out p3 (fun h => h))
          clear i3 x2 g0 g1 g2
          go_wp2_with fail
          go_roundw
          case rel => exact ⟨j + 1, a3, n3, c3, by omega, by go_num, rfl, hn3, I3, hR2, hBW.trans p3, hK.trans p3⟩
          case measure => simp [intOf]; omega
        · have HJ : Hid (es.length ≤ j) := by have := HL.out; show _ ≤ _; omega
          go_wp2_with fail
          refine fin_ hQ ⟨a', n', c', rfl, hnc', ?_, hK⟩
          rw [visE]
          have h := hI.out
          rw [List.take_of_length_le HJ.out] at h
          exact h
end Go.Proofs.Ytbknmljfnjlieaa
