/- addFree of the reference: all nodes are visited, numbers are inserted. -/
import Derived.Test.YtomgellcpjimjaaZInsert
import Derived.Test.YtomgellcpjimjaaZFreePlain
import Derived.Test.YtomgellcpjimjaaHE
import Derived.Test.YtomgellcpjimjaaHP
import Derived.Test.YtomgellcpjimjaaShelf
import Derived.Test.YtomgellcpjimjaaGA
import Derived.Test.YtomgellcpjimjaaZNodes
namespace Go.Proofs.Ytomgellcpjimjaa
open Go.RowKit

set_option maxRecDepth 100000 in
set_option maxHeartbeats 4000000 in
theorem specAddFree_n (z : Int) (N : Nat) : ∀ (op num : Int) (es : List ExprL), nEs es < N → ∀ (a : Option Addr) (n c : Nat) (D : Nat → Prop) (al : Option Addr) (nl cl : Nat) (xs : List Int) (B : Nat) (w : World), Rd w D (encExprs es) (.slice a n c) → IntsL w (fun q => B ≤ q) al nl xs → nl ≤ cl → B ≤ w.heap.size → xs.length + (nEs es + 1) ≤ 1000 →
    Calls Try.prog 74 #[.agg #[.int .i64 op, .int .i64 num, .slice a n c], .int .i64 z, .slice al nl cl] w fun e w' => ∃ a' n' c', e = .returned (.slice a' n' c') ∧ n' ≤ c' ∧ IntsL w' (fun q => B ≤ q) a' n' (visE (fvis z) (.mk op num es) xs) ∧ Keep w w' := by
  induction N with
  | zero => intro _ _ es h; omega
  | succ N ihN =>
  intro op num es hN a n c D al nl cl xs B w h hl hlc hB hlen
  refine calls_k fun Q hQ => ?_
  have K0 := Keep.al w (.cells #[.int .i64 op, .int .i64 num, .slice a n c] 25)
  have R0 := rowOf w #[.int .i64 op, .int .i64 num, .slice a n c] 25
  have IH := Lib.hid (fun (j : Nat) (hj : j < es.length) => ihN (eAt es j).op (eAt es j).num (eAt es j).kids (by have := nE_le es hj; have := nE_eq (eAt es j); omega))
  have LB : ∀ j, (visEs (fvis z) (es.take j) ((fvis z) op num xs)).length + nEs (es.drop j) ≤ xs.length + (nEs es + 1) := fun j => by
    have h1 := fvisEs_len z (es.take j) ((fvis z) op num xs)
    have h2 : ((fvis z) op num xs).length ≤ xs.length + 1 := fvis_len1 z op num xs
    have h3 : nEs es = nEs (es.take j) + nEs (es.drop j) := by rw [← nEs_append, List.take_append_drop]
    omega
  have LBB := Lib.hid LB
  have h1 := h.k K0
  have hl1 := hl.ext K0 (fun _ _ h => h)
  clear ihN hN LB
  obtain ⟨e1, hnc, hm, hat⟩ := exprs_at h1
  have HL := Lib.hid e1
  have HA := Lib.hid hat
  have HI := Lib.hid hl1
  have hxl : nl = xs.length := hl.1.symm
  have hnl : nl ≤ 1000 := by omega
  have HXL := Lib.hid hxl
  clear e1 hat h1 h hl hl1 hxl
  by_cases h1 : op = 12
  · by_cases h2 : 0 ≤ num
    · by_cases h3 : num < z
      · have V : Hid (fvis z op num xs = insL xs num) := by show _ = _; rw [fvis, show isFree z op num = true from by rw [isFree]; simp; omega]; rfl
        have h1' : (op == 12) = true := by simpa using h1
        clear h1
        go_enter Try.func74, Try.ntmps74
        go_wp2_with fail
        refine (specInsert _ _ _ _ _ _ _ HI.out (by omega)).mono ?_
        rintro e w1 ⟨a1, n1, c1, rfl, hn1, o1, p1⟩
        have I1 := Lib.hid ((o1.read).mono (D' := fun q => B ≤ q) (fun q hq => by simp at hq; omega))
        have KW := K0.trans p1
        have RW := row_ext R0 p1 (fun h => h)
        have BW : Keep (w.alloc (.cells #[.int .i64 op, .int .i64 num, .slice a n c] 25)) w1 := p1
        clear o1 p1
        have x2 := RW.cell (i := 2) (by simp)
        simp at x2
        go_wp2_with fail
        go_loopw [2, 7] (fun lv iv wr => ∃ (j : Nat) (a' : Option Addr) (n' c' : Nat), j ≤ n ∧ iv = .int .i64 j ∧ lv = .slice a' n' c' ∧ n' ≤ c' ∧ Hid (IntsL wr (fun q => B ≤ q) a' n' (visEs (fvis z) (es.take j) ((fvis z) op num xs))) ∧ Hid (wr.rowIs w.heap.size 25 3 (fun i => (#[.int .i64 op, .int .i64 num, .slice a n c] : Array Value).getD i undef)) ∧ Keep (w.alloc (.cells #[.int .i64 op, .int .i64 num, .slice a n c] 25)) wr ∧ Keep w wr) (fun _ iv _ => n - (intOf iv).toNat)
        case atStart => exact ⟨0, a1, n1, c1, Nat.zero_le _, rfl, rfl, hn1, by show IntsL _ _ _ _ _; rw [List.take_zero, visEs, V.out]; exact I1.out, RW, BW, KW⟩
        case round =>
          obtain ⟨j, a', n', c', hj, rfl, rfl, hnc', hI, hR, hBW, hK⟩ := hrel
          have x2 := hR.out.cell (i := 2) (by simp)
          simp at x2
          by_cases hlt : j < n
          · have HJ : Hid (j < es.length) := by have := HL.out; show _ < _; omega
            obtain ⟨b, o, rfl, hd, a2, n2, c2, d0, d1, d2, r2⟩ := HA.out j hlt
            have g0 := (hBW.cell (World.block_lt_of_cell? _ _ d0) (fun h => h)).trans d0
            have g1 := (hBW.cell (World.block_lt_of_cell? _ _ d1) (fun h => h)).trans d1
            have g2 := (hBW.cell (World.block_lt_of_cell? _ _ d2) (fun h => h)).trans d2
            have q2 := r2.k hBW
            have hb : (visEs (fvis z) (es.take j) ((fvis z) op num xs)).length + (nEs (eAt es j).kids + 1) ≤ 1000 := by
              have h1 := LBB.out j
              have h2 : nEs (es.drop j) = nE (eAt es j) + nEs (es.drop (j + 1)) := by rw [List.drop_eq_getElem_cons HJ.out, nEs, eAt_get HJ.out]
              have h3 := nE_eq (eAt es j)
              omega
            have hBs : B ≤ wr.heap.size := Nat.le_trans hB hK.size
            clear d0 d1 d2 r2
            go_wp2_with fail
            refine (IH.out j HJ.out _ _ _ _ _ _ _ _ B _ q2 hI.out hnc' hBs hb).mono ?_
            rintro e w2 ⟨a3, n3, c3, rfl, hn3, i3, p3⟩
            have I3 : Hid (IntsL w2 (fun q => B ≤ q) a3 n3 (visEs (fvis z) (es.take (j + 1)) ((fvis z) op num xs))) := by
              show IntsL _ _ _ _ _
              rw [visEs_take (fvis z) es HJ.out]
              have e : eAt es j = .mk (eAt es j).op (eAt es j).num (eAt es j).kids := by cases eAt es j; rfl
              rw [e]; exact i3
            have hR2 := Lib.hid (row_ext hR.out p3 (fun h => h))
            clear i3 x2 g0 g1 g2
            go_wp2_with fail
            go_roundw
            case rel => exact ⟨j + 1, a3, n3, c3, by omega, by go_num, rfl, hn3, I3, hR2, hBW.trans p3, hK.trans p3⟩
            case measure => simp [intOf]; omega
          · have HJ : Hid (es.length ≤ j) := by have := HL.out; show _ ≤ _; omega
            go_wp2_with fail
            refine fin_ hQ ⟨a', n', c', rfl, hnc', ?_, hK⟩
            rw [visE]
            have h := hI.out
            rw [List.take_of_length_le HJ.out] at h
            exact h
      · have V : Hid (fvis z op num xs = xs) := by show _ = _; rw [fvis, show isFree z op num = false from by rw [isFree]; simp only [Bool.and_eq_false_iff, decide_eq_false_iff_not]; omega]; rfl
        have h1' : (op == 12) = true := by simpa using h1
        clear h1
        go_enter Try.func74, Try.ntmps74
        have KW := K0
        have RW := R0
        have BW : Keep (w.alloc (.cells #[.int .i64 op, .int .i64 num, .slice a n c] 25)) (w.alloc (.cells #[.int .i64 op, .int .i64 num, .slice a n c] 25)) := Ext.refl _ _
        have x2 := RW.cell (i := 2) (by simp)
        simp at x2
        go_wp2_with fail
        go_loopw [2, 7] (fun lv iv wr => ∃ (j : Nat) (a' : Option Addr) (n' c' : Nat), j ≤ n ∧ iv = .int .i64 j ∧ lv = .slice a' n' c' ∧ n' ≤ c' ∧ Hid (IntsL wr (fun q => B ≤ q) a' n' (visEs (fvis z) (es.take j) ((fvis z) op num xs))) ∧ Hid (wr.rowIs w.heap.size 25 3 (fun i => (#[.int .i64 op, .int .i64 num, .slice a n c] : Array Value).getD i undef)) ∧ Keep (w.alloc (.cells #[.int .i64 op, .int .i64 num, .slice a n c] 25)) wr ∧ Keep w wr) (fun _ iv _ => n - (intOf iv).toNat)
        case atStart => exact ⟨0, al, nl, cl, Nat.zero_le _, rfl, rfl, hlc, by show IntsL _ _ _ _ _; rw [List.take_zero, visEs, V.out]; exact HI.out, RW, BW, KW⟩
        case round =>
          obtain ⟨j, a', n', c', hj, rfl, rfl, hnc', hI, hR, hBW, hK⟩ := hrel
          have x2 := hR.out.cell (i := 2) (by simp)
          simp at x2
          by_cases hlt : j < n
          · have HJ : Hid (j < es.length) := by have := HL.out; show _ < _; omega
            obtain ⟨b, o, rfl, hd, a2, n2, c2, d0, d1, d2, r2⟩ := HA.out j hlt
            have g0 := (hBW.cell (World.block_lt_of_cell? _ _ d0) (fun h => h)).trans d0
            have g1 := (hBW.cell (World.block_lt_of_cell? _ _ d1) (fun h => h)).trans d1
            have g2 := (hBW.cell (World.block_lt_of_cell? _ _ d2) (fun h => h)).trans d2
            have q2 := r2.k hBW
            have hb : (visEs (fvis z) (es.take j) ((fvis z) op num xs)).length + (nEs (eAt es j).kids + 1) ≤ 1000 := by
              have h1 := LBB.out j
              have h2 : nEs (es.drop j) = nE (eAt es j) + nEs (es.drop (j + 1)) := by rw [List.drop_eq_getElem_cons HJ.out, nEs, eAt_get HJ.out]
              have h3 := nE_eq (eAt es j)
              omega
            have hBs : B ≤ wr.heap.size := Nat.le_trans hB hK.size
            clear d0 d1 d2 r2
            go_wp2_with fail
            refine (IH.out j HJ.out _ _ _ _ _ _ _ _ B _ q2 hI.out hnc' hBs hb).mono ?_
            rintro e w2 ⟨a3, n3, c3, rfl, hn3, i3, p3⟩
            have I3 : Hid (IntsL w2 (fun q => B ≤ q) a3 n3 (visEs (fvis z) (es.take (j + 1)) ((fvis z) op num xs))) := by
              show IntsL _ _ _ _ _
              rw [visEs_take (fvis z) es HJ.out]
              have e : eAt es j = .mk (eAt es j).op (eAt es j).num (eAt es j).kids := by cases eAt es j; rfl
              rw [e]; exact i3
            have hR2 := Lib.hid (row_ext hR.out p3 (fun h => h))
            clear i3 x2 g0 g1 g2
            go_wp2_with fail
            go_roundw
            case rel => exact ⟨j + 1, a3, n3, c3, by omega, by go_num, rfl, hn3, I3, hR2, hBW.trans p3, hK.trans p3⟩
            case measure => simp [intOf]; omega
          · have HJ : Hid (es.length ≤ j) := by have := HL.out; show _ ≤ _; omega
            go_wp2_with fail
            refine fin_ hQ ⟨a', n', c', rfl, hnc', ?_, hK⟩
            rw [visE]
            have h := hI.out
            rw [List.take_of_length_le HJ.out] at h
            exact h
    · have V : Hid (fvis z op num xs = xs) := by show _ = _; rw [fvis, show isFree z op num = false from by rw [isFree]; simp only [Bool.and_eq_false_iff, decide_eq_false_iff_not]; omega]; rfl
      have h1' : (op == 12) = true := by simpa using h1
      clear h1
      go_enter Try.func74, Try.ntmps74
      have KW := K0
      have RW := R0
      have BW : Keep (w.alloc (.cells #[.int .i64 op, .int .i64 num, .slice a n c] 25)) (w.alloc (.cells #[.int .i64 op, .int .i64 num, .slice a n c] 25)) := Ext.refl _ _
      have x2 := RW.cell (i := 2) (by simp)
      simp at x2
      go_wp2_with fail
      go_loopw [2, 7] (fun lv iv wr => ∃ (j : Nat) (a' : Option Addr) (n' c' : Nat), j ≤ n ∧ iv = .int .i64 j ∧ lv = .slice a' n' c' ∧ n' ≤ c' ∧ Hid (IntsL wr (fun q => B ≤ q) a' n' (visEs (fvis z) (es.take j) ((fvis z) op num xs))) ∧ Hid (wr.rowIs w.heap.size 25 3 (fun i => (#[.int .i64 op, .int .i64 num, .slice a n c] : Array Value).getD i undef)) ∧ Keep (w.alloc (.cells #[.int .i64 op, .int .i64 num, .slice a n c] 25)) wr ∧ Keep w wr) (fun _ iv _ => n - (intOf iv).toNat)
      case atStart => exact ⟨0, al, nl, cl, Nat.zero_le _, rfl, rfl, hlc, by show IntsL _ _ _ _ _; rw [List.take_zero, visEs, V.out]; exact HI.out, RW, BW, KW⟩
      case round =>
        obtain ⟨j, a', n', c', hj, rfl, rfl, hnc', hI, hR, hBW, hK⟩ := hrel
        have x2 := hR.out.cell (i := 2) (by simp)
        simp at x2
        by_cases hlt : j < n
        · have HJ : Hid (j < es.length) := by have := HL.out; show _ < _; omega
          obtain ⟨b, o, rfl, hd, a2, n2, c2, d0, d1, d2, r2⟩ := HA.out j hlt
          have g0 := (hBW.cell (World.block_lt_of_cell? _ _ d0) (fun h => h)).trans d0
          have g1 := (hBW.cell (World.block_lt_of_cell? _ _ d1) (fun h => h)).trans d1
          have g2 := (hBW.cell (World.block_lt_of_cell? _ _ d2) (fun h => h)).trans d2
          have q2 := r2.k hBW
          have hb : (visEs (fvis z) (es.take j) ((fvis z) op num xs)).length + (nEs (eAt es j).kids + 1) ≤ 1000 := by
            have h1 := LBB.out j
            have h2 : nEs (es.drop j) = nE (eAt es j) + nEs (es.drop (j + 1)) := by rw [List.drop_eq_getElem_cons HJ.out, nEs, eAt_get HJ.out]
            have h3 := nE_eq (eAt es j)
            omega
          have hBs : B ≤ wr.heap.size := Nat.le_trans hB hK.size
          clear d0 d1 d2 r2
          go_wp2_with fail
          refine (IH.out j HJ.out _ _ _ _ _ _ _ _ B _ q2 hI.out hnc' hBs hb).mono ?_
          rintro e w2 ⟨a3, n3, c3, rfl, hn3, i3, p3⟩
          have I3 : Hid (IntsL w2 (fun q => B ≤ q) a3 n3 (visEs (fvis z) (es.take (j + 1)) ((fvis z) op num xs))) := by
            show IntsL _ _ _ _ _
            rw [visEs_take (fvis z) es HJ.out]
            have e : eAt es j = .mk (eAt es j).op (eAt es j).num (eAt es j).kids := by cases eAt es j; rfl
            rw [e]; exact i3
          have hR2 := Lib.hid (row_ext hR.out p3 (fun h => h))
          clear i3 x2 g0 g1 g2
          go_wp2_with fail
          go_roundw
          case rel => exact ⟨j + 1, a3, n3, c3, by omega, by go_num, rfl, hn3, I3, hR2, hBW.trans p3, hK.trans p3⟩
          case measure => simp [intOf]; omega
        · have HJ : Hid (es.length ≤ j) := by have := HL.out; show _ ≤ _; omega
          go_wp2_with fail
          refine fin_ hQ ⟨a', n', c', rfl, hnc', ?_, hK⟩
          rw [visE]
          have h := hI.out
          rw [List.take_of_length_le HJ.out] at h
          exact h
  · have V : Hid (fvis z op num xs = xs) := by show _ = _; rw [fvis, show isFree z op num = false from by rw [isFree]; simp only [Bool.and_eq_false_iff, decide_eq_false_iff_not]; omega]; rfl
    have h1' : (op == 12) = false := by simpa using h1
    clear h1
    go_enter Try.func74, Try.ntmps74
    have KW := K0
    have RW := R0
    have BW : Keep (w.alloc (.cells #[.int .i64 op, .int .i64 num, .slice a n c] 25)) (w.alloc (.cells #[.int .i64 op, .int .i64 num, .slice a n c] 25)) := Ext.refl _ _
    have x2 := RW.cell (i := 2) (by simp)
    simp at x2
    go_wp2_with fail
    go_loopw [2, 7] (fun lv iv wr => ∃ (j : Nat) (a' : Option Addr) (n' c' : Nat), j ≤ n ∧ iv = .int .i64 j ∧ lv = .slice a' n' c' ∧ n' ≤ c' ∧ Hid (IntsL wr (fun q => B ≤ q) a' n' (visEs (fvis z) (es.take j) ((fvis z) op num xs))) ∧ Hid (wr.rowIs w.heap.size 25 3 (fun i => (#[.int .i64 op, .int .i64 num, .slice a n c] : Array Value).getD i undef)) ∧ Keep (w.alloc (.cells #[.int .i64 op, .int .i64 num, .slice a n c] 25)) wr ∧ Keep w wr) (fun _ iv _ => n - (intOf iv).toNat)
    case atStart => exact ⟨0, al, nl, cl, Nat.zero_le _, rfl, rfl, hlc, by show IntsL _ _ _ _ _; rw [List.take_zero, visEs, V.out]; exact HI.out, RW, BW, KW⟩
    case round =>
      obtain ⟨j, a', n', c', hj, rfl, rfl, hnc', hI, hR, hBW, hK⟩ := hrel
      have x2 := hR.out.cell (i := 2) (by simp)
      simp at x2
      by_cases hlt : j < n
      · have HJ : Hid (j < es.length) := by have := HL.out; show _ < _; omega
        obtain ⟨b, o, rfl, hd, a2, n2, c2, d0, d1, d2, r2⟩ := HA.out j hlt
        have g0 := (hBW.cell (World.block_lt_of_cell? _ _ d0) (fun h => h)).trans d0
        have g1 := (hBW.cell (World.block_lt_of_cell? _ _ d1) (fun h => h)).trans d1
        have g2 := (hBW.cell (World.block_lt_of_cell? _ _ d2) (fun h => h)).trans d2
        have q2 := r2.k hBW
        have hb : (visEs (fvis z) (es.take j) ((fvis z) op num xs)).length + (nEs (eAt es j).kids + 1) ≤ 1000 := by
          have h1 := LBB.out j
          have h2 : nEs (es.drop j) = nE (eAt es j) + nEs (es.drop (j + 1)) := by rw [List.drop_eq_getElem_cons HJ.out, nEs, eAt_get HJ.out]
          have h3 := nE_eq (eAt es j)
          omega
        have hBs : B ≤ wr.heap.size := Nat.le_trans hB hK.size
        clear d0 d1 d2 r2
        go_wp2_with fail
        refine (IH.out j HJ.out _ _ _ _ _ _ _ _ B _ q2 hI.out hnc' hBs hb).mono ?_
        rintro e w2 ⟨a3, n3, c3, rfl, hn3, i3, p3⟩
        have I3 : Hid (IntsL w2 (fun q => B ≤ q) a3 n3 (visEs (fvis z) (es.take (j + 1)) ((fvis z) op num xs))) := by
          show IntsL _ _ _ _ _
          rw [visEs_take (fvis z) es HJ.out]
          have e : eAt es j = .mk (eAt es j).op (eAt es j).num (eAt es j).kids := by cases eAt es j; rfl
          rw [e]; exact i3
        have hR2 := Lib.hid (row_ext hR.out p3 (fun h => h))
        clear i3 x2 g0 g1 g2
        go_wp2_with fail
        go_roundw
        case rel => exact ⟨j + 1, a3, n3, c3, by omega, by go_num, rfl, hn3, I3, hR2, hBW.trans p3, hK.trans p3⟩
        case measure => simp [intOf]; omega
      · have HJ : Hid (es.length ≤ j) := by have := HL.out; show _ ≤ _; omega
        go_wp2_with fail
        refine fin_ hQ ⟨a', n', c', rfl, hnc', ?_, hK⟩
        rw [visE]
        have h := hI.out
        rw [List.take_of_length_le HJ.out] at h
        exact h
end Go.Proofs.Ytomgellcpjimjaa
/- The closure of FreeOf of the program: what is free goes to the end of a list. -/
namespace Go.Proofs.Ytomgellcpjimjaa
open Go.RowKit

/-- The blocks that the visits change: that of the captured list, and the list's own row. -/
def FrM (q : Nat) (w : World) (r : Nat) : Prop := r = q ∨ ∃ v, w.cell? ⟨q, 0, none⟩ = some v ∧ v.ownBlock = some r
/-- What the visits keep. -/
def FrInv (z : Int) (p q : Nat) (k : Nat) (s : List Int) (w : World) : Prop :=
  w.rowIs p 3 1 (fun _ => .int .i64 z) ∧ (∃ v, w.rowIs q 45 1 (fun _ => v) ∧ w.ownsRow (q + 1) 3 1 v s.length (s.map (Value.int .i64))) ∧ p < q ∧ s.length ≤ k
theorem ownsRow_keep {w w' : World} {base : Nat} {e : TypeId} {size : Nat} {v : Value} {n : Nat} {xs : List Value} {S : Nat → Prop} (h : w.ownsRow base e size v n xs) (hk : Ext S w w') (hs : ∀ g, v.ownBlock = some g → ¬ S g) : w'.ownsRow base e size v n xs := by
  obtain ⟨h1, h2⟩ := h
  refine ⟨h1, ?_⟩
  rcases h2 with h2 | ⟨g, cap, cur, e, hb, hg, rest⟩
  · exact .inl h2
  · exact .inr ⟨g, cap, cur, e, hb, (hk.block g (Array.getElem?_eq_some_iff.1 hg).1 (hs g (by rw [e]; rfl))).trans hg, rest⟩
theorem FrInv.keep {z : Int} {p q k : Nat} {s : List Int} {w w' : World} (h : FrInv z p q k s w) (hk : Keep w w') : FrInv z p q k s w' ∧ ∀ r, FrM q w' r → FrM q w r := by
  obtain ⟨h1, ⟨v, h2, h3⟩, h4, h5⟩ := h
  have r2 := row_ext h2 hk (fun h => h)
  refine ⟨⟨row_ext h1 hk (fun h => h), ⟨v, r2, ownsRow_keep h3 hk (fun _ _ h => h)⟩, h4, h5⟩, fun r hr => ?_⟩
  rcases hr with hr | ⟨u, hu, hr⟩
  · exact .inl hr
  · rw [r2.cell (i := 0) (by omega)] at hu
    injection hu with hu
    subst hu
    exact .inr ⟨_, h2.cell (by omega), hr⟩
theorem FrInv.lt {z : Int} {p q k : Nat} {s : List Int} {w : World} (h : FrInv z p q k s w) : ∀ r, FrM q w r → q ≤ r ∧ r < w.heap.size := by
  obtain ⟨_, ⟨v, h2, h3⟩, _, _⟩ := h
  intro r hr
  rcases hr with rfl | ⟨u, hu, hr⟩
  · exact ⟨Nat.le_refl _, h2.lt⟩
  · rw [h2.cell (i := 0) (by omega)] at hu
    injection hu with hu
    subst hu
    have := h3.lt r hr
    exact ⟨by omega, this.2⟩

/-- An integer behind a row of integers of the call's own; the row that comes of it is the old one or new. -/
theorem wpList_appInt2 (w : World) {ops : Array Oper} {rest : List Oper} {o : Oper} {a : Act} {Q : Exit → Act → World → Prop} (hgd : o.guard = none) (s x : Operand)
    (ho : o.op = .call { callee := .builtin .append, args := #[s, x], argTypes := #[45, 45] })
    (base : Nat) (v : Value) (n : Nat) (xs : List Int) (hs : a.eval s = v) (hown : w.ownsRow base 3 1 v n (xs.map (Value.int .i64)))
    (g c : Nat) (y : Int) (hx : a.eval x = .slice (some ⟨g, 0, none⟩) 1 c) (hc : w.cell? ⟨g, 0, none⟩ = some (.int .i64 y)) (hn : n ≤ 1099511627776) (hbase : base ≤ w.heap.size)
    (h : ∀ v' w', w'.ownsRow base 3 1 v' (n + 1) ((xs ++ [y]).map (Value.int .i64)) → w.grownBy w' v.ownBlock → (v'.ownBlock = v.ownBlock ∨ v'.ownBlock = some w.heap.size) → wpList Try.prog ops Q rest (a.put o.dst v') w') : wpList Try.prog ops Q (o :: rest) a w := by
  refine wpList_app w hgd s x 45 ho base 3 (.int .i64 0) 1 8 Try.underlying45 (by kernel_rfl) rfl (by omega) v n _ hs hown (some ⟨g, 0, none⟩) 1 c [.int .i64 y] hx ⟨rfl, fun _ => ⟨g, 0, rfl, fun j u hj => ?_⟩⟩ (by simp [Value.oneCell']) (by omega) (by omega) hbase
    (fun v' w' h1 h2 h3 => h v' w' (by simpa using h1) h2 h3)
  rcases j with _ | j
  · simp at hj; subst hj; simpa using hc
  · simp at hj

set_option maxHeartbeats 1000000 in
theorem freeClos (z : Int) (p q k : Nat) (s : List Int) (op num : Int) (a : Option Addr) (n c : Nat) (w : World) (hk : k < 30) (h : FrInv z p q k s w) :
    Calls Try.prog 71 #[.agg #[.int .i64 op, .int .i64 num, .slice a n c], .pointer (some ⟨p, 0, none⟩), .pointer (some ⟨q, 0, none⟩)] w fun e w' => e = .returned (.tuple #[]) ∧ FrInv z p q (k + 1) (gvis z op num s) w' ∧ StM (FrM q) w w' := by
  refine calls_k fun Q hQ => ?_
  have K0 := Keep.al w (.cells #[.int .i64 op, .int .i64 num, .slice a n c] 25)
  have hp := h.1.lt
  have hq0 : q < w.heap.size := by obtain ⟨_, ⟨v, h2, _⟩, _⟩ := h; exact h2.lt
  have same : Hid (gvis z op num s = s → FrInv z p q (k + 1) (gvis z op num s) (w.alloc (.cells #[.int .i64 op, .int .i64 num, .slice a n c] 25)) ∧ StM (FrM q) w (w.alloc (.cells #[.int .i64 op, .int .i64 num, .slice a n c] 25))) := by
    show _ → _
    intro e
    rw [e]
    obtain ⟨⟨i1, i2, i3, i4⟩, i5⟩ := h.keep K0
    exact ⟨⟨i1, i2, i3, by omega⟩, ⟨Keep.to K0, fun r _ hr => i5 r hr⟩⟩
  have H0 := Lib.hid h
  obtain ⟨h1, ⟨v, h2, h3⟩, h4, h5⟩ := h
  have vp := h1.cell (i := 0) (by omega)
  obtain ⟨av, cv, rfl, hle, _⟩ := own_of_row h3
  have vq := h2.cell (i := 0) (by omega)
  have fq := h2.frozen 0
  have H2 := Lib.hid h2
  have H3 := Lib.hid h3
  have H1 := Lib.hid h1
  clear h1 h2 h3
  by_cases c1 : op = 12
  · have c1' : (op == 12) = true := by simpa using c1
    by_cases c2 : 0 ≤ num
    · by_cases c3 : num < z
      · have V : Hid (gvis z op num s = s ++ [num]) := by show _ = _; rw [gvis, show isFree z op num = true from by rw [isFree]; simp; omega]; rfl
        clear c1 same
        have KB := Lib.hid (K0.trans (Keep.al (w.alloc (.cells #[.int .i64 op, .int .i64 num, .slice a n c] 25)) (.cells #[.int .i64 num] 3)))
        have HN : Hid (∀ r, (Value.slice av s.length cv).ownBlock = some r → q + 1 ≤ r ∧ r < w.heap.size) := fun r hr => H3.out.lt r hr
        go_enter Try.func71, Try.ntmps71
        go_wp2_with (at_builtin; refine wpList_appInt2 _ rfl (.tmp 18) (.tmp 21) rfl (q + 1) (.slice av s.length cv) s.length s rfl ((H3.out.alloc _).alloc _) (w.heap.size + 1) 1 num rfl (by simp [go_sem]) (by omega) (by simp; omega) ?_; intro v' w' ho hg hv; have HVV := Lib.hid hv; clear hv; have X := (Ext.refl (fun r => (Value.slice av s.length cv).ownBlock = some r) _).grown hg (fun r hr => .inr hr); have R2 := row_ext (row_ext H2.out KB.out (fun h => h)) X (fun hr => by have := (HN.out _ hr).1; omega); have y2 := R2.cell (i := 0) (by omega); have f2 := R2.frozen 0; obtain ⟨a3, c3, rfl, hc3, _⟩ := own_of_row ho; have HO := Lib.hid ho; have HX := Lib.hid X; have HR2 := Lib.hid R2; clear ho hg X R2)
        have V' := V.out
        have X2 : Ext (fun r => r = q) w' (w'.setCell ⟨q, 0, none⟩ (.slice a3 (s.length + 1) c3)) := (Ext.refl (fun r => r = q) w').setCell (p := ⟨q, 0, none⟩) (.inr rfl) _
        have XA : Ext (FrM q w) w (w'.setCell ⟨q, 0, none⟩ (.slice a3 (s.length + 1) c3)) := ((Keep.to KB.out).trans (HX.out.mono (fun r _ hr => .inr ⟨_, vq, hr⟩))).trans (X2.mono (fun r _ hr => .inl hr))
        have R5 := (HR2.out.set 0 (.slice a3 (s.length + 1) c3)).congr (g := fun _ => .slice a3 (s.length + 1) c3) (fun i hi => by rw [if_pos (by omega)])
        refine bodyPost_end (v := .tuple #[]) (by simp [results, Try.results71, go_sem]) rfl (fin_ hQ ⟨rfl, ?_, ⟨XA, ?_⟩⟩)
        · rw [V']
          refine ⟨row_ext (row_ext (row_ext H1.out KB.out (fun h => h)) HX.out (fun hr => by have := (HN.out _ hr).1; omega)) X2 (by omega), ⟨_, R5, ?_⟩, h4, by simp; omega⟩
          rw [List.length_append]
          exact ownsRow_keep HO.out X2 (fun g hg e => by have := (HO.out.lt g hg).1; omega)
        · intro r hr hm
          rcases hm with hm | ⟨u, hu, hm⟩
          · exact .inl hm
          · rw [R5.cell (i := 0) (by omega)] at hu
            injection hu with hu
            subst hu
            rcases HVV.out with e | e
            · exact .inr ⟨_, vq, by rw [← e]; exact hm⟩
            · rw [hm] at e
              injection e with e
              simp at e
              omega
      · have V : Hid (gvis z op num s = s) := by show _ = _; rw [gvis, show isFree z op num = false from by rw [isFree]; simp only [Bool.and_eq_false_iff, decide_eq_false_iff_not]; omega]; rfl
        clear c1
        go_enter Try.func71, Try.ntmps71
        go_wp2
        refine bodyPost_end (v := .tuple #[]) (by simp [results, Try.results71, go_sem]) rfl (fin_ hQ ⟨rfl, same.out V.out⟩)
    · have V : Hid (gvis z op num s = s) := by show _ = _; rw [gvis, show isFree z op num = false from by rw [isFree]; simp only [Bool.and_eq_false_iff, decide_eq_false_iff_not]; omega]; rfl
      clear c1
      go_enter Try.func71, Try.ntmps71
      go_wp2
      refine bodyPost_end (v := .tuple #[]) (by simp [results, Try.results71, go_sem]) rfl (fin_ hQ ⟨rfl, same.out V.out⟩)
  · have V : Hid (gvis z op num s = s) := by show _ = _; rw [gvis, show isFree z op num = false from by rw [isFree]; simp only [Bool.and_eq_false_iff, decide_eq_false_iff_not]; omega]; rfl
    have c1' : (op == 12) = false := by simpa using c1
    clear c1
    go_enter Try.func71, Try.ntmps71
    go_wp2
    refine bodyPost_end (v := .tuple #[]) (by simp [results, Try.results71, go_sem]) rfl (fin_ hQ ⟨rfl, same.out V.out⟩)
end Go.Proofs.Ytomgellcpjimjaa
/- slices.Sort and slices.Compact over a row of integers of the call's own. -/
namespace Go.Proofs.Ytomgellcpjimjaa
open Go.RowKit Go.Sort

theorem rowPut {w : World} {g : Nat} {T : TypeId} {cur : Array Value} (hg : w.heap[g]? = some (.cells cur T (0, 0))) (k : Nat) (d : Array Int) (os : Array Obj) (hd : d.size ≤ cur.size) :
    Ext (fun r => r = g) w (grow (putRow (Value.int .i64) (Sort.ahead w k) g 0 d) os) ∧
      ∃ cur', (grow (putRow (Value.int .i64) (Sort.ahead w k) g 0 d) os).heap[g]? = some (.cells cur' T (0, 0)) ∧ cur'.size = cur.size ∧ cur'.toList.take d.size = d.toList.map (Value.int .i64) := by
  have hlt : g < w.heap.size := (Array.getElem?_eq_some_iff.1 hg).1
  have hh : (grow (putRow (Value.int .i64) (Sort.ahead w k) g 0 d) os).heap = w.heap.modify g (onCells (putCells (Value.int .i64) 0 d)) ++ os := rfl
  refine ⟨⟨rfl, rfl, rfl, ?_, fun r hr hne => ?_⟩, putCells (Value.int .i64) 0 d cur, ?_, ?_, ?_⟩
  · rw [hh]; simp
  · rw [hh, Array.getElem?_append_left (by simpa using hr), Array.getElem?_modify, if_neg (fun e => hne e.symm)]
  · rw [hh, Array.getElem?_append_left (by simpa using hlt), Array.getElem?_modify, if_pos rfl, hg]; rfl
  · simp [putCells]
  · apply List.ext_getElem?
    intro i
    rw [List.getElem?_take, List.getElem?_map, Array.getElem?_toList, Array.getElem?_toList]
    by_cases hi : i < d.size
    · rw [if_pos hi]
      have hi2 : i < cur.size := by omega
      simp only [putCells, Array.getElem?_mapIdx, Array.getElem?_eq_getElem hi2, Option.map_some]
      rw [if_pos ⟨Nat.zero_le _, by omega⟩, Nat.sub_zero, Array.getElem?_eq_getElem hi, getElem!_pos d i hi]
      rfl
    · rw [if_neg hi, Array.getElem?_eq_none (by omega)]; rfl

theorem unfrozen_row {w : World} {g : Nat} {T : TypeId} {cur : Array Value} (hg : w.heap[g]? = some (.cells cur T (0, 0))) (j : Nat) : w.frozen? ⟨g, j, none⟩ = false :=
  frozen_of_row _ _ _ _ _ hg

theorem sortOwn (base : Nat) (v : Value) (n : Nat) (xs : List Int) (w : World) (h : w.ownsRow base 3 1 v n (xs.map (Value.int .i64))) (hn : n ≤ 1000000) :
    Calls Try.prog 72 #[v] w fun e w' => e = .returned (.tuple #[]) ∧ w'.ownsRow base 3 1 v n ((xs.mergeSort fun x y => decide (x ≤ y)).map (Value.int .i64)) ∧ Ext (fun r => v.ownBlock = some r) w w' := by
  have hl : xs.length = n := by simpa using h.1
  rcases h.2 with ⟨rfl, rfl⟩ | ⟨g, cap, cur, rfl, hb, hg, hnc, hcm, hsz, htake⟩
  · have : xs = [] := List.eq_nil_of_length_eq_zero hl
    subst this
    refine (Try.slices_Sort_int_none none 0 w).mono ?_
    rintro e w' ⟨rfl, rfl⟩
    exact ⟨rfl, by simpa using h, Ext.refl _ _⟩
  · subst hl
    have hlt : g < w.heap.size := (Array.getElem?_eq_some_iff.1 hg).1
    rw [Nat.mul_one] at hsz htake
    have hH : Holds (Value.int .i64) w g 0 xs.toArray := by
      intro j hj
      have hj' : j < xs.length := by simpa using hj
      refine ⟨?_, unfrozen_row hg (0 + j)⟩
      rw [Nat.zero_add, cell_of_row _ g j cur 3 (0, 0) hg]
      have h1 : (cur.toList.take xs.length)[j]? = (xs.map (Value.int .i64))[j]? := by rw [htake]
      rw [List.getElem?_take, if_pos hj', List.getElem?_map, Array.getElem?_toList] at h1
      rw [h1, List.getElem?_eq_getElem hj']
      simp [hj']
    refine (Try.slices_Sort_int g 0 cap xs w hH hlt (by omega)).mono ?_
    rintro e w' ⟨rfl, k, os, rfl⟩
    have hml : (xs.mergeSort fun x y => decide (x ≤ y)).length = xs.length := List.length_mergeSort _
    obtain ⟨hX, cur', hc1, hc2, hc3⟩ := rowPut hg k (xs.mergeSort fun x y => decide (x ≤ y)).toArray os (by simp [hml]; omega)
    refine ⟨rfl, ⟨by simp [hml], .inr ⟨g, cap, cur', rfl, hb, hc1, hnc, hcm, by omega, ?_⟩⟩, hX.mono (fun r _ hr => by rw [hr]; rfl)⟩
    rw [Nat.mul_one]
    simpa [hml] using hc3
theorem compact_len (zs : List Int) : (Lib.compact zs).length ≤ zs.length := by
  unfold Lib.compact Lib.compactUpTo
  rw [List.length_map]
  exact Nat.le_trans (List.length_filter_le _ _) (by simp)
theorem compactOwn (base : Nat) (a : Option Addr) (n c : Nat) (xs : List Int) (w : World) (h : w.ownsRow base 3 1 (.slice a n c) n (xs.map (Value.int .i64))) (hn : n ≤ 1000000) :
    Calls Try.prog 73 #[.slice a n c] w fun e w' => ∃ n', e = .returned (.slice a n' c) ∧ n' = (Lib.compact xs).length ∧ w'.ownsRow base 3 1 (.slice a n' c) n' ((Lib.compact xs).map (Value.int .i64)) ∧ Ext (fun r => (Value.slice a n c).ownBlock = some r) w w' := by
  have hl : xs.length = n := by simpa using h.1
  rcases h.2 with ⟨e, rfl⟩ | ⟨g, cap, cur, e, hb, hg, hnc, hcm, hsz, htake⟩
  · have : xs = [] := List.eq_nil_of_length_eq_zero hl
    subst this
    injection e with e1 e2 e3
    subst e1 e3
    refine (Try.slices_Compact_int_empty none 0 w).mono ?_
    rintro e w' ⟨rfl, rfl⟩
    exact ⟨0, rfl, rfl, by simpa [Lib.compact, Lib.compactUpTo] using h, Ext.refl _ _⟩
  · injection e with e1 e2 e3
    subst e1 e3 hl
    have hlt : g < w.heap.size := (Array.getElem?_eq_some_iff.1 hg).1
    rw [Nat.mul_one] at hsz htake
    have hH : Holds (Value.int .i64) w g 0 xs.toArray := by
      intro j hj
      have hj' : j < xs.length := by simpa using hj
      refine ⟨?_, unfrozen_row hg (0 + j)⟩
      rw [Nat.zero_add, cell_of_row _ g j cur 3 (0, 0) hg]
      have h1 : (cur.toList.take xs.length)[j]? = (xs.map (Value.int .i64))[j]? := by rw [htake]
      rw [List.getElem?_take, if_pos hj', List.getElem?_map, Array.getElem?_toList] at h1
      rw [h1, List.getElem?_eq_getElem hj']
      simp [hj']
    refine (Try.slices_Compact_int g 0 c xs w hH (by omega) hnc).mono ?_
    rintro e w' ⟨rfl, k, rfl⟩
    have hcl := compact_len xs
    obtain ⟨hX, cur', hc1, hc2, hc3⟩ := rowPut hg k (Lib.compact xs ++ List.replicate (xs.length - (Lib.compact xs).length) 0).toArray #[] (by simp; omega)
    rw [grow_empty] at hX hc1
    refine ⟨_, rfl, rfl, ⟨by simp, .inr ⟨g, c, cur', rfl, hb, hc1, by omega, hcm, by omega, ?_⟩⟩, hX.mono (fun r _ hr => by rw [hr]; rfl)⟩
    rw [Nat.mul_one]
    have h2 : (cur'.toList.take (Lib.compact xs ++ List.replicate (xs.length - (Lib.compact xs).length) (0 : Int)).toArray.size).take (Lib.compact xs).length = ((Lib.compact xs ++ List.replicate (xs.length - (Lib.compact xs).length) (0 : Int)).map (Value.int .i64)).take (Lib.compact xs).length := by rw [hc3]
    rw [List.take_take, Nat.min_eq_left (by simp)] at h2
    rw [h2, List.map_append, List.take_left' (by simp)]
end Go.Proofs.Ytomgellcpjimjaa
/- FreeOf: of the reference and of the program. -/
namespace Go.Proofs.Ytomgellcpjimjaa
open Go.RowKit

theorem freeL_no {z op num : Int} {es : List ExprL} (h : ¬ nEs es + 1 ≤ 30) : freeL z op num es = [] := if_neg h
theorem freeL_yes {z op num : Int} {es : List ExprL} (h : nEs es + 1 ≤ 30) : freeL z op num es = visE (fvis z) (.mk op num es) [] := if_pos h

set_option maxHeartbeats 1000000 in
theorem specFreeOf (z op num : Int) (es : List ExprL) (a : Option Addr) (n c : Nat) (D : Nat → Prop) (w : World) (h : Rd w D (encExprs es) (.slice a n c)) :
    Calls Try.prog 38 #[.agg #[.int .i64 op, .int .i64 num, .slice a n c], .int .i64 z] w fun e w' => ∃ a' n' c', e = .returned (.slice a' n' c') ∧ Rd w' (fun q => w.heap.size ≤ q) (encInts (freeL z op num es)) (.slice a' n' c') ∧ Keep w w' := by
  refine calls_k fun Q hQ => ?_
  have K0 := Keep.al w (.cells #[.int .i64 op, .int .i64 num, .slice a n c] 25)
  have R0 := rowOf w #[.int .i64 op, .int .i64 num, .slice a n c] 25
  have q0 := h.k K0
  by_cases hl : nEs es + 1 ≤ 30
  · have V := Lib.hid (nodesL_yes hl)
    have V2 := Lib.hid (freeL_yes (z := z) (op := op) (num := num) hl)
    have HL := Lib.hid hl
    have hnn : ¬ ((nEs es + 1 : Nat) : Int) < 0 := by omega
    generalize hm : nEs es + 1 = m at V hnn
    clear hm hl
    go_enter Try.func38, Try.ntmps38
    go_wp2_with fail
    refine (specNodesOf0 _ _ _ _ _ _ _ _ q0).mono ?_
    rw [V.out]
    rintro e w1 ⟨rfl, p1⟩
    have hz1 := p1.size
    simp at hz1
    have q1 := (q0.k p1).k (Keep.al w1 (.cells #[] 3))
    have RX := row_ext R0 p1 (fun h => h)
    have x0 := RX.cell (i := 0) (by simp)
    have x1 := RX.cell (i := 1) (by simp)
    have x2 := RX.cell (i := 2) (by simp)
    simp at x0 x1 x2
    have i0 : IntsL (w1.alloc (.cells #[] 3)) (fun q => w.heap.size ≤ q) (some ⟨w1.heap.size, 0, none⟩) 0 [] := ⟨rfl, fun h => absurd h (by omega)⟩
    have hB : w.heap.size ≤ (w1.alloc (.cells #[] 3)).heap.size := by simp; omega
    go_wp2_with fail
    refine (specAddFree_n z _ op num es (Nat.lt_succ_self _) _ _ _ _ _ 0 0 [] w.heap.size _ q1 i0 (Nat.le_refl _) hB (by have := HL.out; simp; omega)).mono ?_
    rintro e w2 ⟨a', n', c', rfl, hn', i2, p2⟩
    have I2 := Lib.hid i2
    clear i2 x0 x1 x2 RX
    go_wp2_with fail
    refine fin_ hQ ⟨a', n', c', rfl, ?_, ((K0.trans p1).trans (Keep.al _ _)).trans p2⟩
    rw [V2.out]
    have hlen := fvisE_len z (.mk op num es) []
    rw [nE] at hlen
    simp at hlen
    exact I2.out.toRd hn' (by have := I2.out.1; have := HL.out; omega)
  · have V := Lib.hid (nodesL_no hl)
    have V2 := Lib.hid (freeL_no (z := z) (op := op) (num := num) hl)
    clear hl
    go_enter Try.func38, Try.ntmps38
    go_wp2_with fail
    refine (specNodesOf0 _ _ _ _ _ _ _ _ q0).mono ?_
    rw [V.out]
    rintro e w1 ⟨rfl, p1⟩
    go_wp2_with fail
    exact fin_ hQ ⟨none, 0, 0, rfl, by rw [V2.out]; exact .nil 1 none 0, K0.trans p1⟩

set_option maxHeartbeats 2000000 in
theorem implFreeOf (z op num : Int) (es : List ExprL) (a : Option Addr) (n c : Nat) (D : Nat → Prop) (w : World) (h : Rd w D (encExprs es) (.slice a n c)) :
    Calls Try.prog 36 #[.agg #[.int .i64 op, .int .i64 num, .slice a n c], .int .i64 z] w fun e w' => ∃ a' n' c', e = .returned (.slice a' n' c') ∧ Own w' (fun q => w.heap.size ≤ q) (encInts (freeL z op num es)) (.slice a' n' c') ∧ Keep w w' := by
  refine calls_k fun Q hQ => ?_
  have K0 := (Keep.al w (.cells #[.int .i64 op, .int .i64 num, .slice a n c] 25)).trans (Keep.al _ (.cells #[.int .i64 z] 3))
  by_cases hl : nEs es + 1 ≤ 30
  · have V := Lib.hid (nodesL_yes hl)
    have HL := Lib.hid hl
    have hnn : ¬ ((nEs es + 1 : Nat) : Int) < 0 := by omega
    generalize hm : nEs es + 1 = m at V hnn
    clear hm hl
    have R0 := (rowOf w #[.int .i64 op, .int .i64 num, .slice a n c] 25).alloc (.cells #[.int .i64 z] 3)
    have R1 := rowOf (w.alloc (.cells #[.int .i64 op, .int .i64 num, .slice a n c] 25)) #[.int .i64 z] 3
    simp only [World.size_alloc] at R1
    have q0 := h.lt.k K0
    clear h
    go_enter Try.func36, Try.ntmps36
    go_wp2_with fail
    refine (implNodesOf _ _ _ _ _ _ _ _ q0).mono ?_
    rw [V.out]
    rintro e w1 ⟨rfl, p1⟩
    have sz := p1.size
    simp at sz
    have RX := (row_ext R0 p1 (fun h => h)).alloc (.cells #[.slice none 0 0] 45)
    have x0 := RX.cell (i := 0) (by simp)
    have x1 := RX.cell (i := 1) (by simp)
    have x2 := RX.cell (i := 2) (by simp)
    simp at x0 x1 x2
    have RZ := ((row_ext R1 p1 (fun h => h)).alloc (.cells #[.slice none 0 0] 45)).congr (g := fun _ => .int .i64 z) (fun i hi => by
      obtain rfl : i = 0 := by simpa using hi
      rfl)
    have RQ := (rowOf w1 #[.slice none 0 0] 45).congr (g := fun _ => .slice none 0 0) (fun i hi => by
      obtain rfl : i = 0 := by simpa using hi
      rfl)
    have I0 : FrInv z (w.heap.size + 1) w1.heap.size 0 [] (w1.alloc (.cells #[.slice none 0 0] 45)) := ⟨RZ, ⟨_, RQ, World.ownsRow_nil _ _ _ _⟩, by omega, Nat.le_refl _⟩
    have q2 := (q0.k p1).k (Keep.al w1 (.cells #[.slice none 0 0] 45))
    have KP := Lib.hid ((K0.trans p1).trans (Keep.al w1 (.cells #[.slice none 0 0] 45)))
    have ZP := KP.out.size
    have HFM := Lib.hid (I0.lt)
    clear R0 R1 RX RZ RQ
    go_wp2_with fail
    refine (walk_m (gvis z) 71 #[.pointer (some ⟨w.heap.size + 1, 0, none⟩), .pointer (some ⟨w1.heap.size, 0, none⟩)] (fun _ _ => True) (FrM w1.heap.size) (FrInv z (w.heap.size + 1) w1.heap.size) (fun args w => by kernel_rfl) (fun k s w w' h hk => h.keep hk) (fun k s w r h hm => (h.lt r hm).2)
      (fun k s op num a n c w hk _ h => freeClos z _ _ k s op num a n c w hk h) _ op num es (Nat.lt_succ_self _) trivial (allEs_true es) 0 [] _ _ _ _ _ q2 (fun q hq => ⟨by have := hq.2; omega, fun hm => by have h1 := (HFM.out _ hm).1; have := hq.2; omega⟩) (by have := HL.out; omega) I0).mono ?_
    rintro e w2 ⟨rfl, I2, X2⟩
    obtain ⟨_, ⟨v, hv, ho⟩, _, hsl⟩ := I2
    have hK2 : Keep w w2 := KP.out.then_ X2.ext (fun i hi hm => by have := (HFM.out _ hm).1; omega)
    obtain ⟨av, cv, rfl, hle, _⟩ := own_of_row ho
    have y0 := hv.cell (i := 0) (by omega)
    have HV := Lib.hid hv
    have HO := Lib.hid ho
    have hs30 : (visEs (gvis z) es (gvis z op num [])).length ≤ 30 := by have := HL.out; omega
    generalize hF : visEs (gvis z) es (gvis z op num []) = F at *
    have HF := Lib.hid hF
    have HBL := Lib.hid ho.lt
    clear hF ho hv x0 x1 x2
    go_wp2_with fail
    refine (sortOwn _ _ _ _ _ HO.out (by omega)).mono ?_
    rintro e w3 ⟨rfl, o3, X3⟩
    have y3 : w3.cell? ⟨w1.heap.size, 0, none⟩ = some (.slice av F.length cv) := (row_ext HV.out X3 (fun e => by have := (HBL.out _ e).1; omega)).cell (i := 0) (by omega)
    have hml : (F.mergeSort fun x y => decide (x ≤ y)).length = F.length := List.length_mergeSort _
    have O3 := Lib.hid o3
    clear o3
    go_wp2_with fail
    refine (compactOwn _ _ _ _ _ _ O3.out (by omega)).mono ?_
    rintro e w4 ⟨n', rfl, hn', o4, X4⟩
    have O4 := Lib.hid o4
    have HN := Lib.hid hn'
    clear o4 hn'
    go_wp2_with fail
    have hb := free_both z op num es HL.out (F.mergeSort fun x y => decide (x ≤ y)) (by
      have := List.pairwise_mergeSort (le := fun (x y : Int) => decide (x ≤ y)) (fun a b c h1 h2 => by simp at *; omega) (fun a b => by simp; omega) F
      exact this.imp (fun h => by simpa using h)) (fun x => by rw [List.mem_mergeSort, ← HF.out, visE])
    refine fin_ hQ ⟨av, n', cv, rfl, ?_, (hK2.then_ X3 (fun i hi e => by have := (HBL.out _ e).1; omega)).then_ X4 (fun i hi e => by have := (HBL.out _ e).1; omega)⟩
    obtain ⟨a5, c5, e5, h5, o5⟩ := own_of_row O4.out
    injection e5 with e5 _ e6
    subst e5 e6
    rw [hb] at o5
    refine (o5.toOwn h5 ?_).mono (fun k hk => by omega)
    have := compact_len (F.mergeSort fun x y => decide (x ≤ y))
    have := HN.out
    omega
  · have V := Lib.hid (nodesL_no hl)
    have V2 := Lib.hid (freeL_no (z := z) (op := op) (num := num) hl)
    clear hl
    go_enter Try.func36, Try.ntmps36
    go_wp2_with fail
    refine (implNodesOf _ _ _ _ _ _ _ _ (h.k K0)).mono ?_
    rw [V.out]
    rintro e w1 ⟨rfl, p1⟩
    go_wp2_with fail
    exact fin_ hQ ⟨none, 0, 0, rfl, by rw [V2.out]; exact .nil _ 1 none 0, K0.trans p1⟩
end Go.Proofs.Ytomgellcpjimjaa
