/- FreeOf: of the reference and of the program. -/
import Derived.Test.YtpebcclabaennaaFreeOf1
import Derived.Test.YtpebcclabaennaaSortRow
import Derived.Test.YtpebcclabaennaaAddFree
import Derived.Test.YtpebcclabaennaaNodes
namespace Go.Proofs.Ytpebcclabaennaa
open Go.RowKit

theorem freeL_no {z op num : Int} {es : List ExprL} (h : ¬ nEs es + 1 ≤ 30) : freeL z op num es = [] := if_neg h
theorem freeL_yes {z op num : Int} {es : List ExprL} (h : nEs es + 1 ≤ 30) : freeL z op num es = visE (fvis z) (.mk op num es) [] := if_pos h

set_option maxHeartbeats 1000000 in
theorem specFreeOf (z op num : Int) (es : List ExprL) (a : Option Addr) (n c : Nat) (D : Nat → Prop) (w : World) (h : Rd w D (encExprs es) (.slice a n c)) :
    Calls Try.prog 37 #[.agg #[.int .i64 op, .int .i64 num, .slice a n c], .int .i64 z] w fun e w' => ∃ a' n' c', e = .returned (.slice a' n' c') ∧ Rd w' (fun q => w.heap.size ≤ q) (encInts (freeL z op num es)) (.slice a' n' c') ∧ Keep w w' := by
  refine calls_k fun Q hQ => ?_
  have K0 := Keep.al w (.cells #[.int .i64 op, .int .i64 num, .slice a n c] 29)
  have R0 := rowOf w #[.int .i64 op, .int .i64 num, .slice a n c] 29
  have q0 := h.k K0
  by_cases hl : nEs es + 1 ≤ 30
  · have V := Lib.hid (nodesL_yes hl)
    have V2 := Lib.hid (freeL_yes (z := z) (op := op) (num := num) hl)
    have HL := Lib.hid hl
    have hnn : ¬ ((nEs es + 1 : Nat) : Int) < 0 := by omega
    generalize hm : nEs es + 1 = m at V hnn
    clear hm hl
    go_enter Try.func37, Try.ntmps37
    go_wp2_with fail
    refine (specNodesOf0 _ _ _ _ _ _ _ _ q0).mono ?_
    rw [V.out]
    rintro e w1 ⟨rfl, p1⟩
    have hz1 := p1.size
    simp at hz1
    have q1 := (q0.k p1).k (Keep.al w1 (.cells #[] 3))
    have RX := row_ext R0 p1 (fun h => h)
    have x0 := RX.cell (i := 0) (by simp)
    have x1 := RX.cell (i := 1) (by simp)
    have x2 := RX.cell (i := 2) (by simp)
    simp at x0 x1 x2
    have i0 : IntsL (w1.alloc (.cells #[] 3)) (fun q => w.heap.size ≤ q) (some ⟨w1.heap.size, 0, none⟩) 0 [] := ⟨rfl, fun h => absurd h (by omega)⟩
    have hB : w.heap.size ≤ (w1.alloc (.cells #[] 3)).heap.size := by simp; omega
    go_wp2_with fail
    refine (specAddFree_n z _ op num es (Nat.lt_succ_self _) _ _ _ _ _ 0 0 [] w.heap.size _ q1 i0 (Nat.le_refl _) hB (by have := HL.out; simp; omega)).mono ?_
    rintro e w2 ⟨a', n', c', rfl, hn', i2, p2⟩
    have I2 := Lib.hid i2
    clear i2 x0 x1 x2 RX
    go_wp2_with fail
    refine fin_ hQ ⟨a', n', c', rfl, ?_, ((K0.trans p1).trans (Keep.al _ _)).trans p2⟩
    rw [V2.out]
    have hlen := fvisE_len z (.mk op num es) []
    rw [nE] at hlen
    simp at hlen
    exact I2.out.toRd hn' (by have := I2.out.1; have := HL.out; omega)
  · have V := Lib.hid (nodesL_no hl)
    have V2 := Lib.hid (freeL_no (z := z) (op := op) (num := num) hl)
    clear hl
    go_enter Try.func37, Try.ntmps37
    go_wp2_with fail
    refine (specNodesOf0 _ _ _ _ _ _ _ _ q0).mono ?_
    rw [V.out]
    rintro e w1 ⟨rfl, p1⟩
    go_wp2_with fail
    exact fin_ hQ ⟨none, 0, 0, rfl, by rw [V2.out]; exact .nil 1 none 0, K0.trans p1⟩

set_option maxHeartbeats 2000000 in
theorem implFreeOf (z op num : Int) (es : List ExprL) (a : Option Addr) (n c : Nat) (D : Nat → Prop) (w : World) (h : Rd w D (encExprs es) (.slice a n c)) :
    Calls Try.prog 38 #[.agg #[.int .i64 op, .int .i64 num, .slice a n c], .int .i64 z] w fun e w' => ∃ a' n' c', e = .returned (.slice a' n' c') ∧ Own w' (fun q => w.heap.size ≤ q) (encInts (freeL z op num es)) (.slice a' n' c') ∧ Keep w w' := by
  refine calls_k fun Q hQ => ?_
  have K0 := (Keep.al w (.cells #[.int .i64 op, .int .i64 num, .slice a n c] 29)).trans (Keep.al _ (.cells #[.int .i64 z] 3))
  by_cases hl : nEs es + 1 ≤ 30
  · have V := Lib.hid (nodesL_yes hl)
    have HL := Lib.hid hl
    have hnn : ¬ ((nEs es + 1 : Nat) : Int) < 0 := by omega
    generalize hm : nEs es + 1 = m at V hnn
    clear hm hl
    have R0 := (rowOf w #[.int .i64 op, .int .i64 num, .slice a n c] 29).alloc (.cells #[.int .i64 z] 3)
    have R1 := rowOf (w.alloc (.cells #[.int .i64 op, .int .i64 num, .slice a n c] 29)) #[.int .i64 z] 3
    simp only [World.size_alloc] at R1
    have q0 := h.lt.k K0
    clear h
    go_enter Try.func38, Try.ntmps38
    go_wp2_with fail
    refine (implNodesOf _ _ _ _ _ _ _ _ q0).mono ?_
    rw [V.out]
    rintro e w1 ⟨rfl, p1⟩
    have sz := p1.size
    simp at sz
    have RX := (row_ext R0 p1 (fun h => h)).alloc (.cells #[.slice none 0 0] 62)
    have x0 := RX.cell (i := 0) (by simp)
    have x1 := RX.cell (i := 1) (by simp)
    have x2 := RX.cell (i := 2) (by simp)
    simp at x0 x1 x2
    have RZ := ((row_ext R1 p1 (fun h => h)).alloc (.cells #[.slice none 0 0] 62)).congr (g := fun _ => .int .i64 z) (fun i hi => by
      obtain rfl : i = 0 := by simpa using hi
      rfl)
    have RQ := (rowOf w1 #[.slice none 0 0] 62).congr (g := fun _ => .slice none 0 0) (fun i hi => by
      obtain rfl : i = 0 := by simpa using hi
      rfl)
    have I0 : FrInv z (w.heap.size + 1) w1.heap.size 0 [] (w1.alloc (.cells #[.slice none 0 0] 62)) := ⟨RZ, ⟨_, RQ, World.ownsRow_nil _ _ _ _⟩, by omega, Nat.le_refl _⟩
    have q2 := (q0.k p1).k (Keep.al w1 (.cells #[.slice none 0 0] 62))
    have KP := Lib.hid ((K0.trans p1).trans (Keep.al w1 (.cells #[.slice none 0 0] 62)))
    have ZP := KP.out.size
    have HFM := Lib.hid (I0.lt)
    clear R0 R1 RX RZ RQ
    go_wp2_with fail
    refine (walk_m (gvis z) 90 #[.pointer (some ⟨w.heap.size + 1, 0, none⟩), .pointer (some ⟨w1.heap.size, 0, none⟩)] (fun _ _ => True) (FrM w1.heap.size) (FrInv z (w.heap.size + 1) w1.heap.size) (fun args w => by kernel_rfl) (fun k s w w' h hk => h.keep hk) (fun k s w r h hm => (h.lt r hm).2)
      (fun k s op num a n c w hk _ h => freeClos z _ _ k s op num a n c w hk h) _ op num es (Nat.lt_succ_self _) trivial (allEs_true es) 0 [] _ _ _ _ _ q2 (fun q hq => ⟨by have := hq.2; omega, fun hm => by have h1 := (HFM.out _ hm).1; have := hq.2; omega⟩) (by have := HL.out; omega) I0).mono ?_
    rintro e w2 ⟨rfl, I2, X2⟩
    obtain ⟨_, ⟨v, hv, ho⟩, _, hsl⟩ := I2
    have hK2 : Keep w w2 := KP.out.then_ X2.ext (fun i hi hm => by have := (HFM.out _ hm).1; omega)
    obtain ⟨av, cv, rfl, hle, _⟩ := own_of_row ho
    have y0 := hv.cell (i := 0) (by omega)
    have HV := Lib.hid hv
    have HO := Lib.hid ho
    have hs30 : (visEs (gvis z) es (gvis z op num [])).length ≤ 30 := by have := HL.out; omega
    generalize hF : visEs (gvis z) es (gvis z op num []) = F at *
    have HF := Lib.hid hF
    have HBL := Lib.hid ho.lt
    clear hF ho hv x0 x1 x2
    go_wp2_with fail
    refine (sortOwn _ _ _ _ _ HO.out (by omega)).mono ?_
    rintro e w3 ⟨rfl, o3, X3⟩
    have y3 : w3.cell? ⟨w1.heap.size, 0, none⟩ = some (.slice av F.length cv) := (row_ext HV.out X3 (fun e => by have := (HBL.out _ e).1; omega)).cell (i := 0) (by omega)
    have hml : (F.mergeSort fun x y => decide (x ≤ y)).length = F.length := List.length_mergeSort _
    have O3 := Lib.hid o3
    clear o3
    go_wp2_with fail
    refine (compactOwn _ _ _ _ _ _ O3.out (by omega)).mono ?_
    rintro e w4 ⟨n', rfl, hn', o4, X4⟩
    have O4 := Lib.hid o4
    have HN := Lib.hid hn'
    clear o4 hn'
    go_wp2_with fail
    have hb := free_both z op num es HL.out (F.mergeSort fun x y => decide (x ≤ y)) (by
      have := List.pairwise_mergeSort (le := fun (x y : Int) => decide (x ≤ y)) (fun a b c h1 h2 => by simp at *; omega) (fun a b => by simp; omega) F
      exact this.imp (fun h => by simpa using h)) (fun x => by rw [List.mem_mergeSort, ← HF.out, visE])
    refine fin_ hQ ⟨av, n', cv, rfl, ?_, (hK2.then_ X3 (fun i hi e => by have := (HBL.out _ e).1; omega)).then_ X4 (fun i hi e => by have := (HBL.out _ e).1; omega)⟩
    obtain ⟨a5, c5, e5, h5, o5⟩ := own_of_row O4.out
    injection e5 with e5 _ e6
    subst e5 e6
    rw [hb] at o5
    refine (o5.toOwn h5 ?_).mono (fun k hk => by omega)
    have := compact_len (F.mergeSort fun x y => decide (x ≤ y))
    have := HN.out
    omega
  · have V := Lib.hid (nodesL_no hl)
    have V2 := Lib.hid (freeL_no (z := z) (op := op) (num := num) hl)
    clear hl
    go_enter Try.func38, Try.ntmps38
    go_wp2_with fail
    refine (implNodesOf _ _ _ _ _ _ _ _ (h.k K0)).mono ?_
    rw [V.out]
    rintro e w1 ⟨rfl, p1⟩
    go_wp2_with fail
    exact fin_ hQ ⟨none, 0, 0, rfl, by rw [V2.out]; exact .nil _ 1 none 0, K0.trans p1⟩
end Go.Proofs.Ytpebcclabaennaa
