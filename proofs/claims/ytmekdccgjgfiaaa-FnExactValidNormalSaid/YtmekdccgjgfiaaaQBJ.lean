/- The laws' own helpers: copies of slices of data. -/
import Derived.Test.YtmekdccgjgfiaaaQBI
namespace Go.Proofs.Ytmekdccgjgfiaaa
open Go.RowKit

theorem szD_arr {s : Nat} {rows : List (List Dat)} (h : szD (.arr s rows) ≤ 1048576) : rows.length ≤ 1048576 ∧ szRR rows ≤ 1048576 := by
  simp only [szD] at h; omega
theorem szD_cell {rows : List (List Dat)} (h : szRR rows ≤ 1048576) {i : Nat} (hi : i < rows.length) (j : Nat) : szD (dGet (rGet rows i) j) ≤ 1048576 := by
  have h1 := szR_le rows i hi
  have h2 := szD_le (rGet rows i) j
  omega

set_option maxHeartbeats 2000000 in
theorem toIntS (xs : List Int) : ToC 9 (encInts xs) := by
  intro a n c D w h hz
  refine calls_k fun Q hQ => ?_
  obtain ⟨e1, hnc, hm, hat⟩ := ints_at h
  have HL := Lib.hid e1
  have hrl : (xs.map rowI).length = n := by rw [ints_len]; exact e1
  obtain ⟨hz1, hz2⟩ := szD_arr (s := 1) (rows := (xs.map rowI)) hz
  have hn : n ≤ 1048576 := by omega
  have HRL := Lib.hid hrl
  have HA := Lib.hid hat
  clear hat e1 hrl hz hz1 hz2
  go_enter Try.func9, Try.ntmps9
  go_wp2_with (at_make; refine wpList_makeN _ rfl _ _ 26 rfl 3 (.int .i64 0) #[.int .i64 0] 1 8 Try.underlying26 (by kernel_rfl) rfl rfl n rfl rfl (by omega) (by omega) ?_; intro w1 hrow hk1 hsz)
  have O0 := Own.made (zd := [.num 0]) hrow rfl (by omega) (by omega) (fun j hj => by
    rcases j with _ | j
    · exact .num _ 0
    · omega)
  replace O0 := O0.mono (D' := fun k => w.heap.size ≤ k ∧ k < w1.heap.size) (fun k hk => by omega)
  rw [← HRL.out, ← rowsTo_zero, HRL.out] at O0
  clear hrow
  go_loopw [4] (fun iv wr => ∃ j : Nat, j ≤ n ∧ iv = .int .i64 j ∧ Own wr (fun k => w.heap.size ≤ k ∧ k < wr.heap.size) (.arr 1 (rowsTo (xs.map rowI) [.num 0] j)) (.slice (some ⟨w.heap.size, 0, none⟩) n n) ∧ Keep w wr ∧ w.heap.size < wr.heap.size) (fun i _ => n - (intOf i).toNat)
  case atStart => exact ⟨0, Nat.zero_le _, rfl, O0, hk1, by omega⟩
  case round =>
    obtain ⟨j, hj, rfl, hO, hK, hgt⟩ := hrel
    by_cases hlt : j < n
    · obtain ⟨b, o, rfl, hd, d0⟩ := HA.out j hlt
      have x0 := (hK.cell (World.block_lt_of_cell? w _ d0) (fun h => h)).trans d0
      clear d0
      obtain ⟨_, e, _, _, hfz, hcell⟩ := hO.cells hlt
      injection e with e
      injection e with e _ _
      subst e
      obtain ⟨u0, v0⟩ := hcell 0 (by omega)
      have g0 := hfz (j)
      rw [Nat.mul_one, Nat.add_zero] at v0
      clear hcell hfz
      go_wp2_with fail
      go_roundw
      case rel => exact ⟨j + 1, by omega, by go_num, by
        have hput := Own.put hO hlt [.int .i64 (iAt xs j)] [.num (iAt xs j)] rfl (ToS.int wr.heap.size wr.heap.size wr (iAt xs j)) (by omega) (by omega)
        have hset := rowsTo_succ (xs.map rowI) [.num 0] (j := j) (by have := HRL.out; omega)
        rw [ints_row xs j (by have := HL.out; omega)] at hset
        rw [hset] at hput
        rw [Nat.mul_one] at hput
        exact hput.mono (fun k hk => ⟨hk.1, by simp only [World.size_setCell]; omega⟩), by
        have hkk := keep_set (b := w.heap.size) (o := j) (us := [.int .i64 (iAt xs j)]) hK (Nat.le_refl _)
        exact hkk, by simp only [World.size_setCell]; omega⟩
      case measure => simp [intOf]; omega
    · have HJ : Hid (j = n) := by show _ = _; omega
      go_wp2
      exact fin_ hQ ⟨_, rfl, by
        have e := HJ.out
        subst e
        rw [rowsTo_all _ _ HRL.out.symm] at hO
        exact hO.mono (fun k hk => hk.1), hK⟩

set_option maxHeartbeats 2000000 in
theorem toConS (xs : List (List Int)) : ToC 71 (encCons xs) := by
  intro a n c D w h hz
  refine calls_k fun Q hQ => ?_
  obtain ⟨e1, hnc, hm, hat⟩ := cons_at h
  have HL := Lib.hid e1
  have hrl : (xs.map rowC).length = n := by rw [cons_len]; exact e1
  obtain ⟨hz1, hz2⟩ := szD_arr (s := 1) (rows := (xs.map rowC)) hz
  have hn : n ≤ 1048576 := by omega
  have HZ := Lib.hid (fun (j i : Nat) (hj : j < n) => szD_cell hz2 (i := j) (by rw [hrl]; exact hj) i)
  have HRL := Lib.hid hrl
  have HA := Lib.hid hat
  clear hat e1 hrl hz hz1 hz2
  go_enter Try.func71, Try.ntmps71
  go_wp2_with (at_make; refine wpList_makeN _ rfl _ _ 91 rfl 134 (.agg #[.slice none 0 0]) #[.slice none 0 0] 1 24 Try.underlying91 (by kernel_rfl) rfl rfl n rfl rfl (by omega) (by omega) ?_; intro w1 hrow hk1 hsz)
  have O0 := Own.made (zd := [.arr 1 []]) hrow rfl (by omega) (by omega) (fun j hj => by
    rcases j with _ | j
    · exact .nil _ _ _ _
    · omega)
  replace O0 := O0.mono (D' := fun k => w.heap.size ≤ k ∧ k < w1.heap.size) (fun k hk => by omega)
  rw [← HRL.out, ← rowsTo_zero, HRL.out] at O0
  clear hrow
  go_loopw [4] (fun iv wr => ∃ j : Nat, j ≤ n ∧ iv = .int .i64 j ∧ Own wr (fun k => w.heap.size ≤ k ∧ k < wr.heap.size) (.arr 1 (rowsTo (xs.map rowC) [.arr 1 []] j)) (.slice (some ⟨w.heap.size, 0, none⟩) n n) ∧ Keep w wr ∧ w.heap.size < wr.heap.size) (fun i _ => n - (intOf i).toNat)
  case atStart => exact ⟨0, Nat.zero_le _, rfl, O0, hk1, by omega⟩
  case round =>
    obtain ⟨j, hj, rfl, hO, hK, hgt⟩ := hrel
    by_cases hlt : j < n
    · obtain ⟨b, o, rfl, hd, a0, n0, c0, d0, r0⟩ := HA.out j hlt
      have x0 := (hK.cell (World.block_lt_of_cell? w _ d0) (fun h => h)).trans d0
      have q0 := r0.k hK
      have hrow := cons_row xs j (by have := HL.out; omega)
      have y0 := HZ.out j 0 hlt
      rw [hrow] at y0
      simp only [dGet, List.getD, List.getElem?_cons_zero, Option.getD_some] at y0
      clear hrow
      clear d0 r0
      go_wp2_with fail
      refine (toCon _ _ _ _ _ _ q0 y0 (toIntS _)).mono ?_
      rintro e w2 ⟨b0, rfl, ts, p2⟩
      have z2 := p2.size
      replace hO := hO.ext p2 (fun _ _ h => h)
      clear x0
      obtain ⟨_, e, _, _, hfz, hcell⟩ := hO.cells hlt
      injection e with e
      injection e with e _ _
      subst e
      obtain ⟨u0, v0⟩ := hcell 0 (by omega)
      have g0 := hfz (j)
      rw [Nat.mul_one, Nat.add_zero] at v0
      clear hcell hfz
      go_wp2_with fail
      go_roundw
      case rel => exact ⟨j + 1, by omega, by go_num, by
        have hput := Own.put hO hlt [.slice b0 n0 n0] [encInts (cAt xs j)] rfl ts (by omega) (by omega)
        have hset := rowsTo_succ (xs.map rowC) [.arr 1 []] (j := j) (by have := HRL.out; omega)
        rw [cons_row xs j (by have := HL.out; omega)] at hset
        rw [hset] at hput
        rw [Nat.mul_one] at hput
        exact hput.mono (fun k hk => ⟨hk.1, by simp only [World.size_setCell]; omega⟩), by
        have hkk := keep_set (b := w.heap.size) (o := j) (us := [.slice b0 n0 n0]) (hK.trans p2) (Nat.le_refl _)
        exact hkk, by simp only [World.size_setCell]; omega⟩
      case measure => simp [intOf]; omega
    · have HJ : Hid (j = n) := by show _ = _; omega
      go_wp2
      exact fin_ hQ ⟨_, rfl, by
        have e := HJ.out
        subst e
        rw [rowsTo_all _ _ HRL.out.symm] at hO
        exact hO.mono (fun k hk => hk.1), hK⟩

set_option maxHeartbeats 2000000 in
theorem toDeclS (xs : List DeclL) : ToC 24 (encDecls xs) := by
  intro a n c D w h hz
  refine calls_k fun Q hQ => ?_
  obtain ⟨e1, hnc, hm, hat⟩ := decls_at h
  have HL := Lib.hid e1
  have hrl : (xs.map rowD).length = n := by rw [decls_len]; exact e1
  obtain ⟨hz1, hz2⟩ := szD_arr (s := 3) (rows := (xs.map rowD)) hz
  have hn : n ≤ 1048576 := by omega
  have HZ := Lib.hid (fun (j i : Nat) (hj : j < n) => szD_cell hz2 (i := j) (by rw [hrl]; exact hj) i)
  have HRL := Lib.hid hrl
  have HA := Lib.hid hat
  clear hat e1 hrl hz hz1 hz2
  go_enter Try.func24, Try.ntmps24
  go_wp2_with (at_make; refine wpList_makeN _ rfl _ _ 33 rfl 93 (.agg #[.int .i64 0, .int .i64 0, .slice none 0 0]) #[.int .i64 0, .int .i64 0, .slice none 0 0] 3 40 Try.underlying33 (by kernel_rfl) rfl rfl n rfl rfl (by omega) (by omega) ?_; intro w1 hrow hk1 hsz)
  have O0 := Own.made (zd := [.num 0, .num 0, .arr 1 []]) hrow rfl (by omega) (by omega) (fun j hj => by
    rcases j with _ | _ | _ | j
    · exact .num _ 0
    · exact .num _ 0
    · exact .nil _ _ _ _
    · omega)
  replace O0 := O0.mono (D' := fun k => w.heap.size ≤ k ∧ k < w1.heap.size) (fun k hk => by omega)
  rw [← HRL.out, ← rowsTo_zero, HRL.out] at O0
  clear hrow
  go_loopw [4] (fun iv wr => ∃ j : Nat, j ≤ n ∧ iv = .int .i64 j ∧ Own wr (fun k => w.heap.size ≤ k ∧ k < wr.heap.size) (.arr 3 (rowsTo (xs.map rowD) [.num 0, .num 0, .arr 1 []] j)) (.slice (some ⟨w.heap.size, 0, none⟩) n n) ∧ Keep w wr ∧ w.heap.size < wr.heap.size) (fun i _ => n - (intOf i).toNat)
  case atStart => exact ⟨0, Nat.zero_le _, rfl, O0, hk1, by omega⟩
  case round =>
    obtain ⟨j, hj, rfl, hO, hK, hgt⟩ := hrel
    by_cases hlt : j < n
    · obtain ⟨b, o, rfl, hd, a2, n2, c2, d0, d1, d2, r2⟩ := HA.out j hlt
      have x0 := (hK.cell (World.block_lt_of_cell? w _ d0) (fun h => h)).trans d0
      have x1 := (hK.cell (World.block_lt_of_cell? w _ d1) (fun h => h)).trans d1
      have x2 := (hK.cell (World.block_lt_of_cell? w _ d2) (fun h => h)).trans d2
      have q2 := r2.k hK
      have hrow := decls_row xs j (by have := HL.out; omega)
      have y2 := HZ.out j 2 hlt
      rw [hrow] at y2
      simp only [dGet, List.getD, List.getElem?_cons_succ, List.getElem?_cons_zero, Option.getD_some] at y2
      clear hrow
      clear d0 d1 d2 r2
      go_wp2_with fail
      refine (toDecl _ _ _ _ _ _ _ _ q2 y2 (toConS _)).mono ?_
      rintro e w2 ⟨b2, rfl, ts, p2⟩
      have z2 := p2.size
      replace hO := hO.ext p2 (fun _ _ h => h)
      clear x0 x1 x2
      obtain ⟨_, e, _, _, hfz, hcell⟩ := hO.cells hlt
      injection e with e
      injection e with e _ _
      subst e
      obtain ⟨u0, v0⟩ := hcell 0 (by omega)
      have g0 := hfz (j * 3)
      obtain ⟨u1, v1⟩ := hcell 1 (by omega)
      have g1 := hfz (j * 3 + 1)
      obtain ⟨u2, v2⟩ := hcell 2 (by omega)
      have g2 := hfz (j * 3 + 2)
      rw [Nat.add_zero] at v0
      clear hcell hfz
      go_wp2_with fail
      go_roundw
      case rel => exact ⟨j + 1, by omega, by go_num, by
        have hput := Own.put hO hlt [.int .i64 ((dAt xs j).from_), .int .i64 ((dAt xs j).to_), .slice b2 n2 n2] [.num ((dAt xs j).from_), .num ((dAt xs j).to_), encCons ((dAt xs j).cons)] rfl ts (by omega) (by omega)
        have hset := rowsTo_succ (xs.map rowD) [.num 0, .num 0, .arr 1 []] (j := j) (by have := HRL.out; omega)
        rw [decls_row xs j (by have := HL.out; omega)] at hset
        rw [hset] at hput
        exact hput.mono (fun k hk => ⟨hk.1, by simp only [World.size_setCell]; omega⟩), by
        have hkk := keep_set (b := w.heap.size) (o := j * 3) (us := [.int .i64 ((dAt xs j).from_), .int .i64 ((dAt xs j).to_), .slice b2 n2 n2]) (hK.trans p2) (Nat.le_refl _)
        exact hkk, by simp only [World.size_setCell]; omega⟩
      case measure => simp [intOf]; omega
    · have HJ : Hid (j = n) := by show _ = _; omega
      go_wp2
      exact fin_ hQ ⟨_, rfl, by
        have e := HJ.out
        subst e
        rw [rowsTo_all _ _ HRL.out.symm] at hO
        exact hO.mono (fun k hk => hk.1), hK⟩



set_option maxHeartbeats 4000000 in
theorem toSB_n (N : Nat) : (∀ xs : List StepL, volD (encSteps xs) < N → ToC 26 (encSteps xs)) ∧ (∀ xs : List BlockL, volD (encBlocks xs) < N → ToC 72 (encBlocks xs)) := by
  induction N with
  | zero => exact ⟨fun xs h => by omega, fun xs h => by omega⟩
  | succ N ihN =>
  obtain ⟨ihS, ihB⟩ := ihN
  refine ⟨?_, ?_⟩
  · intro xs hvol a n c D w h hz
    have IHStep : ∀ ys : List StepL, volD (encSteps ys) < volD (encSteps xs) → ToC 26 (encSteps ys) := fun ys hy => ihS ys (by omega)
    have IHBlock : ∀ ys : List BlockL, volD (encBlocks ys) < volD (encSteps xs) → ToC 72 (encBlocks ys) := fun ys hy => ihB ys (by omega)
    clear ihS ihB hvol
    refine calls_k fun Q hQ => ?_
    obtain ⟨e1, hnc, hm, hat⟩ := steps_at h
    have HL := Lib.hid e1
    have hrl : (rowsS xs).length = n := by rw [steps_len]; exact e1
    obtain ⟨hz1, hz2⟩ := szD_arr (s := 5) (rows := (rowsS xs)) hz
    have hn : n ≤ 1048576 := by omega
    have HZ := Lib.hid (fun (j i : Nat) (hj : j < n) => szD_cell hz2 (i := j) (by rw [hrl]; exact hj) i)
    have HRL := Lib.hid hrl
    have HA := Lib.hid hat
    clear hat e1 hrl hz hz1 hz2
    go_enter Try.func26, Try.ntmps26
    go_wp2_with (at_make; refine wpList_makeN _ rfl _ _ 39 rfl 89 (.agg #[.int .i64 0, .int .i64 0, .int .i64 0, .slice none 0 0, .slice none 0 0]) #[.int .i64 0, .int .i64 0, .int .i64 0, .slice none 0 0, .slice none 0 0] 5 72 Try.underlying39 (by kernel_rfl) rfl rfl n rfl rfl (by omega) (by omega) ?_; intro w1 hrow hk1 hsz)
    have O0 := Own.made (zd := [.num 0, .num 0, .num 0, .arr 1 [], .arr 2 []]) hrow rfl (by omega) (by omega) (fun j hj => by
      rcases j with _ | _ | _ | _ | _ | j
      · exact .num _ 0
      · exact .num _ 0
      · exact .num _ 0
      · exact .nil _ _ _ _
      · exact .nil _ _ _ _
      · omega)
    replace O0 := O0.mono (D' := fun k => w.heap.size ≤ k ∧ k < w1.heap.size) (fun k hk => by omega)
    rw [← HRL.out, ← rowsTo_zero, HRL.out] at O0
    clear hrow
    go_loopw [4] (fun iv wr => ∃ j : Nat, j ≤ n ∧ iv = .int .i64 j ∧ Own wr (fun k => w.heap.size ≤ k ∧ k < wr.heap.size) (.arr 5 (rowsTo (rowsS xs) [.num 0, .num 0, .num 0, .arr 1 [], .arr 2 []] j)) (.slice (some ⟨w.heap.size, 0, none⟩) n n) ∧ Keep w wr ∧ w.heap.size < wr.heap.size) (fun i _ => n - (intOf i).toNat)
    case atStart => exact ⟨0, Nat.zero_le _, rfl, O0, hk1, by omega⟩
    case round =>
      obtain ⟨j, hj, rfl, hO, hK, hgt⟩ := hrel
      by_cases hlt : j < n
      · obtain ⟨b, o, rfl, hd, a3, n3, c3, a4, n4, c4, d0, d1, d2, d3, d4, r3, r4⟩ := HA.out j hlt
        have x0 := (hK.cell (World.block_lt_of_cell? w _ d0) (fun h => h)).trans d0
        have x1 := (hK.cell (World.block_lt_of_cell? w _ d1) (fun h => h)).trans d1
        have x2 := (hK.cell (World.block_lt_of_cell? w _ d2) (fun h => h)).trans d2
        have x3 := (hK.cell (World.block_lt_of_cell? w _ d3) (fun h => h)).trans d3
        have x4 := (hK.cell (World.block_lt_of_cell? w _ d4) (fun h => h)).trans d4
        have q3 := r3.k hK
        have q4 := r4.k hK
        have hrow := steps_row xs j (by have := HL.out; omega)
        have y3 := HZ.out j 3 hlt
        rw [hrow] at y3
        simp only [dGet, List.getD, List.getElem?_cons_succ, List.getElem?_cons_zero, Option.getD_some] at y3
        have y4 := HZ.out j 4 hlt
        rw [hrow] at y4
        simp only [dGet, List.getD, List.getElem?_cons_succ, List.getElem?_cons_zero, Option.getD_some] at y4
        clear hrow
        clear d0 d1 d2 d3 d4 r3 r4
        go_wp2_with fail
        refine (toStep _ _ _ _ _ _ _ _ _ _ _ _ _ q3 y3 q4 y4 (toIntS _) (IHBlock _ (by have := vol_lt (s := 5) (rows := (rowsS xs)) (i := j) (j := 4) (by have := HRL.out; omega) (by rw [steps_row xs j (by have := HL.out; omega)]; simp); rw [rAt, steps_row xs j (by have := HL.out; omega)] at this; simp only [dGet, List.getD, List.getElem?_cons_succ, List.getElem?_cons_zero, Option.getD_some] at this; exact this))).mono ?_
        rintro e w2 ⟨b3, b4, rfl, ts, p2⟩
        have z2 := p2.size
        replace hO := hO.ext p2 (fun _ _ h => h)
        clear x0 x1 x2 x3 x4
        obtain ⟨_, e, _, _, hfz, hcell⟩ := hO.cells hlt
        injection e with e
        injection e with e _ _
        subst e
        obtain ⟨u0, v0⟩ := hcell 0 (by omega)
        have g0 := hfz (j * 5)
        obtain ⟨u1, v1⟩ := hcell 1 (by omega)
        have g1 := hfz (j * 5 + 1)
        obtain ⟨u2, v2⟩ := hcell 2 (by omega)
        have g2 := hfz (j * 5 + 2)
        obtain ⟨u3, v3⟩ := hcell 3 (by omega)
        have g3 := hfz (j * 5 + 3)
        obtain ⟨u4, v4⟩ := hcell 4 (by omega)
        have g4 := hfz (j * 5 + 4)
        rw [Nat.add_zero] at v0
        clear hcell hfz
        go_wp2_with fail
        go_roundw
        case rel => exact ⟨j + 1, by omega, by go_num, by
          have hput := Own.put hO hlt [.int .i64 ((sAt xs j).op), .int .i64 ((sAt xs j).num), .int .i64 ((sAt xs j).into), .slice b3 n3 n3, .slice b4 n4 n4] [.num ((sAt xs j).op), .num ((sAt xs j).num), .num ((sAt xs j).into), encInts ((sAt xs j).args), encBlocks ((sAt xs j).kids)] rfl ts (by omega) (by omega)
          have hset := rowsTo_succ (rowsS xs) [.num 0, .num 0, .num 0, .arr 1 [], .arr 2 []] (j := j) (by have := HRL.out; omega)
          rw [steps_row xs j (by have := HL.out; omega)] at hset
          rw [hset] at hput
          exact hput.mono (fun k hk => ⟨hk.1, by simp only [World.size_setCell]; omega⟩), by
          have hkk := keep_set (b := w.heap.size) (o := j * 5) (us := [.int .i64 ((sAt xs j).op), .int .i64 ((sAt xs j).num), .int .i64 ((sAt xs j).into), .slice b3 n3 n3, .slice b4 n4 n4]) (hK.trans p2) (Nat.le_refl _)
          exact hkk, by simp only [World.size_setCell]; omega⟩
        case measure => simp [intOf]; omega
      · have HJ : Hid (j = n) := by show _ = _; omega
        go_wp2
        exact fin_ hQ ⟨_, rfl, by
          have e := HJ.out
          subst e
          rw [rowsTo_all _ _ HRL.out.symm] at hO
          exact hO.mono (fun k hk => hk.1), hK⟩
  · intro xs hvol a n c D w h hz
    have IHStep : ∀ ys : List StepL, volD (encSteps ys) < volD (encBlocks xs) → ToC 26 (encSteps ys) := fun ys hy => ihS ys (by omega)
    have IHBlock : ∀ ys : List BlockL, volD (encBlocks ys) < volD (encBlocks xs) → ToC 72 (encBlocks ys) := fun ys hy => ihB ys (by omega)
    clear ihS ihB hvol
    refine calls_k fun Q hQ => ?_
    obtain ⟨e1, hnc, hm, hat⟩ := blocks_at h
    have HL := Lib.hid e1
    have hrl : (rowsB xs).length = n := by rw [blocks_len]; exact e1
    obtain ⟨hz1, hz2⟩ := szD_arr (s := 2) (rows := (rowsB xs)) hz
    have hn : n ≤ 1048576 := by omega
    have HZ := Lib.hid (fun (j i : Nat) (hj : j < n) => szD_cell hz2 (i := j) (by rw [hrl]; exact hj) i)
    have HRL := Lib.hid hrl
    have HA := Lib.hid hat
    clear hat e1 hrl hz hz1 hz2
    go_enter Try.func72, Try.ntmps72
    go_wp2_with (at_make; refine wpList_makeN _ rfl _ _ 87 rfl 41 (.agg #[.slice none 0 0, .int .i64 0]) #[.slice none 0 0, .int .i64 0] 2 32 Try.underlying87 (by kernel_rfl) rfl rfl n rfl rfl (by omega) (by omega) ?_; intro w1 hrow hk1 hsz)
    have O0 := Own.made (zd := [.arr 5 [], .num 0]) hrow rfl (by omega) (by omega) (fun j hj => by
      rcases j with _ | _ | j
      · exact .nil _ _ _ _
      · exact .num _ 0
      · omega)
    replace O0 := O0.mono (D' := fun k => w.heap.size ≤ k ∧ k < w1.heap.size) (fun k hk => by omega)
    rw [← HRL.out, ← rowsTo_zero, HRL.out] at O0
    clear hrow
    go_loopw [4] (fun iv wr => ∃ j : Nat, j ≤ n ∧ iv = .int .i64 j ∧ Own wr (fun k => w.heap.size ≤ k ∧ k < wr.heap.size) (.arr 2 (rowsTo (rowsB xs) [.arr 5 [], .num 0] j)) (.slice (some ⟨w.heap.size, 0, none⟩) n n) ∧ Keep w wr ∧ w.heap.size < wr.heap.size) (fun i _ => n - (intOf i).toNat)
    case atStart => exact ⟨0, Nat.zero_le _, rfl, O0, hk1, by omega⟩
    case round =>
      obtain ⟨j, hj, rfl, hO, hK, hgt⟩ := hrel
      by_cases hlt : j < n
      · obtain ⟨b, o, rfl, hd, a0, n0, c0, d0, d1, r0⟩ := HA.out j hlt
        have x0 := (hK.cell (World.block_lt_of_cell? w _ d0) (fun h => h)).trans d0
        have x1 := (hK.cell (World.block_lt_of_cell? w _ d1) (fun h => h)).trans d1
        have q0 := r0.k hK
        have hrow := blocks_row xs j (by have := HL.out; omega)
        have y0 := HZ.out j 0 hlt
        rw [hrow] at y0
        simp only [dGet, List.getD, List.getElem?_cons_zero, Option.getD_some] at y0
        clear hrow
        clear d0 d1 r0
        go_wp2_with fail
        refine (toBlock _ _ _ _ _ _ _ q0 y0 (IHStep _ (by have := vol_lt (s := 2) (rows := (rowsB xs)) (i := j) (j := 0) (by have := HRL.out; omega) (by rw [blocks_row xs j (by have := HL.out; omega)]; simp); rw [rAt, blocks_row xs j (by have := HL.out; omega)] at this; simp only [dGet, List.getD, List.getElem?_cons_zero, Option.getD_some] at this; exact this))).mono ?_
        rintro e w2 ⟨b0, rfl, ts, p2⟩
        have z2 := p2.size
        replace hO := hO.ext p2 (fun _ _ h => h)
        clear x0 x1
        obtain ⟨_, e, _, _, hfz, hcell⟩ := hO.cells hlt
        injection e with e
        injection e with e _ _
        subst e
        obtain ⟨u0, v0⟩ := hcell 0 (by omega)
        have g0 := hfz (j * 2)
        obtain ⟨u1, v1⟩ := hcell 1 (by omega)
        have g1 := hfz (j * 2 + 1)
        rw [Nat.add_zero] at v0
        clear hcell hfz
        go_wp2_with fail
        go_roundw
        case rel => exact ⟨j + 1, by omega, by go_num, by
          have hput := Own.put hO hlt [.slice b0 n0 n0, .int .i64 ((bAt xs j).result)] [encSteps ((bAt xs j).steps), .num ((bAt xs j).result)] rfl ts (by omega) (by omega)
          have hset := rowsTo_succ (rowsB xs) [.arr 5 [], .num 0] (j := j) (by have := HRL.out; omega)
          rw [blocks_row xs j (by have := HL.out; omega)] at hset
          rw [hset] at hput
          exact hput.mono (fun k hk => ⟨hk.1, by simp only [World.size_setCell]; omega⟩), by
          have hkk := keep_set (b := w.heap.size) (o := j * 2) (us := [.slice b0 n0 n0, .int .i64 ((bAt xs j).result)]) (hK.trans p2) (Nat.le_refl _)
          exact hkk, by simp only [World.size_setCell]; omega⟩
        case measure => simp [intOf]; omega
      · have HJ : Hid (j = n) := by show _ = _; omega
        go_wp2
        exact fin_ hQ ⟨_, rfl, by
          have e := HJ.out
          subst e
          rw [rowsTo_all _ _ HRL.out.symm] at hO
          exact hO.mono (fun k hk => hk.1), hK⟩
theorem toStepS (xs : List StepL) : ToC 26 (encSteps xs) := (toSB_n _).1 xs (Nat.lt_succ_self _)
theorem toBlockS (xs : List BlockL) : ToC 72 (encBlocks xs) := (toSB_n _).2 xs (Nat.lt_succ_self _)

set_option maxHeartbeats 2000000 in
theorem toRoutineS (xs : List RoutL) : ToC 25 (encRouts xs) := by
  intro a n c D w h hz
  refine calls_k fun Q hQ => ?_
  obtain ⟨e1, hnc, hm, hat⟩ := routs_at h
  have HL := Lib.hid e1
  have hrl : (xs.map rowR).length = n := by rw [routs_len]; exact e1
  obtain ⟨hz1, hz2⟩ := szD_arr (s := 5) (rows := (xs.map rowR)) hz
  have hn : n ≤ 1048576 := by omega
  have HZ := Lib.hid (fun (j i : Nat) (hj : j < n) => szD_cell hz2 (i := j) (by rw [hrl]; exact hj) i)
  have HRL := Lib.hid hrl
  have HA := Lib.hid hat
  clear hat e1 hrl hz hz1 hz2
  go_enter Try.func25, Try.ntmps25
  go_wp2_with (at_make; refine wpList_makeN _ rfl _ _ 34 rfl 67 (.agg #[.slice none 0 0, .slice none 0 0, .int .i64 0, .slice none 0 0, .int .i64 0]) #[.slice none 0 0, .slice none 0 0, .int .i64 0, .slice none 0 0, .int .i64 0] 5 88 Try.underlying34 (by kernel_rfl) rfl rfl n rfl rfl (by omega) (by omega) ?_; intro w1 hrow hk1 hsz)
  have O0 := Own.made (zd := [.arr 1 [], .arr 1 [], .num 0, .arr 5 [], .num 0]) hrow rfl (by omega) (by omega) (fun j hj => by
    rcases j with _ | _ | _ | _ | _ | j
    · exact .nil _ _ _ _
    · exact .nil _ _ _ _
    · exact .num _ 0
    · exact .nil _ _ _ _
    · exact .num _ 0
    · omega)
  replace O0 := O0.mono (D' := fun k => w.heap.size ≤ k ∧ k < w1.heap.size) (fun k hk => by omega)
  rw [← HRL.out, ← rowsTo_zero, HRL.out] at O0
  clear hrow
  go_loopw [4] (fun iv wr => ∃ j : Nat, j ≤ n ∧ iv = .int .i64 j ∧ Own wr (fun k => w.heap.size ≤ k ∧ k < wr.heap.size) (.arr 5 (rowsTo (xs.map rowR) [.arr 1 [], .arr 1 [], .num 0, .arr 5 [], .num 0] j)) (.slice (some ⟨w.heap.size, 0, none⟩) n n) ∧ Keep w wr ∧ w.heap.size < wr.heap.size) (fun i _ => n - (intOf i).toNat)
  case atStart => exact ⟨0, Nat.zero_le _, rfl, O0, hk1, by omega⟩
  case round =>
    obtain ⟨j, hj, rfl, hO, hK, hgt⟩ := hrel
    by_cases hlt : j < n
    · obtain ⟨b, o, rfl, hd, a0, n0, c0, a1, n1, c1, a3, n3, c3, d0, d1, d2, d3, d4, r0, r1, r3⟩ := HA.out j hlt
      have x0 := (hK.cell (World.block_lt_of_cell? w _ d0) (fun h => h)).trans d0
      have x1 := (hK.cell (World.block_lt_of_cell? w _ d1) (fun h => h)).trans d1
      have x2 := (hK.cell (World.block_lt_of_cell? w _ d2) (fun h => h)).trans d2
      have x3 := (hK.cell (World.block_lt_of_cell? w _ d3) (fun h => h)).trans d3
      have x4 := (hK.cell (World.block_lt_of_cell? w _ d4) (fun h => h)).trans d4
      have q0 := r0.k hK
      have q1 := r1.k hK
      have q3 := r3.k hK
      have hrow := routs_row xs j (by have := HL.out; omega)
      have y0 := HZ.out j 0 hlt
      rw [hrow] at y0
      simp only [dGet, List.getD, List.getElem?_cons_zero, Option.getD_some] at y0
      have y1 := HZ.out j 1 hlt
      rw [hrow] at y1
      simp only [dGet, List.getD, List.getElem?_cons_succ, List.getElem?_cons_zero, Option.getD_some] at y1
      have y3 := HZ.out j 3 hlt
      rw [hrow] at y3
      simp only [dGet, List.getD, List.getElem?_cons_succ, List.getElem?_cons_zero, Option.getD_some] at y3
      clear hrow
      clear d0 d1 d2 d3 d4 r0 r1 r3
      go_wp2_with fail
      refine (toRoutine _ _ _ _ _ _ _ _ _ _ _ _ _ _ _ _ q0 y0 q1 y1 q3 y3 (toIntS _) (toIntS _) (toStepS _)).mono ?_
      rintro e w2 ⟨b0, b1, b3, rfl, ts, p2⟩
      have z2 := p2.size
      replace hO := hO.ext p2 (fun _ _ h => h)
      clear x0 x1 x2 x3 x4
      obtain ⟨_, e, _, _, hfz, hcell⟩ := hO.cells hlt
      injection e with e
      injection e with e _ _
      subst e
      obtain ⟨u0, v0⟩ := hcell 0 (by omega)
      have g0 := hfz (j * 5)
      obtain ⟨u1, v1⟩ := hcell 1 (by omega)
      have g1 := hfz (j * 5 + 1)
      obtain ⟨u2, v2⟩ := hcell 2 (by omega)
      have g2 := hfz (j * 5 + 2)
      obtain ⟨u3, v3⟩ := hcell 3 (by omega)
      have g3 := hfz (j * 5 + 3)
      obtain ⟨u4, v4⟩ := hcell 4 (by omega)
      have g4 := hfz (j * 5 + 4)
      rw [Nat.add_zero] at v0
      clear hcell hfz
      go_wp2_with fail
      go_roundw
      case rel => exact ⟨j + 1, by omega, by go_num, by
        have hput := Own.put hO hlt [.slice b0 n0 n0, .slice b1 n1 n1, .int .i64 ((rtAt xs j).result), .slice b3 n3 n3, .int .i64 ((rtAt xs j).body.result)] [encInts ((rtAt xs j).params), encInts ((rtAt xs j).lent), .num ((rtAt xs j).result), encSteps ((rtAt xs j).body.steps), .num ((rtAt xs j).body.result)] rfl ts (by omega) (by omega)
        have hset := rowsTo_succ (xs.map rowR) [.arr 1 [], .arr 1 [], .num 0, .arr 5 [], .num 0] (j := j) (by have := HRL.out; omega)
        rw [routs_row xs j (by have := HL.out; omega)] at hset
        rw [hset] at hput
        exact hput.mono (fun k hk => ⟨hk.1, by simp only [World.size_setCell]; omega⟩), by
        have hkk := keep_set (b := w.heap.size) (o := j * 5) (us := [.slice b0 n0 n0, .slice b1 n1 n1, .int .i64 ((rtAt xs j).result), .slice b3 n3 n3, .int .i64 ((rtAt xs j).body.result)]) (hK.trans p2) (Nat.le_refl _)
        exact hkk, by simp only [World.size_setCell]; omega⟩
      case measure => simp [intOf]; omega
    · have HJ : Hid (j = n) := by show _ = _; omega
      go_wp2
      exact fin_ hQ ⟨_, rfl, by
        have e := HJ.out
        subst e
        rw [rowsTo_all _ _ HRL.out.symm] at hO
        exact hO.mono (fun k hk => hk.1), hK⟩

end Go.Proofs.Ytmekdccgjgfiaaa
