/- The laws' marks: what is written into data of the call's own; and the look whether marks are held. -/
import Derived.Test.YthdjijhpdgajbaaOwn
import Derived.Test.YthdjijhpdgajbaaEntry
namespace Go.Proofs.Ythdjijhpdgajbaa
open Go.RowKit

/-- From w to w' only integers in blocks of D may have been written over by integers. -/
structure Scrib (D : Nat → Prop) (w w' : World) : Prop where
  ext : Ext D w w'
  row : ∀ b T N f, w.rowIs b T N f → ∃ f', w'.rowIs b T N f' ∧ ∀ i, i < N → (∃ z, f i = .int .i64 z) ∧ (∃ z, f' i = .int .i64 z) ∨ f' i = f i
theorem Scrib.refl (D : Nat → Prop) (w : World) : Scrib D w w := ⟨Ext.refl _ _, fun _ _ _ f h => ⟨f, h, fun _ _ => .inr rfl⟩⟩
theorem Scrib.trans {D : Nat → Prop} {w w' w'' : World} (h : Scrib D w w') (k : Scrib D w' w'') : Scrib D w w'' := by
  refine ⟨h.ext.trans k.ext, fun b T N f hr => ?_⟩
  obtain ⟨f1, h1, e1⟩ := h.row b T N f hr
  obtain ⟨f2, h2, e2⟩ := k.row b T N f1 h1
  refine ⟨f2, h2, fun i hi => ?_⟩
  rcases e1 i hi with ⟨⟨z, hz⟩, ⟨z1, hz1⟩⟩ | e
  · rcases e2 i hi with ⟨_, z2, hz2⟩ | e2'
    · exact .inl ⟨⟨z, hz⟩, ⟨z2, hz2⟩⟩
    · exact .inl ⟨⟨z, hz⟩, ⟨z1, by rw [e2']; exact hz1⟩⟩
  · rcases e2 i hi with ⟨⟨z1, hz1⟩, z2, hz2⟩ | e2'
    · exact .inl ⟨⟨z1, by rw [← e]; exact hz1⟩, ⟨z2, hz2⟩⟩
    · exact .inr (e2'.trans e)
/-- An integer over an integer. -/
theorem Scrib.set {D : Nat → Prop} {w : World} {b T N : Nat} {f : Nat → Value} (hr : w.rowIs b T N f) (hD : D b) {i : Nat} (hi : ∃ z, f i = .int .i64 z) (y : Int) : Scrib D w (w.setCell ⟨b, i, none⟩ (.int .i64 y)) := by
  refine ⟨(Ext.refl D w).setCell (p := ⟨b, i, none⟩) (.inr hD) _, fun b' T' N' f' h' => ?_⟩
  by_cases e : b' = b
  · subst e
    refine ⟨_, h'.set i (.int .i64 y), fun j hN => ?_⟩
    by_cases hj : j = i
    · subst hj
      obtain ⟨c, hc, hs, hcc⟩ := h'
      obtain ⟨c2, hc2, hs2, hcc2⟩ := hr
      rw [hc] at hc2
      injection hc2 with hc2
      injection hc2 with q1 q2
      subst q1
      have h1 := hcc j hN
      have h2 := hcc2 j (by omega)
      rw [h1] at h2
      injection h2 with h2
      obtain ⟨z, hz⟩ := hi
      exact .inl ⟨⟨z, by rw [h2]; exact hz⟩, ⟨y, by simp⟩⟩
    · exact .inr (by simp [hj])
  · exact ⟨f', h'.setOther e _, fun _ _ => .inr rfl⟩

section
variable {D E : Nat → Prop} {w w' : World} {a : Option Addr} {n : Nat}
theorem OwnInts.scrib (h : ∃ xs, OwnInts w D a n xs) (k : Scrib E w w') : ∃ xs, OwnInts w' D a n xs := by
  obtain ⟨xs, hl, h⟩ := h
  rcases Nat.eq_zero_or_pos n with rfl | hn
  · exact ⟨[], rfl, fun h => absurd h (by omega)⟩
  obtain ⟨b, N, f, rfl, hd, hN, hr, hc⟩ := h hn
  obtain ⟨f', hr', he⟩ := k.row b _ N f hr
  have hz : ∀ i, i < n → ∃ z, f' i = .int .i64 z := fun i hi => by
    rcases he i (by omega) with ⟨_, h⟩ | h
    · exact h
    · exact ⟨_, h.trans (hc i hi)⟩
  refine ⟨(List.range n).map fun i => match f' i with | .int _ z => z | _ => 0, by simp, fun _ => ⟨b, N, f', rfl, hd, hN, hr', fun i hi => ?_⟩⟩
  obtain ⟨z, hz⟩ := hz i hi
  rw [hz, iAt_eq (by simpa using hi)]
  simp [hz]
/-- Lists of at most 1048576 elements. -/
def FitC (cs : List (List Int)) : Prop := cs.length ≤ 1048576 ∧ ∀ i, i < cs.length → (cAt cs i).length ≤ 1048576
def FitD (ds : List DeclL) : Prop := ds.length ≤ 1048576 ∧ ∀ i, i < ds.length → FitC (dAt ds i).cons
theorem OwnCons.scrib (h : ∃ cs, OwnCons w D a n cs ∧ FitC cs) (k : Scrib E w w') : ∃ cs, OwnCons w' D a n cs ∧ FitC cs := by
  obtain ⟨cs, ⟨hl, h⟩, hfit⟩ := h
  rcases Nat.eq_zero_or_pos n with rfl | hn
  · exact ⟨[], ⟨rfl, fun h => absurd h (by omega)⟩, by simp, fun i hi => absurd hi (by simp)⟩
  obtain ⟨b, N, f, rfl, hd, hN, hr, hc⟩ := h hn
  obtain ⟨f', hr', he⟩ := k.row b _ N f hr
  have hx : ∀ i, i < n → ∃ xs : List Int, xs.length ≤ 1048576 ∧ ∃ a' m c, f' i = .slice a' m c ∧ m ≤ c ∧ OwnInts w' D a' m xs := fun i hi => by
    obtain ⟨a', m, c, h1, h2, h3⟩ := hc i hi
    rcases he i (by omega) with ⟨⟨z, hz⟩, _⟩ | h
    · rw [h1] at hz; cases hz
    · obtain ⟨xs, hxs⟩ := OwnInts.scrib ⟨_, h3⟩ k
      exact ⟨xs, by have := hfit.2 i (by omega); have := h3.1; have := hxs.1; omega, a', m, c, h.trans h1, h2, hxs⟩
  obtain ⟨l, hl', hp⟩ := ent_choose n _ hx []
  exact ⟨l, ⟨hl', fun _ => ⟨b, N, f', rfl, hd, hN, hr', fun i hi => (hp i hi).2⟩⟩, by have := hfit.1; omega, fun i hi => (hp i (by omega)).1⟩
theorem OwnDecls.scrib (h : ∃ ds, OwnDecls w D a n ds ∧ FitD ds) (k : Scrib E w w') : ∃ ds, OwnDecls w' D a n ds ∧ FitD ds := by
  obtain ⟨ds, ⟨hl, h⟩, hfit⟩ := h
  rcases Nat.eq_zero_or_pos n with rfl | hn
  · exact ⟨[], ⟨rfl, fun h => absurd h (by omega)⟩, by simp, fun i hi => absurd hi (by simp)⟩
  obtain ⟨b, N, f, rfl, hd, hN, hr, hc⟩ := h hn
  obtain ⟨f', hr', he⟩ := k.row b _ N f hr
  have hx : ∀ i, i < n → ∃ d : DeclL, FitC d.cons ∧ f' (i * 3) = .int .i64 d.from_ ∧ f' (i * 3 + 1) = .int .i64 d.to_ ∧ ∃ a' m c, f' (i * 3 + 2) = .slice a' m c ∧ m ≤ c ∧ OwnCons w' D a' m d.cons := fun i hi => by
    obtain ⟨h0, h1, a', m, c, h2, h3, h4⟩ := hc i hi
    have g0 : ∃ z, f' (i * 3) = .int .i64 z := by
      rcases he (i * 3) (by omega) with ⟨_, h⟩ | h
      · exact h
      · exact ⟨_, h.trans h0⟩
    have g1 : ∃ z, f' (i * 3 + 1) = .int .i64 z := by
      rcases he (i * 3 + 1) (by omega) with ⟨_, h⟩ | h
      · exact h
      · exact ⟨_, h.trans h1⟩
    obtain ⟨z0, g0⟩ := g0
    obtain ⟨z1, g1⟩ := g1
    rcases he (i * 3 + 2) (by omega) with ⟨⟨z, hz⟩, _⟩ | h
    · rw [h2] at hz; cases hz
    · obtain ⟨cs, hcs, hfc⟩ := OwnCons.scrib ⟨_, h4, hfit.2 i (by omega)⟩ k
      exact ⟨⟨z0, z1, cs⟩, hfc, g0, g1, a', m, c, h.trans h2, h3, hcs⟩
  obtain ⟨l, hl', hp⟩ := ent_choose n _ hx default
  exact ⟨l, ⟨hl', fun _ => ⟨b, N, f', rfl, hd, hN, hr', fun i hi => (hp i hi).2⟩⟩, by have := hfit.1; omega, fun i hi => (hp i (by omega)).1⟩
end

/-- The marks from k on. -/
def marks (k : Int) (n : Nat) : List Int := (List.range n).map fun i : Nat => k + (i : Int)
theorem marks_at {k : Int} {n i : Nat} (h : i < n) : iAt (marks k n) i = k + (i : Int) := by rw [iAt_eq (by simpa [marks] using h)]; simp [marks]

set_option maxHeartbeats 1000000 in
theorem markIntS (a : Option Addr) (n c : Nat) (xs : List Int) (D : Nat → Prop) (k : Int) (w : World) (h : OwnInts w D a n xs) (hn : n ≤ 1048576) (h0 : 0 ≤ k) (h1 : k ≤ 4611686018427387904) :
    Calls Try.prog 22 #[.slice a n c, .int .i64 k] w fun e w' => e = .returned (.int .i64 (k + n)) ∧ OwnInts w' D a n (marks k n) ∧ Scrib D w w' := by
  refine calls_k fun Q hQ => ?_
  rcases Nat.eq_zero_or_pos n with rfl | hpos
  · go_enter Try.func22, Try.ntmps22
    go_wp2
    refine wp_loop_once ?_
    go_wp2_with fail
    exact fin_ hQ ⟨ret_i (by simp), ⟨rfl, fun h => absurd h (by omega)⟩, Scrib.refl _ _⟩
  obtain ⟨b, N, f, rfl, hd, hN, hr, hc⟩ := h.2 hpos
  have HR := Lib.hid hr
  have HC := Lib.hid hc
  clear hr hc h
  go_enter Try.func22, Try.ntmps22
  go_wp2
  go_loopw [1, 5] (fun kv i wr => ∃ (j : Nat) (g : Nat → Value), j ≤ n ∧ i = .int .i64 j ∧ kv = .int .i64 (k + (j : Int)) ∧ Hid (wr.rowIs b 3 N g) ∧ Hid (∀ l, l < n → g l = if l < j then .int .i64 (k + (l : Int)) else .int .i64 (iAt xs l)) ∧ Scrib D w wr) (fun _ i _ => n - (intOf i).toNat)
  case atStart => exact ⟨0, f, Nat.zero_le _, rfl, by simp, HR, fun l hl => by rw [if_neg (by omega)]; exact HC.out l hl, Scrib.refl _ _⟩
  case round =>
    obtain ⟨j, g, hj, rfl, rfl, hr, hg, hS⟩ := hrel
    by_cases hlt : j < n
    · have d0 := hr.out.cell (i := j) (by omega)
      have d1 := hr.out.frozen j
      rw [hg.out j hlt, if_neg (by omega)] at d0
      go_wp2
      go_roundw
      case rel => exact ⟨j + 1, _, by omega, by go_num, by congr 1; omega, hr.out.set j _, fun l hl => by
        by_cases e : l = j
        · subst e; simp
        · simp only [if_neg e]
          rw [hg.out l hl]
          by_cases h' : l < j
          · rw [if_pos h', if_pos (by omega)]
          · rw [if_neg h', if_neg (by omega)], hS.trans (Scrib.set hr.out hd ⟨_, by rw [hg.out j hlt, if_neg (by omega)]⟩ _)⟩
      case measure => simp [intOf]; omega
    · have HJ : Hid (j = n) := by show _ = _; omega
      go_wp2
      exact fin_ hQ ⟨ret_i (by rw [HJ.out]), ⟨by simp [marks], fun _ => ⟨b, N, g, rfl, hd, hN, hr.out, fun i hi => by
        rw [hg.out i hi, if_pos (by have := HJ.out; omega), marks_at hi]⟩⟩, hS⟩

set_option maxHeartbeats 1000000 in
theorem heldIntS (a : Option Addr) (n c : Nat) (D : Nat → Prop) (k : Int) (w : World) (h : IntsL w D a n (marks k n)) (hn : n ≤ 1048576) (h0 : 0 ≤ k) (h1 : k ≤ 4611686018427387904) :
    Calls Try.prog 23 #[.slice a n c, .int .i64 k] w fun e w' => e = .returned (.int .i64 (k + n)) ∧ w = w' := by
  refine calls_k fun Q hQ => ?_
  go_enter Try.func23, Try.ntmps23
  go_wp2
  go_loop [1, 5] (fun kv i => ∃ j : Nat, j ≤ n ∧ i = .int .i64 j ∧ kv = .int .i64 (k + (j : Int))) (fun _ i => n - (intOf i).toNat)
  case atStart => exact ⟨0, Nat.zero_le _, rfl, by simp⟩
  case round =>
    obtain ⟨j, hj, rfl, rfl⟩ := hrel
    by_cases hlt : j < n
    · obtain ⟨b, o, rfl, hd, hc⟩ := h.2 (by omega)
      have d0 := hc j hlt
      rw [marks_at hlt] at d0
      clear hc h
      go_wp2
      go_round
      case rel => exact ⟨j + 1, by omega, by go_num, by congr 1; omega⟩
      case measure => simp [intOf]; omega
    · have HJ : Hid (j = n) := by show _ = _; omega
      go_wp2
      exact fin_ hQ ⟨ret_i (by rw [HJ.out]), rfl⟩

set_option maxHeartbeats 1000000 in
theorem markConS (a : Option Addr) (n c : Nat) (D : Nat → Prop) (k : Int) (w : World) (h : ∃ cs, OwnCons w D a n cs ∧ FitC cs) (h0 : 0 ≤ k) (h1 : k ≤ 4400000000000000000) :
    Calls Try.prog 42 #[.slice a n c, .int .i64 k] w fun e w' => ∃ k' : Int, e = .returned (.int .i64 k') ∧ k ≤ k' ∧ k' ≤ k + 1048576 * n ∧ Scrib D w w' := by
  refine calls_k fun Q hQ => ?_
  have hn : n ≤ 1048576 := by obtain ⟨cs, h2, h3⟩ := h; have := h2.1; have := h3.1; omega
  have H := Lib.hid h
  clear h
  go_enter Try.func42, Try.ntmps42
  go_wp2
  go_loopw [1, 5] (fun kv i wr => ∃ (j : Nat) (k' : Int), j ≤ n ∧ i = .int .i64 j ∧ kv = .int .i64 k' ∧ k ≤ k' ∧ k' ≤ k + 1048576 * j ∧ Scrib D w wr) (fun _ i _ => n - (intOf i).toNat)
  case atStart => exact ⟨0, k, Nat.zero_le _, rfl, rfl, by omega, by omega, Scrib.refl _ _⟩
  case round =>
    obtain ⟨j, k', hj, rfl, rfl, q1, q2, hS⟩ := hrel
    by_cases hlt : j < n
    · obtain ⟨cs, hcs, hfit⟩ := OwnCons.scrib H.out hS
      obtain ⟨b, N, f, rfl, hd, hN, hr, hc⟩ := hcs.2 (by omega)
      obtain ⟨a', m, c', e1, e2, e3⟩ := hc j hlt
      have d0 := hr.cell (i := j) (by omega)
      rw [e1] at d0
      have hm : m ≤ 1048576 := by have := hfit.2 j (by have := hcs.1; omega); have := e3.1; omega
      have E3 := Lib.hid e3
      clear hc hr hcs hfit e1 e3
      go_wp2_with fail
      refine (markIntS _ _ _ _ _ _ _ E3.out hm (by omega) (by omega)).mono ?_
      rintro e w1 ⟨rfl, _, hS1⟩
      go_wp2_with fail
      go_roundw
      case rel => exact ⟨j + 1, k' + m, by omega, by go_num, rfl, by omega, by omega, hS.trans hS1⟩
      case measure => simp [intOf]; omega
    · have HJ : Hid (j = n) := by show _ = _; omega
      go_wp2
      exact fin_ hQ ⟨k', rfl, q1, by have := HJ.out; subst this; exact q2, hS⟩

set_option maxHeartbeats 1000000 in
theorem markDeclS (a : Option Addr) (n c : Nat) (D : Nat → Prop) (k : Int) (w : World) (h : ∃ ds, OwnDecls w D a n ds ∧ FitD ds) (h0 : 0 ≤ k) (h1 : k ≤ 1048576) :
    Calls Try.prog 21 #[.slice a n c, .int .i64 k] w fun e w' => ∃ k' : Int, e = .returned (.int .i64 k') ∧ 0 ≤ k' ∧ k' ≤ k + 1099511627780 * n ∧ Scrib D w w' := by
  refine calls_k fun Q hQ => ?_
  have hn : n ≤ 1048576 := by obtain ⟨cs, h2, h3⟩ := h; have := h2.1; have := h3.1; omega
  have H := Lib.hid h
  clear h
  go_enter Try.func21, Try.ntmps21
  go_wp2
  go_loopw [1, 5] (fun kv i wr => ∃ (j : Nat) (k' : Int), j ≤ n ∧ i = .int .i64 j ∧ kv = .int .i64 k' ∧ 0 ≤ k' ∧ k' ≤ k + 1099511627780 * j ∧ Scrib D w wr) (fun _ i _ => n - (intOf i).toNat)
  case atStart => exact ⟨0, k, Nat.zero_le _, rfl, rfl, by omega, by omega, Scrib.refl _ _⟩
  case round =>
    obtain ⟨j, k', hj, rfl, rfl, q1, q2, hS⟩ := hrel
    by_cases hlt : j < n
    · obtain ⟨ds, hds, hfit⟩ := OwnDecls.scrib H.out hS
      obtain ⟨b, N, f, rfl, hd, hN, hr, hc⟩ := hds.2 (by omega)
      obtain ⟨e0, e1, a', m, c', e2, e3, e4⟩ := hc j hlt
      have d0 := hr.cell (i := j * 3) (by omega)
      have d1 := hr.cell (i := j * 3 + 1) (by omega)
      have d2 := hr.cell (i := j * 3 + 2) (by omega)
      rw [e0] at d0
      rw [e1] at d1
      rw [e2] at d2
      have g0 := hr.frozen (j * 3)
      have g1 := hr.frozen (j * 3 + 1)
      have S1 := Scrib.set hr hd ⟨_, e0⟩ k'
      have hr1 := hr.set (j * 3) (.int .i64 k')
      have S2 := S1.trans (Scrib.set hr1 hd (i := j * 3 + 1) ⟨_, by simp only [if_neg (show j * 3 + 1 ≠ j * 3 by omega)]; exact e1⟩ (k' + 1))
      have hfc := hfit.2 j (by have := hds.1; omega)
      have hm : m ≤ 1048576 := by have := hfc.1; have := e4.1; omega
      have E4 := Lib.hid (OwnCons.scrib ⟨_, e4, hfc⟩ S2)
      have hb : k' ≤ 1152921504606846976 * 2 := by omega
      clear hc hr hr1 hds hfit e0 e1 e2 e4 hfc S1
      go_wp2_with fail
      refine (markConS _ _ _ _ _ _ E4.out (by omega) (by omega)).mono ?_
      rintro e w1 ⟨k2, rfl, r1, r2, hS1⟩
      go_wp2_with fail
      go_roundw
      case rel => exact ⟨j + 1, k2, by omega, by go_num, rfl, by omega, by omega, hS.trans (S2.trans hS1)⟩
      case measure => simp [intOf]; omega
    · have HJ : Hid (j = n) := by show _ = _; omega
      go_wp2
      exact fin_ hQ ⟨k', rfl, q1, by have := HJ.out; subst this; exact q2, hS⟩
end Go.Proofs.Ythdjijhpdgajbaa
