/- ValidSigs of both. -/
import Derived.Test.YtomgellcpjimjaaZSigs2
namespace Go.Proofs.Ytomgellcpjimjaa
open Go.RowKit

theorem specValidSigs (ds : List DeclL) (fs : List FuncL) (a0 : Option Addr) (n0 c0 : Nat) (a1 : Option Addr) (n1 c1 : Nat) (D0 D1 : Nat → Prop) (w : World) (r0 : Rd w D0 (encDecls ds) (.slice a0 n0 c0)) (r1 : Rd w D1 (encFuncs fs) (.slice a1 n1 c1)) :
    Calls Try.prog 33 #[.agg #[.slice a0 n0 c0, .slice a1 n1 c1]] w fun e w' => e = .returned (.bool (sigsOk ds (fs.map sigF))) ∧ Keep w w' := by
  refine calls_k fun Q hQ => ?_
  have K0 := Keep.al w (.cells #[.slice a0 n0 c0, .slice a1 n1 c1] 41)
  go_enter Try.func33, Try.ntmps33
  go_wp2_with fail
  refine (specValidSigs0 _ _ _ _ _ _ _ _ _ _ _ (r0.k K0) (r1.k K0)).mono ?_
  rintro e w1 ⟨rfl, p1⟩
  go_wp2_with fail
  exact fin_ hQ ⟨rfl, K0.trans p1⟩

/-- An empty slice with room. -/
theorem wpList_makeR {P : Program} (w : World) {ops : Array Oper} {rest : List Oper} {o : Oper} {a : Act} {Q : Exit → Act → World → Prop}
    (hg : o.guard = none) (l c : Operand) (t : TypeId) (hop : o.op = Op.makeSlice t l c)
    (base : Nat) (e : TypeId) (z : Value) (size bytes : Nat) (h1 : P.underlying t = some (.slice e)) (hinfo : (P.info? e).map (fun i => (i.zero, i.size, i.bytes)) = some (some z, size, bytes))
    (C : Int) (n : Nat) (hl : a.eval l = .int .i64 0) (hc : a.eval c = .int .i64 C) (hC : C = (n : Int)) (b2 : bytes * n ≤ 281474976710656) (b3 : n ≤ maxLen) (b4 : base ≤ w.heap.size) (D : Nat → Prop)
    (hK : ∀ w', AccR w' base D e size (.slice (some ⟨w.heap.size, 0, none⟩) 0 n) [] → Keep w w' → wpList P ops Q rest (a.put o.dst (.slice (some ⟨w.heap.size, 0, none⟩) 0 n)) w') :
    wpList P ops Q (o :: rest) a w := by
  obtain ⟨i, hi, hz0, hz1, hz2⟩ := info_parts hinfo
  exact wpList_make_own w hg l c t hop base e i z size h1 hi hz0 hz1 .i64 .i64 C n hl hc hC (by rw [hz2]; exact b2) b3 b4 (fun w' h g => hK w' ⟨[], h, by simp, by simp⟩ (Ext.grown (Ext.refl _ _) g (fun k hk => by cases hk)))

/-- One signature, laid into a new block. -/
theorem lit_sig (w : World) (D : Nat → Prop) (T : TypeId) (s : SigL) (a : Option Addr) (n c : Nat) (a' : Option Addr) (n' c' : Nat) (hB : D w.heap.size) (h : Rd w D (encInts s.params) (.slice a n c)) (h' : Rd w D (encInts s.lent) (.slice a' n' c')) :
    Rd (w.alloc (.cells #[.slice a n c, .slice a' n' c', .int .i64 s.result] T)) D (encSigs [s]) (.slice (some ⟨w.heap.size, 0, none⟩) 1 1) := by
  refine Rd.litD w D T 3 _ ([s].map rowG) 1 hB (by simp) (by omega) (by omega) (by simp) (fun i hi => by rw [sigs_row [s] i (by simpa using hi)]; rfl) (fun i j hi hj => ?_)
  obtain rfl : i = 0 := by simpa using hi
  rcases (show j = 0 ∨ j = 1 ∨ j = 2 by omega) with rfl | rfl | rfl
  · exact ⟨_, rfl, h⟩
  · exact ⟨_, rfl, h'⟩
  · exact ⟨_, rfl, .num s.result⟩

set_option maxRecDepth 100000 in
set_option maxHeartbeats 2000000 in
theorem implValidSigs (ds : List DeclL) (fs : List FuncL) (a0 : Option Addr) (n0 c0 : Nat) (a1 : Option Addr) (n1 c1 : Nat) (D0 D1 : Nat → Prop) (w : World) (r0 : Rd w D0 (encDecls ds) (.slice a0 n0 c0)) (r1 : Rd w D1 (encFuncs fs) (.slice a1 n1 c1)) :
    Calls Try.prog 32 #[.agg #[.slice a0 n0 c0, .slice a1 n1 c1]] w fun e w' => e = .returned (.bool (sigsOk ds (fs.map sigF))) ∧ Keep w w' := by
  refine calls_k fun Q hQ => ?_
  have K0 := Keep.al w (.cells #[.slice a0 n0 c0, .slice a1 n1 c1] 41)
  obtain ⟨e1, hnc, hm, hat⟩ := funcs_at r1
  have HL := Lib.hid e1
  have HA := Lib.hid hat
  have HLM : Hid ((fs.map sigF).length = n1) := by show _ = _; simp [e1]
  clear e1 hat
  by_cases hl4 : n1 ≤ 4
  case neg =>
    have V := Lib.hid (sigsOk_len (ds := ds) (sg := fs.map sigF) (by have := HLM.out; omega))
    go_enter Try.func32, Try.ntmps32
    go_wp2_with (at_make; refine wpList_makeR _ rfl _ _ 71 rfl (w.heap.size + 1) 73 (.agg #[.slice none 0 0, .slice none 0 0, .int .i64 0]) 3 56 Try.underlying71 (by kernel_rfl) 4 4 rfl rfl rfl (by omega) (by simp [maxLen]) (by simp) (fun k => k ≠ w.heap.size) ?_; intro w1 hA hk1; have x1 := boxk hk1 1; simp at x1)
    exact fin_ hQ ⟨ret_b V.out.symm, K0.trans hk1⟩
  have ER : Hid (∀ j, j < n1 → (fs.map sigF).take (j + 1) = (fs.map sigF).take j ++ [sigF (fAt fs j)]) := fun j hj => by
    have hj' : j < (fs.map sigF).length := by have := HLM.out; omega
    rw [List.take_succ_eq_append_getElem hj', ← sgAt_get hj', sgAt_sigF _ (by simpa using hj')]
  go_enter Try.func32, Try.ntmps32
  go_wp2_with (at_make; refine wpList_makeR _ rfl _ _ 71 rfl (w.heap.size + 1) 73 (.agg #[.slice none 0 0, .slice none 0 0, .int .i64 0]) 3 56 Try.underlying71 (by kernel_rfl) 4 4 rfl rfl rfl (by omega) (by simp [maxLen]) (by simp) (fun k => k ≠ w.heap.size) ?_; intro w1 hA hk1; have x1 := boxk hk1 1; simp at x1)
  clear x1
  go_loopw [3, 14] (fun sv iv wr => ∃ j : Nat, j ≤ n1 ∧ iv = .int .i64 j ∧ AccR wr (w.heap.size + 1) (fun k => k ≠ w.heap.size) 73 3 sv (((fs.map sigF).take j).map rowG) ∧ Keep (w.alloc (.cells #[.slice a0 n0 c0, .slice a1 n1 c1] 41)) wr) (fun _ i _ => n1 - (intOf i).toNat)
  case atStart => exact ⟨0, Nat.zero_le _, rfl, by simpa using hA, hk1⟩
  case round =>
    obtain ⟨j, hj, rfl, hB, hK⟩ := hrel
    have hs := hK.size
    simp at hs
    by_cases hlt : j < n1
    · obtain ⟨b, o, rfl, hd, a3, n3, c3, a4, n4, c4, d0, d1, d2, d3, d4, r3, r4⟩ := HA.out j hlt
      have hKw := K0.trans hK
      have g0 := (hKw.cell (World.block_lt_of_cell? w _ d0) (fun h => h)).trans d0
      have g1 := (hKw.cell (World.block_lt_of_cell? w _ d1) (fun h => h)).trans d1
      have g2 := (hKw.cell (World.block_lt_of_cell? w _ d2) (fun h => h)).trans d2
      have g3 := (hKw.cell (World.block_lt_of_cell? w _ d3) (fun h => h)).trans d3
      have g4 := (hKw.cell (World.block_lt_of_cell? w _ d4) (fun h => h)).trans d4
      have ka := Keep.al wr (.cells #[.slice a3 n3 c3, .int .i64 (fAt fs j).result, .int .i64 (fAt fs j).body.op, .int .i64 (fAt fs j).body.num, .slice a4 n4 c4] 47)
      have bnd := hB.bound
      have q3 := ((r3.lt.k hKw).k ka).mono (D' := fun k => k ≠ w.heap.size ∧ u3.ownBlock ≠ some k) (fun k hk => ⟨by omega, fun e => by have := bnd k e; omega⟩)
      have kl := Keep.al (wr.alloc (.cells #[.slice a3 n3 c3, .int .i64 (fAt fs j).result, .int .i64 (fAt fs j).body.op, .int .i64 (fAt fs j).body.num, .slice a4 n4 c4] 47)) (.cells #[.slice a3 n3 c3, .slice none 0 0, .int .i64 (fAt fs j).result] 73)
      have hX := lit_sig (wr.alloc (.cells #[.slice a3 n3 c3, .int .i64 (fAt fs j).result, .int .i64 (fAt fs j).body.op, .int .i64 (fAt fs j).body.num, .slice a4 n4 c4] 47)) (fun k => k ≠ w.heap.size ∧ u3.ownBlock ≠ some k) 73 (sigF (fAt fs j)) a3 n3 c3 none 0 0 ⟨by simp; omega, fun e => by have := bnd _ e; simp at this; omega⟩ q3 (.nil 1 none 0)
      simp only [World.size_alloc, sigF] at hX
      have hO2 := (hB.keep ka).keep kl
      have hlr : (((fs.map sigF).take j).map rowG).length = j := by
        rw [List.length_map, List.length_take, HLM.out]; omega
      have HLR := Lib.hid hlr
      have hBB := Lib.hid (hK.trans (ka.trans kl))
      clear d0 d1 d2 d3 d4 r3 r4 bnd q3 hlr hKw ka kl hB
      go_wp2_with (at_builtin; go_must (refine wpList_appR _ rfl (.tmp 18) (.tmp 24) 71 rfl (w.heap.size + 1) 73 (.agg #[.slice none 0 0, .slice none 0 0, .int .i64 0]) 3 56 Try.underlying71 (by kernel_rfl) rfl (by omega) (fun k => k ≠ w.heap.size) _ _ rfl hO2 _ 1 1 _ _ rfl hX (fun k _ hk => hk) (by rw [HLR.out]; omega) (by rw [HLR.out]; omega) (by simp; omega) ?_); intro v1 w10 hA2 xA sA)
      go_roundw
      case rel => exact ⟨j + 1, by omega, by go_num, by rw [ER.out j hlt, List.map_append]; exact hA2, hBB.out.then_ xA (fun q hq h => by simp at hq; omega)⟩
      case measure => simp [intOf]; omega
    · have HJ : Hid (j = n1) := by show _ = _; omega
      have x0 := boxk hK 0
      simp at x0
      rw [List.take_of_length_le (by have := HLM.out; have := HJ.out; omega)] at hB
      obtain ⟨a', c', e, _, _, rd⟩ := hB.read (by omega)
      rw [List.length_map, HLM.out] at e
      subst e
      go_wp2_with fail
      refine (implValidSigs0 ds (fs.map sigF) a0 n0 c0 a' n1 c' _ _ wr (r0.k (K0.trans hK)) rd).mono ?_
      rintro e w2 ⟨rfl, p2⟩
      go_wp2_with fail
      exact fin_ hQ ⟨rfl, (K0.trans hK).trans p2⟩
end Go.Proofs.Ytomgellcpjimjaa
