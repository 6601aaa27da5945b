/- append of an integer to a row that others still read: what the row held is there again when the longer one is given up. -/
import Derived.Test.YtaeddcnakilnlaaMGA
import Derived.ArgAppend
import Derived.Test.YtaeddcnakilnlaaShelf
namespace Go.Proofs.Ytaeddcnakilnlaa
open Go.RowKit

/-- v holds xs in a row of its own, from base on. -/
def VR (w : World) (base : Nat) (v : Value) (xs : List Int) : Prop := w.ownsRow base 3 1 v xs.length (xs.map (Value.int .i64))
theorem VR.ext {S : Nat → Prop} {w w' : World} {base : Nat} {v : Value} {xs : List Int} (h : VR w base v xs) (hx : Ext S w w') (hs : ∀ g, v.ownBlock = some g → ¬ S g) : VR w' base v xs := by
  obtain ⟨h1, h2⟩ := h
  refine ⟨h1, ?_⟩
  rcases h2 with h2 | ⟨g, cap, cur, e, hb, hg, rest⟩
  · exact .inl h2
  · exact .inr ⟨g, cap, cur, e, hb, (hx.block g (Array.getElem?_eq_some_iff.1 hg).1 (hs g (by rw [e]; rfl))).trans hg, rest⟩
theorem VR.k {w w' : World} {base : Nat} {v : Value} {xs : List Int} (h : VR w base v xs) (hx : Keep w w') : VR w' base v xs := h.ext hx (fun _ _ h => h)
theorem VR.lt {w : World} {base : Nat} {v : Value} {xs : List Int} (h : VR w base v xs) : ∀ k, v.ownBlock = some k → base ≤ k ∧ k < w.heap.size := World.ownsRow.lt h
theorem VR.slice {w : World} {base : Nat} {v : Value} {xs : List Int} (h : VR w base v xs) : ∃ a c, v = .slice a xs.length c ∧ xs.length ≤ c ∧ OwnInts w (fun k => v.ownBlock = some k) a xs.length xs := by
  have h0 := h
  obtain ⟨h1, h2⟩ := h
  obtain ⟨a, c, e, hc, ho⟩ := own_of_row h0
  refine ⟨a, c, e, hc, ho.1, fun hn => ?_⟩
  obtain ⟨b, N, f, ea, hd, q1, q2, q3⟩ := ho.2 hn
  exact ⟨b, N, f, ea, by rw [e, ea]; rfl, q1, q2, q3⟩

/-- What an append of y to v leaves. -/
structure AppV (w : World) (base : Nat) (v : Value) (xs : List Int) (y : Int) (v' : Value) (w' : World) : Prop where
  row : VR w' base v' (xs ++ [y])
  ext : Ext (fun r => v.ownBlock = some r) w w'
  old : VR w' base v xs
  back : ∀ w'', Ext (fun r => v'.ownBlock = some r) w' w'' → VR w'' base v' (xs ++ [y]) → VR w'' base v xs
  blk : ∀ r, v'.ownBlock = some r → v.ownBlock = some r ∨ w.heap.size ≤ r

theorem run_appV (w : World) (ty : TypeId) (base : Nat) (v : Value) (xs : List Int) (hown : VR w base v xs) (g c : Nat) (y : Int) (hc : w.cell? ⟨g, 0, none⟩ = some (.int .i64 y)) (hn : xs.length ≤ 4000000) (hbase : base ≤ w.heap.size) :
    ∃ v' w', (Builtin.append_ #[26, 26] ty #[v, .slice (some ⟨g, 0, none⟩) 1 c]).run Try.prog w = .ok v' w' ∧ AppV w base v xs y v' w' := by
  obtain ⟨i, hi, hzz⟩ := Option.map_eq_some_iff.1 (show (Try.prog.info? 3).map (fun i => (i.zero, i.size, i.bytes)) = some (some (.int .i64 0), 1, 8) by kernel_rfl)
  simp only [Prod.mk.injEq] at hzz
  obtain ⟨hz, hsize, hby⟩ := hzz
  have hnews : ∀ (j : Nat) (u : Value), [Value.int .i64 y][j]? = some u → w.cell? ((⟨g, 0, none⟩ : Addr).add j) = some u := by
    intro j u hj
    rcases j with _ | j
    · simp at hj; subst hj; simpa [Addr.add] using hc
    · simp at hj
  have hone : ∀ u ∈ [Value.int .i64 y], u.oneCell' = true := by simp [Value.oneCell']
  rcases hown.2 with ⟨rfl, h0⟩ | ⟨gg, cap, cur, rfl, hb, hg, hnc, hcm, hsz, htake⟩
  · have hx : xs = [] := List.eq_nil_of_length_eq_zero h0
    subst hx
    obtain ⟨v', w', hrun, h2, h3, h4⟩ := run_append_c (P := Try.prog) w base 26 ty 3 i (.int .i64 0) 1 8 Try.underlying26 hi hz hsize hby rfl (by omega) (.slice none 0 0) 0 [] (World.ownsRow_nil _ _ _ _) (some ⟨g, 0, none⟩) 1 c [.int .i64 y]
      ⟨rfl, fun _ => ⟨g, 0, rfl, fun j u hj => by rw [Nat.zero_add]; have := hnews j u hj; rwa [Addr.add_lit, Nat.zero_add] at this⟩⟩ hone (by simp [maxLen]) (by omega) hbase
    exact ⟨v', w', hrun, by simpa [VR] using h2, ⟨h3.os, h3.tape, h3.output, h3.size, fun k hk hn => h3.block k hk (fun e => hn e.symm)⟩, World.ownsRow_nil _ _ _ _, fun _ _ _ => World.ownsRow_nil _ _ _ _, fun r hr => by
      rcases h4 with h4 | h4
      · rw [h4] at hr; cases hr
      · rw [h4] at hr; injection hr with hr; right; omega⟩
  · rw [Nat.mul_one] at hsz htake
    by_cases hroom : xs.length + 1 ≤ cap
    · have hrun := run_append_room (P := Try.prog) w 26 ty 3 i Try.underlying26 hi gg xs.length cap cur hg ⟨g, 0, none⟩ 1 c [.int .i64 y] (by rw [hsize]; rfl) hnews hone hroom (by rw [hsize]; simp; omega)
      rw [hsize, Nat.mul_one] at hrun
      have hlt : gg < w.heap.size := (Array.getElem?_eq_some_iff.1 hg).1
      have hclen : cur.toList.length = cap := by simpa using hsz
      generalize hC : (cur.toList.take xs.length ++ [Value.int .i64 y] ++ cur.toList.drop (xs.length + [Value.int .i64 y].length)).toArray = C at hrun
      have hCs : C.size = cap := by rw [← hC]; simp; omega
      have hCt : C.toList.take (xs.length + 1) = (xs ++ [y]).map (Value.int .i64) := by
        rw [← hC, htake, List.map_append]
        rw [List.take_append_of_le_length (by simp)]
        rw [List.take_of_length_le (by simp)]
        rfl
      have hX : Ext (fun r => r = gg) w (w.setRow gg C) := ⟨rfl, rfl, rfl, by simp [World.setRow], fun k hk hne => setRow_other w gg k C (fun e => hne e)⟩
      have hg2 : (w.setRow gg C).heap[gg]? = some (.cells C 3 (0, 0)) := by simp [World.setRow, Array.getElem?_modify, hg]
      refine ⟨_, _, hrun, ⟨by simp, .inr ⟨gg, cap, C, by simp, hb, hg2, by simpa using hroom, hcm, by omega, by rw [Nat.mul_one]; simpa using hCt⟩⟩, hX.mono (fun r _ hr => by rw [hr]; rfl), ?_, ?_, fun r hr => .inl hr⟩
      · refine ⟨by simp, .inr ⟨gg, cap, C, rfl, hb, hg2, hnc, hcm, by omega, ?_⟩⟩
        have := congrArg (List.take xs.length) hCt
        rw [List.take_take, Nat.min_eq_left (by omega), List.map_append, List.take_left' (by simp)] at this
        rw [Nat.mul_one]; exact this
      · rintro w'' hx ⟨_, h2⟩
        rcases h2 with ⟨e, _⟩ | ⟨g', cap', cur', e, hb', hg', _, _, hsz', htake'⟩
        · cases e
        · injection e with e1 _ e3
          injection e1 with e1
          injection e1 with e1
          subst e1 e3
          refine ⟨by simp, .inr ⟨gg, cap, cur', rfl, hb, hg', hnc, hcm, hsz', ?_⟩⟩
          have := congrArg (List.take xs.length) htake'
          rw [Nat.mul_one, List.take_take, List.length_append, Nat.min_eq_left (by simp), List.map_append, List.take_left' (by simp)] at this
          rw [Nat.mul_one]; exact this
    · obtain ⟨v', w', hrun, h2, h3⟩ := run_append_arg_grows (P := Try.prog) w 26 ty 3 i (.int .i64 0) 1 8 Try.underlying26 hi hz hsize hby rfl (by omega) ⟨gg, 0, none⟩ xs.length cap (xs.map (Value.int .i64)) (by simp) (fun j u hj => by
          rw [Addr.add_lit, Nat.zero_add, cell_of_row _ gg j cur 3 (0, 0) hg]
          have hj' : j < xs.length := by
            rcases Nat.lt_or_ge j xs.length with h | h
            · exact h
            · rw [List.getElem?_eq_none (by simpa using h)] at hj; cases hj
          rw [← htake, List.getElem?_take, if_pos hj', Array.getElem?_toList] at hj
          exact hj) ⟨g, 0, none⟩ 1 c [.int .i64 y] rfl hnews (by omega) (by simp [maxLen]; omega) (by omega)
      have hk : Keep w w' := ⟨h3.os, h3.tape, h3.output, h3.size, fun k hk _ => h3.block k hk (by simp)⟩
      have hold : VR w' base (.slice (some ⟨gg, 0, none⟩) xs.length cap) xs := hown.k hk
      have hrow : VR w' w.heap.size v' (xs ++ [y]) := by simpa [VR] using h2
      refine ⟨v', w', hrun, ?_, Keep.to hk, hold, fun w'' hx _ => hold.ext hx (fun q hq hq' => ?_), fun r hr => .inr (hrow.lt r hr).1⟩
      · obtain ⟨q1, q2⟩ := hrow
        refine ⟨q1, ?_⟩
        rcases q2 with q2 | ⟨g', cap', cur', e, hb', rest⟩
        · exact .inl q2
        · exact .inr ⟨g', cap', cur', e, Nat.le_trans hbase hb', rest⟩
      · have h1 := (hown.lt q hq).2
        have h2 := (hrow.lt q hq').1
        omega
/-- The same as one step of a region that draws. -/
theorem step_appV {ops : Array Oper} {o : Oper} {a : Act} {w : World} {K : Act → World → Prop} {Q : Exit → Act → World → Prop} {E : Prop} (hgd : o.guard = none) (s x : Operand)
    (ho : o.op = .call { callee := .builtin .append, args := #[s, x], argTypes := #[26, 26] })
    (base : Nat) (v : Value) (xs : List Int) (hs : a.eval s = v) (hown : VR w base v xs) (g c : Nat) (y : Int) (hx : a.eval x = .slice (some ⟨g, 0, none⟩) 1 c) (hc : w.cell? ⟨g, 0, none⟩ = some (.int .i64 y)) (hn : xs.length ≤ 4000000) (hbase : base ≤ w.heap.size)
    (h : ∀ v' w', AppV w base v xs y v' w' → K (a.put o.dst v') w') :
    if Region.wanted o (yielded ops a.tmps) = true then Oper.wp Try.prog o a w K Q else E := by
  have hw : Region.wanted o (yielded ops a.tmps) = true := by simp [Region.wanted, hgd]
  rw [if_pos hw]
  obtain ⟨v', w', hrun, h1⟩ := run_appV w o.type base v xs hown g c y hc hn hbase
  unfold Oper.wp
  simp [execOp, ho, resolve, invoke, builtin, hs, hx, hrun, Result.andThen]
  exact h v' w' h1
end Go.Proofs.Ytaeddcnakilnlaa
/- slices.Concat of two slices of integers. -/
namespace Go.Proofs.Ytaeddcnakilnlaa
open Go.RowKit

theorem growNil (n : Nat) (w : World) (hn : n ≤ 4000000) :
    Calls Try.prog 181 #[.slice none 0 0, .int .i64 (n : Int)] w fun e w' => ∃ v, e = .returned v ∧ VR w' w.heap.size v [] ∧ Keep w w' := by
  rcases Nat.eq_zero_or_pos n with h0 | h0
  · subst h0
    refine (Try.slices_Grow_zero w).mono ?_
    rintro e w' ⟨rfl, rfl⟩
    exact ⟨_, rfl, World.ownsRow_nil _ _ _ _, Ext.refl _ _⟩
  · obtain ⟨i, hi, hzz⟩ := Option.map_eq_some_iff.1 (show (Try.prog.info? 3).map (fun i => (i.zero, i.size, i.bytes)) = some (some (.int .i64 0), 1, 8) by kernel_rfl)
    simp only [Prod.mk.injEq] at hzz
    obtain ⟨hz, hsize, hby⟩ := hzz
    refine (Try.slices_Grow_nil i (.int .i64 0) hi hz (by omega) n w (by omega) (by rw [hby]; omega) (by omega)).mono ?_
    rintro e w' ⟨rfl, rfl⟩
    refine ⟨_, rfl, ?_, (Ext.refl _ w).drew.trans (Keep.al _ _)⟩
    refine World.ownsRow_made (w := w.drew) _ _ (Nat.le_refl _) ?_ ?_
    · exact grownCap_le_maxLen _ _ _ _ (by simp [maxLen]; omega)
    · have h5 := grownCap_ge w (0 + n) 0 3
      simp only [Nat.zero_add] at h5
      simp [Builtin.zeroCells, Value.cells]
      omega

set_option maxHeartbeats 2000000 in
theorem concatTwo (g cc : Nat) (a : Option Addr) (n c : Nat) (xs : List Int) (D : Nat → Prop) (a' : Option Addr) (n' c' : Nat) (ys : List Int) (D' : Nat → Prop) (w : World) (h0 : w.cell? ⟨g, 0, none⟩ = some (.slice a n c)) (h1 : w.cell? ⟨g, 1, none⟩ = some (.slice a' n' c')) (hx : IntsL w D a n xs) (hy : IntsL w D' a' n' ys) (hn : n ≤ 1052000) (hn' : n' ≤ 1052000) :
    Calls Try.prog 161 #[.slice (some ⟨g, 0, none⟩) 2 cc] w fun e w' => ∃ v, e = .returned v ∧ VR w' w.heap.size v (xs ++ ys) ∧ Keep w w' := by
  refine calls_k fun Q hQ => ?_
  have HX := Lib.hid hx
  have HY := Lib.hid hy
  clear hx hy
  go_enter Try.func161, Try.ntmps161
  go_wp2_with fail
  go_loop [3, 11] (fun sv iv => (iv = .int .i64 (0 : Nat) ∧ sv = .int .i64 (0 : Nat)) ∨ (iv = .int .i64 (1 : Nat) ∧ sv = .int .i64 (n : Nat)) ∨ (iv = .int .i64 (2 : Nat) ∧ sv = .int .i64 ((n + n' : Nat) : Int))) (fun _ iv => 2 - (intOf iv).toNat)
  case atStart => exact .inl ⟨rfl, rfl⟩
  case round =>
    rcases hrel with ⟨rfl, rfl⟩ | ⟨rfl, rfl⟩ | ⟨rfl, rfl⟩
    · go_wp2_with fail
      go_round
      case rel => exact .inr (.inl ⟨by go_num, by go_num⟩)
      case measure => simp [intOf]
    · go_wp2_with fail
      go_round
      case rel => exact .inr (.inr ⟨by go_num, by go_num⟩)
      case measure => simp [intOf]
    · go_wp2_with fail
      refine (growNil (n + n') w (by omega)).mono ?_
      rintro e w1 ⟨v, rfl, hv, p1⟩
      have HV := Lib.hid hv
      have P1 := Lib.hid p1
      clear hv
      go_wp2_with fail
      have G0 := Lib.hid h0
      have G1 := Lib.hid h1
      go_loopw [6, 27] (fun v iv wr => ((iv = .int .i64 (0 : Nat) ∧ Hid (VR wr w.heap.size v [])) ∨ (iv = .int .i64 (1 : Nat) ∧ Hid (VR wr w.heap.size v xs)) ∨ (iv = .int .i64 (2 : Nat) ∧ Hid (VR wr w.heap.size v (xs ++ ys)))) ∧ Hid (Keep w wr)) (fun _ iv _ => 2 - (intOf iv).toNat)
      case atStart => exact ⟨.inl ⟨rfl, HV⟩, P1⟩
      case round =>
        obtain ⟨hr, hK⟩ := hrel
        clear h0 h1
        have k0 := (hK.out.cell (World.block_lt_of_cell? _ _ G0.out) (fun h => h)).trans G0.out
        have k1 := (hK.out.cell (World.block_lt_of_cell? _ _ G1.out) (fun h => h)).trans G1.out
        have hbs : w.heap.size ≤ wr.heap.size := hK.out.size
        rcases hr with ⟨rfl, hv⟩ | ⟨rfl, hv⟩ | ⟨rfl, hv⟩
        · have hx2 := HX.out.ext hK.out (fun _ _ h => h)
          go_wp2_with (at_builtin; refine wpList_appInts _ rfl (.tmp 31) (.tmp 32) rfl w.heap.size u6 0 [] rfl hv.out a n c xs D rfl hx2 (by omega) (by omega) ?_; intro v' w' ho hg)
          have hv2 : Hid (VR w' w.heap.size v' xs) := by have h := ho; have hl := HX.out.1; show VR _ _ _ _; rw [VR, hl]; simpa using h
          have hK2 := Lib.hid (hK.out.grown hg (fun q hq => .inl (hv.out.lt q hq).1))
          go_roundw
          case rel => exact ⟨.inr (.inl ⟨by go_num, hv2⟩), hK2⟩
          case measure => simp [intOf]
        · have hx2 := HY.out.ext hK.out (fun _ _ h => h)
          have hxl : xs.length ≤ 1052000 := by have := HX.out.1; omega
          go_wp2_with (at_builtin; refine wpList_appInts _ rfl (.tmp 31) (.tmp 32) rfl w.heap.size u6 xs.length xs rfl hv.out a' n' c' ys D' rfl hx2 (by omega) (by omega) ?_; intro v' w' ho hg)
          have hv2 : Hid (VR w' w.heap.size v' (xs ++ ys)) := by have h := ho; have hl := HY.out.1; show VR _ _ _ _; rw [VR, List.length_append, hl]; exact h
          have hK2 := Lib.hid (hK.out.grown hg (fun q hq => .inl (hv.out.lt q hq).1))
          go_roundw
          case rel => exact ⟨.inr (.inr ⟨by go_num, hv2⟩), hK2⟩
          case measure => simp [intOf]
        · go_wp2_with fail
          exact fin_ hQ ⟨_, rfl, hv.out, hK.out⟩
end Go.Proofs.Ytaeddcnakilnlaa
