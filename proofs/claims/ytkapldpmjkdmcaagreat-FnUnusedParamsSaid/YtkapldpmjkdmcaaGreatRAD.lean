/- append onto a row of the call's own: elements that can be read; integers. -/
import Derived.Test.YtkapldpmjkdmcaaGreatRAC
import Derived.Maps.AppendAt
import Derived.Deep.AppendLies
import Derived.RegionTactic
import Derived.OwnWalk
namespace Go.Proofs.YtkapldpmjkdmcaaGreat
open Go.RowKit

/-- A slice of m elements of s cells each that holds the cells xs. -/
def HoldsC (w : World) (s : Nat) (A : Option Addr) (m : Nat) (xs : List Value) : Prop :=
  xs.length = m * s ∧ (0 < m → ∃ b o, A = some ⟨b, o, none⟩ ∧ ∀ j u, xs[j]? = some u → w.cell? ⟨b, o + j, none⟩ = some u)

section
variable {P : Program} (w : World)

theorem run_append_nil0 (base : Nat) (t ty e : TypeId) (i : TypeInfo) (size : Nat) (ht : P.underlying t = some (.slice e)) (hi : P.info? e = some i)
    (v : Value) (n : Nat) (xs : List Value) (hown : w.ownsRow base e size v n xs) (c : Nat) : (Builtin.append_ #[t, t] ty #[v, .slice none 0 c]).run P w = .ok v w := by
  rcases hown.2 with ⟨rfl, rfl⟩ | ⟨g, cap, cur, rfl, _, _, hnc, _⟩
  · simp [Builtin.append_, run_underlying ht, sizeOf, typeInfo, hi, Builtin.lenOf, Builtin.firstCells]
  · simp [Builtin.append_, run_underlying ht, sizeOf, typeInfo, hi, Builtin.lenOf, Builtin.firstCells, hnc, storeCells]

theorem run_append_c (base : Nat) (t ty e : TypeId) (i : TypeInfo) (z : Value) (size bytes : Nat) (ht : P.underlying t = some (.slice e)) (hi : P.info? e = some i) (hz : i.zero = some z)
    (hsize : i.size = size) (hby : i.bytes = bytes) (hzs : z.cells.size = size) (hsz : 0 < size)
    (v : Value) (n : Nat) (xs : List Value) (hown : w.ownsRow base e size v n xs)
    (A : Option Addr) (m c : Nat) (news : List Value) (hr : HoldsC w size A m news) (h1 : ∀ u ∈ news, u.oneCell' = true)
    (h63 : n + m ≤ maxLen) (hbytes : (n + m) * bytes ≤ 140737488355328) (hbase : base ≤ w.heap.size) :
    ∃ v' w', (Builtin.append_ #[t, t] ty #[v, .slice A m c]).run P w = .ok v' w' ∧ w'.ownsRow base e size v' (n + m) (xs ++ news) ∧ w.grownBy w' v.ownBlock ∧
      (v'.ownBlock = v.ownBlock ∨ v'.ownBlock = some w.heap.size) := by
  rcases A with _ | ad
  · have hm : m = 0 := by
      rcases Nat.eq_zero_or_pos m with h0 | h0
      · exact h0
      · obtain ⟨b, o, h, _⟩ := hr.2 h0
        cases h
    subst hm
    have hn : news = [] := List.eq_nil_of_length_eq_zero (by simpa using hr.1)
    subst hn
    exact ⟨v, w, run_append_nil0 w base t ty e i size ht hi v n xs hown c, by simpa using hown, World.grownBy.refl w _, .inl rfl⟩
  · have hcells : ∀ j u, news[j]? = some u → w.cell? (ad.add j) = some u := by
      intro j u hu
      rcases Nat.eq_zero_or_pos m with h0 | h0
      · subst h0
        have hn : news = [] := List.eq_nil_of_length_eq_zero (by simpa using hr.1)
        subst hn
        simp at hu
      · obtain ⟨b, o, h, hc⟩ := hr.2 h0
        injection h with h
        subst h
        rw [Addr.add_lit]
        exact hc j u hu
    obtain ⟨v', w', hrun, h2, h3, _, h5⟩ := run_append_own_at (P := P) w base t ty e i z size bytes ht hi hz hsize hby hzs hsz v n xs hown ad m c news hr.1 hcells h1 h63 hbytes hbase
    exact ⟨v', w', hrun, h2, h3, h5⟩

theorem wpList_app {ops : Array Oper} {rest : List Oper} {o : Oper} {a : Act} {Q : Exit → Act → World → Prop} (hgd : o.guard = none) (s x : Operand) (t : TypeId)
    (ho : o.op = .call { callee := .builtin .append, args := #[s, x], argTypes := #[t, t] })
    (base : Nat) (e : TypeId) (z : Value) (size bytes : Nat) (ht : P.underlying t = some (.slice e)) (hinfo : (P.info? e).map (fun i => (i.zero, i.size, i.bytes)) = some (some z, size, bytes))
    (hzs : z.cells.size = size) (hsz : 0 < size)
    (v : Value) (n : Nat) (xs : List Value) (hs : a.eval s = v) (hown : w.ownsRow base e size v n xs)
    (A : Option Addr) (m c : Nat) (news : List Value) (hx : a.eval x = .slice A m c) (hr : HoldsC w size A m news) (h1 : ∀ u ∈ news, u.oneCell' = true)
    (hbytes : (n + m) * bytes ≤ 140737488355328) (h63 : n + m ≤ 9223372036854775807) (hbase : base ≤ w.heap.size)
    (h : ∀ v' w', w'.ownsRow base e size v' (n + m) (xs ++ news) → w.grownBy w' v.ownBlock → (v'.ownBlock = v.ownBlock ∨ v'.ownBlock = some w.heap.size) → wpList P ops Q rest (a.put o.dst v') w') : wpList P ops Q (o :: rest) a w := by
  obtain ⟨i, hi, hzz⟩ := Option.map_eq_some_iff.1 hinfo
  simp only [Prod.mk.injEq] at hzz
  obtain ⟨hz, hsize, hby⟩ := hzz
  refine wpList_plain hgd fun K hK => ?_
  obtain ⟨v', w', hrun, h2, h3, h4⟩ := run_append_c (P := P) w base t o.type e i z size bytes ht hi hz hsize hby hzs hsz v n xs hown A m c news hr h1 (by simp only [maxLen]; omega) hbytes hbase
  unfold Oper.wp execOp
  simp only [ho, resolve, invoke, builtin, Sem.run_bind, Sem.run_pure, Result.andThen_ok, List.map_toArray, List.map_cons, List.map_nil, hs, hx, hrun]
  exact hK _ _ (h v' w' h2 h3 h4)
end

/-- An integer behind a row of integers of the call's own. -/
theorem wpList_appInt (w : World) {ops : Array Oper} {rest : List Oper} {o : Oper} {a : Act} {Q : Exit → Act → World → Prop} (hgd : o.guard = none) (s x : Operand)
    (ho : o.op = .call { callee := .builtin .append, args := #[s, x], argTypes := #[52, 52] })
    (base : Nat) (v : Value) (n : Nat) (xs : List Int) (hs : a.eval s = v) (hown : w.ownsRow base 3 1 v n (xs.map (Value.int .i64)))
    (g c : Nat) (y : Int) (hx : a.eval x = .slice (some ⟨g, 0, none⟩) 1 c) (hc : w.cell? ⟨g, 0, none⟩ = some (.int .i64 y)) (hn : n ≤ 1099511627776) (hbase : base ≤ w.heap.size)
    (h : ∀ v' w', w'.ownsRow base 3 1 v' (n + 1) ((xs ++ [y]).map (Value.int .i64)) → w.grownBy w' v.ownBlock → wpList Tryz.prog ops Q rest (a.put o.dst v') w') : wpList Tryz.prog ops Q (o :: rest) a w := by
  refine wpList_app w hgd s x 52 ho base 3 (.int .i64 0) 1 8 Tryz.underlying52 (by kernel_rfl) rfl (by omega) v n _ hs hown (some ⟨g, 0, none⟩) 1 c [.int .i64 y] hx ⟨rfl, fun _ => ⟨g, 0, rfl, fun j u hj => ?_⟩⟩ (by simp [Value.oneCell']) (by omega) (by omega) hbase
    (fun v' w' h1 h2 _ => h v' w' (by simpa using h1) h2)
  rcases j with _ | j
  · simp at hj; subst hj; simpa using hc
  · simp at hj

/-- Integers that can be read behind a row of integers of the call's own. -/
theorem wpList_appInts (w : World) {ops : Array Oper} {rest : List Oper} {o : Oper} {a : Act} {Q : Exit → Act → World → Prop} (hgd : o.guard = none) (s x : Operand)
    (ho : o.op = .call { callee := .builtin .append, args := #[s, x], argTypes := #[52, 52] })
    (base : Nat) (v : Value) (n : Nat) (xs : List Int) (hs : a.eval s = v) (hown : w.ownsRow base 3 1 v n (xs.map (Value.int .i64)))
    (A : Option Addr) (m c : Nat) (ys : List Int) (D : Nat → Prop) (hx : a.eval x = .slice A m c) (hr : IntsL w D A m ys) (hn : n + m ≤ 1099511627776) (hbase : base ≤ w.heap.size)
    (h : ∀ v' w', w'.ownsRow base 3 1 v' (n + m) ((xs ++ ys).map (Value.int .i64)) → w.grownBy w' v.ownBlock → wpList Tryz.prog ops Q rest (a.put o.dst v') w') : wpList Tryz.prog ops Q (o :: rest) a w := by
  refine wpList_app w hgd s x 52 ho base 3 (.int .i64 0) 1 8 Tryz.underlying52 (by kernel_rfl) rfl (by omega) v n _ hs hown A m c (ys.map (Value.int .i64)) hx ⟨by simp [hr.1], fun hm => ?_⟩ (by simp [Value.oneCell']) (by omega) (by omega) hbase
    (fun v' w' h1 h2 _ => h v' w' (by simpa using h1) h2)
  obtain ⟨b, o, rfl, _, hc⟩ := hr.2 hm
  refine ⟨b, o, rfl, fun j u hj => ?_⟩
  have hjl : j < ys.length := by
    rcases Nat.lt_or_ge j ys.length with h | h
    · exact h
    · rw [List.getElem?_eq_none (by simpa using h)] at hj; cases hj
  rw [hc j (by have := hr.1; omega), iAt_eq hjl]
  simpa [List.getElem?_eq_getElem hjl] using hj

/-- A row of integers of the call's own, as the other words have it. -/
theorem own_of_row {w : World} {base : Nat} {v : Value} {n : Nat} {xs : List Int} (h : w.ownsRow base 3 1 v n (xs.map (Value.int .i64))) :
    ∃ a c, v = .slice a n c ∧ n ≤ c ∧ OwnInts w (fun k => base ≤ k) a n xs := by
  have hl : xs.length = n := by simpa using h.1
  rcases h.2 with ⟨rfl, rfl⟩ | ⟨g, cap, cur, rfl, hb, hg, hnc, _, hsz, htake⟩
  · exact ⟨none, 0, rfl, Nat.le_refl _, hl, fun h => absurd h (by omega)⟩
  · refine ⟨_, cap, rfl, hnc, hl, fun hn => ⟨g, cap, fun i => cur.getD i undef, rfl, hb, hnc, ⟨cur, hg, by omega, fun i hi => ?_⟩, fun i hi => ?_⟩⟩
    · simp [Array.getD, show i < cur.size by omega]
    · have h1 : (cur.toList.take (n * 1))[i]? = (xs.map (Value.int .i64))[i]? := by rw [htake]
      rw [List.getElem?_take, if_pos (by omega), List.getElem?_map, List.getElem?_eq_getElem (show i < xs.length by omega)] at h1
      rw [iAt_eq (by omega)]
      have h2 : i < cur.size := by omega
      rw [Array.getElem?_toList, Array.getElem?_eq_getElem h2] at h1
      simp [Array.getD, h2]
      simpa using h1
theorem ownEmpty (w : World) : (w.alloc (.cells #[] 3)).ownsRow w.heap.size 3 1 (.slice (some ⟨w.heap.size, 0, none⟩) 0 0) 0 (([] : List Int).map (Value.int .i64)) :=
  World.ownsRow_made w #[] 0 (Nat.le_refl _) (by simp [maxLen]) rfl
end Go.Proofs.YtkapldpmjkdmcaaGreat
/- append onto rows whose elements need only be readable. -/
namespace Go.Proofs.YtkapldpmjkdmcaaGreat
open Go.RowKit

theorem Rd.one {w : World} {D : Nat → Prop} {d : Dat} {v : Value} (h : Rd w D d v) : v.oneCell' = true := by cases h <;> rfl

/-- The cells of a slice that can be read. -/
theorem Rd.holds {w : World} {D : Nat → Prop} {s : Nat} {rs : List (List Dat)} {A : Option Addr} {m c : Nat} (h : Rd w D (.arr s rs) (.slice A m c)) (hs0 : 0 < s) :
    ∃ news, HoldsC w s A m news ∧ (∀ u ∈ news, u.oneCell' = true) ∧ (∀ i, i < rs.length → (rGet rs i).length = s) ∧ ∀ i j, i < rs.length → j < s → ∃ u, news[i * s + j]? = some u ∧ Rd w D (rAt rs i j) u := by
  cases h with
  | nil => exact ⟨[], ⟨by simp, fun h => absurd h (by omega)⟩, by simp, by simp, by simp⟩
  | arr s rows b o c vs hD h0 hs0' hc hm hs hcell hr =>
    have hget : ∀ k, k < rs.length * s → ((List.range (rs.length * s)).map fun k => vs (k / s) (k % s))[k]? = some (vs (k / s) (k % s)) := by
      intro k hk
      rw [List.getElem?_map, List.getElem?_range hk]; rfl
    have hq : ∀ k, k < rs.length * s → k / s < rs.length ∧ k % s < s ∧ k / s * s + k % s = k := by
      intro k hk
      refine ⟨(Nat.div_lt_iff_lt_mul hs0).2 hk, Nat.mod_lt _ hs0, ?_⟩
      rw [Nat.mul_comm]; exact Nat.div_add_mod k s
    refine ⟨(List.range (rs.length * s)).map fun k => vs (k / s) (k % s), ⟨by simp, fun _ => ⟨b, o, rfl, fun k u hk => ?_⟩⟩, ?_, hs, fun i j hi hj => ?_⟩
    · have hlt : k < rs.length * s := by
        rcases Nat.lt_or_ge k (rs.length * s) with h | h
        · exact h
        · rw [List.getElem?_eq_none (by simpa using h)] at hk; cases hk
      rw [hget k hlt] at hk
      injection hk with hk
      subst hk
      obtain ⟨q1, q2, q3⟩ := hq k hlt
      have := hcell (k / s) (k % s) q1 q2
      rw [Nat.add_assoc, q3] at this
      exact this
    · intro u hu
      obtain ⟨k, hk, rfl⟩ := List.mem_map.1 hu
      obtain ⟨q1, q2, _⟩ := hq k (by simpa using hk)
      exact (hr _ _ q1 q2).one
    · have hlt := idx_lt hi hj
      have h1 : (i * s + j) / s = i := by rw [Nat.mul_comm, Nat.mul_add_div (by omega), Nat.div_eq_of_lt hj, Nat.add_zero]
      have h2 : (i * s + j) % s = j := by rw [Nat.mul_comm, Nat.mul_add_mod, Nat.mod_eq_of_lt hj]
      have := hget _ hlt
      rw [h1, h2] at this
      exact ⟨_, this, hr i j hi hj⟩

theorem AccR.bound {w : World} {base : Nat} {D : Nat → Prop} {T : TypeId} {s : Nat} {v : Value} {rows : List (List Dat)} (h : AccR w base D T s v rows) : ∀ k, v.ownBlock = some k → base ≤ k ∧ k < w.heap.size := by
  obtain ⟨xs, h1, _⟩ := h
  exact h1.lt

theorem wpList_appR {P : Program} (w : World) {ops : Array Oper} {rest : List Oper} {o : Oper} {a : Act} {Q : Exit → Act → World → Prop} (hgd : o.guard = none) (s x : Operand) (t : TypeId)
    (ho : o.op = .call { callee := .builtin .append, args := #[s, x], argTypes := #[t, t] })
    (base : Nat) (e : TypeId) (z : Value) (size bytes : Nat) (ht : P.underlying t = some (.slice e)) (hinfo : (P.info? e).map (fun i => (i.zero, i.size, i.bytes)) = some (some z, size, bytes))
    (hzs : z.cells.size = size) (hsz : 0 < size)
    (D : Nat → Prop) (v : Value) (rows : List (List Dat)) (hs : a.eval s = v) (hacc : AccR w base D e size v rows)
    (A : Option Addr) (m c : Nat) (rs : List (List Dat)) (D2 : Nat → Prop) (hx : a.eval x = .slice A m c) (hr : Rd w D2 (.arr size rs) (.slice A m c)) (hD2 : ∀ k, k < w.heap.size → D2 k → D k ∧ v.ownBlock ≠ some k)
    (hbytes : (rows.length + m) * bytes ≤ 140737488355328) (h63 : rows.length + m ≤ 9223372036854775807) (hbase : base ≤ w.heap.size)
    (h : ∀ v' w', AccR w' base D e size v' (rows ++ rs) → Ext (fun k => base ≤ k) w w' → w.heap.size ≤ w'.heap.size → wpList P ops Q rest (a.put o.dst v') w') : wpList P ops Q (o :: rest) a w := by
  have hr' := hr.lt
  obtain ⟨news, n1, n2, n3, n4⟩ := hr'.holds hsz
  have hm : m = rs.length := by obtain ⟨a', c', e, _⟩ := hr.arr_inv; injection e
  obtain ⟨xs, h1, _, _⟩ := id hacc
  refine wpList_app w hgd s x t ho base e z size bytes ht hinfo hzs hsz v rows.length xs hs h1 A m c news hx n1 n2 hbytes h63 hbase (fun v' w' q1 q2 q3 => ?_)
  refine h v' w' ?_ ⟨q2.os, q2.tape, q2.output, q2.size, fun k hk hn => q2.block k hk (fun e => hn (h1.lt k e.symm).1)⟩ q2.size
  refine hacc.push (rs := rs) (news := news) n3 (fun i j hi hj => ?_) (fun xs' hxs' => ?_) q2 q3
  · obtain ⟨u, hu, hu2⟩ := n4 i j hi hj
    exact ⟨u, hu, hu2.mono (fun k hk => hD2 k hk.2 hk.1)⟩
  · have : xs' = xs := by
      rcases hxs'.2 with ⟨e1, e2⟩ | ⟨g, cap, cur, e1, _, hg, _, _, _, htake⟩
      · have l1 := hxs'.1
        have l2 := h1.1
        rw [e2, Nat.zero_mul] at l1 l2
        rw [List.eq_nil_of_length_eq_zero l1, List.eq_nil_of_length_eq_zero l2]
      · rcases h1.2 with ⟨f1, f2⟩ | ⟨g', cap', cur', f1, _, hg', _, _, _, htake'⟩
        · have l1 := hxs'.1
          have l2 := h1.1
          rw [f2, Nat.zero_mul] at l1 l2
          rw [List.eq_nil_of_length_eq_zero l1, List.eq_nil_of_length_eq_zero l2]
        · rw [e1] at f1
          injection f1 with f1
          injection f1 with f1
          injection f1 with f1
          subst f1
          rw [hg] at hg'
          injection hg' with hg'
          injection hg' with hg'
          rw [← htake, ← htake', hg']
    subst this
    rw [← hm]; exact q1

end Go.Proofs.YtkapldpmjkdmcaaGreat
/- isType, inRange and allTypes, of the program and of the reference. -/
namespace Go.Proofs.YtkapldpmjkdmcaaGreat
open Go.RowKit

theorem specInRange (n lo hi : Int) (w : World) :
    Calls Tryz.prog 60 #[.int .i64 n, .int .i64 lo, .int .i64 hi] w fun e w' => e = .returned (.bool (decide (lo ≤ n ∧ n ≤ hi))) ∧ w = w' := by
  by_cases h1 : lo ≤ n
  all_goals by_cases h2 : n ≤ hi
  all_goals
    go_enter Tryz.func60, Tryz.ntmps60
    go_wp2
    all_goals (go_ret; exact ⟨by simp [*], rfl⟩)

theorem implIsType (a : Option Addr) (n c : Nat) (t : Int) (w : World) :
    Calls Tryz.prog 160 #[.slice a n c, .int .i64 t] w fun e w' => e = .returned (.bool (isT n t)) ∧ w = w' := by
  refine calls_k fun Q hQ => ?_
  by_cases h1 : 0 ≤ t
  all_goals by_cases h2 : t ≤ n
  all_goals
    go_enter Tryz.func160, Tryz.ntmps160
    go_wp2
    exact fin_ hQ ⟨by simp [isT, *], rfl⟩

/-- One contract for one outcome, so that a walk need not part. -/
theorem implIsType_yes (a : Option Addr) (n c : Nat) (t : Int) (w : World) (h : isT n t = true) :
    Calls Tryz.prog 160 #[.slice a n c, .int .i64 t] w fun e w' => e = .returned (.bool true) ∧ w = w' := by
  rw [← h]; exact implIsType a n c t w
theorem implIsType_no (a : Option Addr) (n c : Nat) (t : Int) (w : World) (h : isT n t = false) :
    Calls Tryz.prog 160 #[.slice a n c, .int .i64 t] w fun e w' => e = .returned (.bool false) ∧ w = w' := by
  rw [← h]; exact implIsType a n c t w

theorem implAllTypes (a : Option Addr) (n c : Nat) (a' : Option Addr) (m c' : Nat) (xs : List Int) (D : Nat → Prop) (w : World) (h : IntsL w D a' m xs) (hm : m ≤ 1099511627776) :
    Calls Tryz.prog 115 #[.slice a n c, .slice a' m c'] w fun e w' => e = .returned (.bool (allT n xs)) ∧ w = w' := by
  refine calls_k fun Q hQ => ?_
  go_enter Tryz.func115, Tryz.ntmps115
  go_wp2
  go_loop [9] (fun i => ∃ k : Nat, k ≤ m ∧ i = .int .i64 k ∧ Hid (∀ j, j < k → isT n (iAt xs j) = true)) (fun i => m - (intOf i).toNat)
  case atStart => exact ⟨0, Nat.zero_le _, rfl, fun j hj => absurd hj (by omega)⟩
  case round =>
    obtain ⟨k, hk, rfl, H⟩ := hrel
    obtain ⟨hlen, hcell⟩ := h
    by_cases hlt : k < m
    · obtain ⟨b, o, rfl, hd, hc⟩ := hcell (by omega)
      have h1 := hc k hlt
      clear hc hcell
      cases hv : isT n (iAt xs k)
      · have V := Lib.hid hv
        go_wp2_with (go_at_call 160; refine (implIsType_no _ _ _ _ _ V.out).mono ?_; rintro e w1 ⟨rfl, rfl⟩)
        exact fin_ hQ ⟨ret_b (iAll_false (by omega) V.out).symm, rfl⟩
      · have V := Lib.hid hv
        go_wp2_with (go_at_call 160; refine (implIsType_yes _ _ _ _ _ V.out).mono ?_; rintro e w1 ⟨rfl, rfl⟩)
        go_round
        case rel => exact ⟨k + 1, by omega, by go_num, fun j hj => by rcases Nat.lt_succ_iff_lt_or_eq.1 hj with h | rfl; exact H.out j h; exact V.out⟩
        case measure => simp [intOf]; omega
    · go_wp2
      exact fin_ hQ ⟨ret_b (iAll.2 (fun j hj => H.out j (by omega))).symm, rfl⟩

theorem specAllTypes (a : Option Addr) (n c : Nat) (a' : Option Addr) (m c' : Nat) (xs : List Int) (D : Nat → Prop) (w : World) (h : IntsL w D a' m xs) (hm : m ≤ 1099511627776) :
    Calls Tryz.prog 143 #[.slice a n c, .slice a' m c'] w fun e w' => e = .returned (.bool (allT n xs)) ∧ w = w' := by
  refine calls_k fun Q hQ => ?_
  go_enter Tryz.func143, Tryz.ntmps143
  go_wp2
  go_loop [5] (fun i => ∃ k : Nat, k ≤ m ∧ i = .int .i64 k ∧ Hid (∀ j, j < k → isT n (iAt xs j) = true)) (fun i => m - (intOf i).toNat)
  case atStart => exact ⟨0, Nat.zero_le _, rfl, fun j hj => absurd hj (by omega)⟩
  case round =>
    obtain ⟨k, hk, rfl, H⟩ := hrel
    obtain ⟨hlen, hcell⟩ := h
    by_cases hlt : k < m
    · obtain ⟨b, o, rfl, hd, hc⟩ := hcell (by omega)
      have h1 := hc k hlt
      clear hc hcell
      cases hv : isT n (iAt xs k)
      · have hv' : decide (0 ≤ iAt xs k ∧ iAt xs k ≤ (n : Int)) = false := hv
        have V := Lib.hid hv
        clear hv
        go_wp2_with (go_at_call 60; refine (specInRange _ _ _ _).mono ?_; rintro e w1 ⟨rfl, rfl⟩)
        exact fin_ hQ ⟨ret_b (iAll_false (by omega) V.out).symm, rfl⟩
      · have hv' : decide (0 ≤ iAt xs k ∧ iAt xs k ≤ (n : Int)) = true := hv
        have V := Lib.hid hv
        clear hv
        go_wp2_with (go_at_call 60; refine (specInRange _ _ _ _).mono ?_; rintro e w1 ⟨rfl, rfl⟩)
        go_round
        case rel => exact ⟨k + 1, by omega, by go_num, fun j hj => by rcases Nat.lt_succ_iff_lt_or_eq.1 hj with h | rfl; exact H.out j h; exact V.out⟩
        case measure => simp [intOf]; omega
    · go_wp2
      exact fin_ hQ ⟨ret_b (iAll.2 (fun j hj => H.out j (by omega))).symm, rfl⟩
end Go.Proofs.YtkapldpmjkdmcaaGreat
/- validDecl and validTypes of the reference. -/
namespace Go.Proofs.YtkapldpmjkdmcaaGreat
open Go.RowKit

theorem conOk_parts {n : Nat} {c : List Int} : conOk n c = true ↔ c.length ≤ 3 ∧ allT n c = true := by simp [conOk]

set_option maxHeartbeats 1000000 in
theorem specValidDecl (a : Option Addr) (n c : Nat) (ds : List DeclL) (D : Nat → Prop) (k : Nat) (w : World) (h : DeclsR w D a n ds) (hk : k < n) (hn : n ≤ 1099511627776) :
    Calls Tryz.prog 195 #[.slice a n c, .int .i64 k] w fun e w' => e = .returned (.bool (declOk ds k)) ∧ Keep w w' := by
  refine calls_k fun Q hQ => ?_
  obtain ⟨hlen, hcell⟩ := h
  obtain ⟨b, o, rfl, hd, hc⟩ := hcell (by omega)
  obtain ⟨c0, c1, a', m, c', c2, hmc, hcons⟩ := hc k hk
  have hml := hcons.1
  have hK : Keep w (w.alloc (.cells #[.int .i64 (dAt ds k).from_, .int .i64 (dAt ds k).to_, .slice a' m c'] 125)) := (Ext.refl _ w).alloc _
  by_cases hm : 0 < m
  · by_cases h1 : m ≤ 3
    · by_cases h2 : (dAt ds k).from_ = 0
      · by_cases h3 : (dAt ds k).to_ = 0
        · have hfin : Hid (declOk ds k = (dAt ds k).cons.all (conOk n)) := by
            show _ = _
            unfold declOk
            rw [if_pos (by omega), hlen]
            simp [h2, h3, hml, h1]
          have hcons1 := hcons.ext hK (fun _ _ h => h)
          rw [h2, h3] at hcons1 hK
          rw [h2] at c0
          rw [h3] at c1
          clear hc hcell hcons
          go_enter Tryz.func195, Tryz.ntmps195
          go_wp2
          go_loop [6] (fun i => ∃ j : Nat, j ≤ m ∧ i = .int .i64 j ∧ Hid (∀ l, l < j → conOk n (cAt (dAt ds k).cons l) = true)) (fun i => m - (intOf i).toNat)
          case atStart => exact ⟨0, Nat.zero_le _, rfl, fun j hj => absurd hj (by omega)⟩
          case round =>
            obtain ⟨j, hj, rfl, H⟩ := hrel
            obtain ⟨_, hcell⟩ := hcons1
            by_cases hlt : j < m
            · obtain ⟨b1, o1, rfl, hd1, hc1⟩ := hcell (by omega)
              obtain ⟨a2, m2, c2', x0, hmc2, hints⟩ := hc1 j hlt
              have hl2 := hints.1
              clear hc1 hcell
              by_cases g1 : m2 ≤ 3
              · cases hv : allT n (cAt (dAt ds k).cons j)
                · have V := Lib.hid hv
                  go_wp2_with (go_at_call 143; refine (specAllTypes _ _ _ _ _ _ _ _ _ hints (by omega)).mono ?_; rw [V.out]; rintro e w1 ⟨rfl, rfl⟩)
                  exact fin_ hQ ⟨ret_b (by rw [hfin.out, cAll_false (i := j) (by omega) (by simp [conOk, V.out])]), hK⟩
                · have V := Lib.hid hv
                  go_wp2_with (go_at_call 143; refine (specAllTypes _ _ _ _ _ _ _ _ _ hints (by omega)).mono ?_; rw [V.out]; rintro e w1 ⟨rfl, rfl⟩)
                  go_round
                  case rel => exact ⟨j + 1, by omega, by go_num, fun l hl => by
                    rcases Nat.lt_succ_iff_lt_or_eq.1 hl with h | rfl
                    · exact H.out l h
                    · exact conOk_parts.2 ⟨by omega, V.out⟩⟩
                  case measure => simp [intOf]; omega
              · go_wp2_with fail
                exact fin_ hQ ⟨ret_b (by rw [hfin.out, cAll_false (i := j) (by omega) (by simp [conOk]; omega)]), hK⟩
            · go_wp2
              exact fin_ hQ ⟨ret_b (by rw [hfin.out]; exact (cAll.2 (fun l hl => H.out l (by omega))).symm), hK⟩
        · have hfin : Hid (declOk ds k = false) := by
            show _ = _
            unfold declOk
            rw [if_pos (by omega)]
            simp [h3]
          have h3' : ((dAt ds k).to_ != 0) = true := by simp [h3]
          have h2' : ((dAt ds k).from_ != 0) = false := by simp [h2]
          clear hc hcell hcons h2 h3
          go_enter Tryz.func195, Tryz.ntmps195
          go_wp2
          exact fin_ hQ ⟨ret_b hfin.out.symm, hK⟩
      · have hfin : Hid (declOk ds k = false) := by
          show _ = _
          unfold declOk
          rw [if_pos (by omega)]
          simp [h2]
        have h2' : ((dAt ds k).from_ != 0) = true := by simp [h2]
        clear hc hcell hcons h2
        go_enter Tryz.func195, Tryz.ntmps195
        go_wp2
        exact fin_ hQ ⟨ret_b hfin.out.symm, hK⟩
    · have hfin : Hid (declOk ds k = false) := by
        show _ = _
        unfold declOk
        rw [if_pos (by omega)]
        simp
        omega
      clear hc hcell hcons
      go_enter Tryz.func195, Tryz.ntmps195
      go_wp2
      exact fin_ hQ ⟨ret_b hfin.out.symm, hK⟩
  · have hm0 : m = 0 := by omega
    subst hm0
    have hfin : Hid (declOk ds k = (isT n (dAt ds k).from_ && isT n (dAt ds k).to_ && (List.range k).all fun i => !sameArrow (dAt ds i) (dAt ds k))) := by
      show _ = _
      unfold declOk
      rw [if_neg (by omega), hlen]
    have hc1 : ∀ i, i < n → ∃ a2 m2 c2, (w.alloc (.cells #[.int .i64 (dAt ds k).from_, .int .i64 (dAt ds k).to_, .slice a' 0 c'] 125)).cell? ⟨b, o + i * 3, none⟩ = some (.int .i64 (dAt ds i).from_) ∧
        (w.alloc (.cells #[.int .i64 (dAt ds k).from_, .int .i64 (dAt ds k).to_, .slice a' 0 c'] 125)).cell? ⟨b, o + i * 3 + 1, none⟩ = some (.int .i64 (dAt ds i).to_) ∧
        (w.alloc (.cells #[.int .i64 (dAt ds k).from_, .int .i64 (dAt ds k).to_, .slice a' 0 c'] 125)).cell? ⟨b, o + i * 3 + 2, none⟩ = some (.slice a2 m2 c2) ∧ (dAt ds i).cons.length = m2 := by
      intro i hi
      obtain ⟨e0, e1, a2, m2, c2, e2, _, e3⟩ := hc i hi
      exact ⟨a2, m2, c2, (hK.cell (World.block_lt_of_cell? w _ e0) (fun h => h)).trans e0, (hK.cell (World.block_lt_of_cell? w _ e1) (fun h => h)).trans e1,
        (hK.cell (World.block_lt_of_cell? w _ e2) (fun h => h)).trans e2, e3.1⟩
    generalize hF : (dAt ds k).from_ = F at *
    generalize hT : (dAt ds k).to_ = T at *
    have HF := Lib.hid hF
    have HT := Lib.hid hT
    have HM := Lib.hid hml
    clear hc hcell hcons hF hT hml
    go_enter Tryz.func195, Tryz.ntmps195
    go_wp2
    go_loopw [7] (fun i wr => ∃ j q : Nat, j ≤ k ∧ i = .int .i64 j ∧ wr = (w.alloc (.cells #[.int .i64 F, .int .i64 T, .slice a' 0 c'] 125)).drewN q ∧ Hid (∀ l, l < j → sameArrow (dAt ds l) (dAt ds k) = false)) (fun i _ => k - (intOf i).toNat)
    case atStart => exact ⟨0, 0, Nat.zero_le _, rfl, rfl, fun j hj => absurd hj (by omega)⟩
    case round =>
      obtain ⟨j, q, hj, rfl, rfl, H⟩ := hrel
      by_cases hlt : j < k
      · obtain ⟨a2, m2, c2, e0, e1, e2, e3⟩ := hc1 j (by omega)
        have E3 := Lib.hid e3
        clear e3 hc1
        by_cases g0 : m2 = 0
        · subst g0
          cases g1 : ((dAt ds j).from_ == F)
          · have hs : Hid (sameArrow (dAt ds j) (dAt ds k) = false) := by
              show _ = _
              simp only [sameArrow, HF.out]
              simp only [beq_eq_false_iff_ne] at g1
              simp [g1]
            go_wp2
            go_quiet (fail)
            go_wp2
            go_roundw
            case rel => exact ⟨j + 1, q + nq, by omega, by go_num, by rfl, fun l hl => by
              rcases Nat.lt_succ_iff_lt_or_eq.1 hl with h | rfl
              · exact H.out l h
              · exact hs.out⟩
            case measure => simp [intOf]; omega
          · cases g2 : ((dAt ds j).to_ == T)
            · have hs : Hid (sameArrow (dAt ds j) (dAt ds k) = false) := by
                show _ = _
                simp only [sameArrow, HT.out]
                simp only [beq_eq_false_iff_ne] at g2
                simp [g2]
              go_wp2
              go_quiet (fail)
              go_wp2
              go_roundw
              case rel => exact ⟨j + 1, q + nq, by omega, by go_num, by rfl, fun l hl => by
                rcases Nat.lt_succ_iff_lt_or_eq.1 hl with h | rfl
                · exact H.out l h
                · exact hs.out⟩
              case measure => simp [intOf]; omega
            · have hs : Hid (sameArrow (dAt ds j) (dAt ds k) = true) := by
                show _ = _
                simp only [sameArrow, HF.out, HT.out]
                simp only [beq_iff_eq] at g1 g2
                simp [g1, g2]
                exact List.eq_nil_of_length_eq_zero E3.out
              go_wp2
              go_quiet (fail)
              go_wp2
              exact fin_ hQ ⟨ret_b (by rw [hfin.out, nAll_false hlt (by simp [hs.out])]; simp), (hK.drewN q).drewN nq⟩
        · have g0' : ((m2 : Int) == 0) = false := by simp; omega
          have hs : Hid (sameArrow (dAt ds j) (dAt ds k) = false) := by
            show _ = _
            simp only [sameArrow, E3.out]
            simp [g0]
          go_wp2
          go_quiet (fail)
          go_wp2
          go_roundw
          case rel => exact ⟨j + 1, q + nq, by omega, by go_num, by rfl, fun l hl => by
            rcases Nat.lt_succ_iff_lt_or_eq.1 hl with h | rfl
            · exact H.out l h
            · exact hs.out⟩
          case measure => simp [intOf]; omega
      · have hall : Hid ((List.range k).all (fun i => !sameArrow (dAt ds i) (dAt ds k)) = true) := by
          show _ = _
          exact nAll.2 (fun l hl => by simp [H.out l (by omega)])
        clear hc1
        cases v1 : isT n F
        · have d1 : decide (0 ≤ F ∧ F ≤ (n : Int)) = false := v1
          have V1 := Lib.hid v1
          clear v1
          go_wp2_with (go_at_call 60; refine (specInRange _ _ _ _).mono ?_; rintro e w1 ⟨rfl, rfl⟩)
          exact fin_ hQ ⟨ret_b (by rw [hfin.out, V1.out]; simp), hK.drewN q⟩
        · have d1 : decide (0 ≤ F ∧ F ≤ (n : Int)) = true := v1
          have V1 := Lib.hid v1
          clear v1
          go_wp2_with (go_at_call 60; refine (specInRange _ _ _ _).mono ?_; rintro e w1 ⟨rfl, rfl⟩)
          exact fin_ hQ ⟨ret_b (by rw [hfin.out, V1.out, hall.out]; simp [isT]), hK.drewN q⟩
end Go.Proofs.YtkapldpmjkdmcaaGreat
/- validTypes and ValidTypes of the reference. -/
namespace Go.Proofs.YtkapldpmjkdmcaaGreat
open Go.RowKit

set_option maxHeartbeats 1000000 in
theorem specValidTypes0 (a : Option Addr) (n c : Nat) (ds : List DeclL) (D : Nat → Prop) (w : World) (h : DeclsR w D a n ds) (hn : n ≤ 1099511627776) :
    Calls Tryz.prog 142 #[.slice a n c] w fun e w' => e = .returned (.bool (typesOk ds)) ∧ Keep w w' := by
  refine calls_k fun Q hQ => ?_
  have hlen := h.1
  by_cases h4 : n ≤ 4
  · have hfin : Hid (typesOk ds = (List.range n).all (declOk ds)) := by
      show _ = _
      simp [typesOk, hlen, h4]
    go_enter Tryz.func142, Tryz.ntmps142
    go_wp2
    go_loopw [3] (fun i wr => ∃ j : Nat, j ≤ n ∧ i = .int .i64 j ∧ Keep w wr ∧ Hid (∀ l, l < j → declOk ds l = true)) (fun i _ => n - (intOf i).toNat)
    case atStart => exact ⟨0, Nat.zero_le _, rfl, Ext.refl _ _, fun j hj => absurd hj (by omega)⟩
    case round =>
      obtain ⟨j, hj, rfl, hK, H⟩ := hrel
      by_cases hlt : j < n
      · have h1 := h.ext hK (fun _ _ h => h)
        cases hv : declOk ds j
        · have V := Lib.hid hv
          go_wp2_with (go_at_call 195; refine (specValidDecl _ _ _ _ _ _ _ h1 (by omega) (by omega)).mono ?_; rw [V.out]; rintro e w1 ⟨rfl, hk1⟩)
          exact fin_ hQ ⟨ret_b (by rw [hfin.out, nAll_false hlt V.out]), hK.trans hk1⟩
        · have V := Lib.hid hv
          go_wp2_with (go_at_call 195; refine (specValidDecl _ _ _ _ _ _ _ h1 (by omega) (by omega)).mono ?_; rw [V.out]; rintro e w1 ⟨rfl, hk1⟩)
          go_roundw
          case rel => exact ⟨j + 1, by omega, by go_num, hK.trans hk1, fun l hl => by
            rcases Nat.lt_succ_iff_lt_or_eq.1 hl with h | rfl
            · exact H.out l h
            · exact V.out⟩
          case measure => simp [intOf]; omega
      · go_wp2
        exact fin_ hQ ⟨ret_b (by rw [hfin.out]; exact (nAll.2 (fun l hl => H.out l (by omega))).symm), hK⟩
  · have hfin : Hid (typesOk ds = false) := by
      show _ = _
      simp [typesOk, hlen, h4]
    go_enter Tryz.func142, Tryz.ntmps142
    go_wp2
    exact fin_ hQ ⟨ret_b hfin.out.symm, Ext.refl _ _⟩

end Go.Proofs.YtkapldpmjkdmcaaGreat
/- The generator of declarations: con, goodDecls, anyDecls. -/
namespace Go.Proofs.YtkapldpmjkdmcaaGreat
open Go.RowKit

theorem con_any (a : Option Addr) (n c : Nat) (w : World) :
    Calls Tryz.prog 215 #[.slice a n c] w fun e w' => e = .returned (.agg #[.slice a n c]) ∧ Keep w w' := by
  refine calls_k fun Q hQ => ?_
  go_enter Tryz.func215, Tryz.ntmps215
  go_wp2
  refine bodyPost_ret (v := .agg #[.slice a n c]) (by simp [results, Tryz.results215, go_sem]) rfl (fin_ hQ ⟨rfl, (Ext.refl _ _).alloc _⟩)

def listD : DeclL := ⟨0, 0, [[], [0, 1]]⟩
def treeD : DeclL := ⟨0, 0, [[], [3, 0, 3]]⟩
def lastD (k : Int) : DeclL := if k = 0 then ⟨0, 0, [[1, 3]]⟩ else if k = 1 then ⟨1, 0, []⟩ else if k = 2 then ⟨0, 0, [[1, 1, 0], [0], [3]]⟩ else ⟨0, 1, []⟩
/-- The valid declarations that are generated. -/
def goodD (k : Int) : List DeclL := if k < 4 then [listD, ⟨0, 0, []⟩, treeD, lastD k] else [listD, ⟨0, 0, []⟩, treeD]

set_option maxRecDepth 100000 in
set_option maxHeartbeats 1000000 in
theorem goodDecls_any (B g : Nat) (p : Int) (w : World) (h : Rdx w B g p) (hBw : B ≤ w.heap.size) (hp : p ≤ 900000000000) :
    Calls Tryz.prog 176 #[.pointer (some ⟨g, 0, none⟩)] w fun e w' => ∃ (v : Value) (k : Int), 0 ≤ k ∧ k < 5 ∧ e = .returned v ∧ AccR w' w.heap.size (fun b => w.heap.size ≤ b) 125 3 v ((goodD k).map rowD) ∧
      Rdx w' B g (p + 1) ∧ Ext (· = g) w w' := by
  refine calls_k fun Q hQ => ?_
  have hB := Nat.le_refl w.heap.size
  have hgB := h.gB
  go_enter Tryz.func176, Tryz.ntmps176
  go_wp2_with fail
  refine (con_any _ _ _ _).mono ?_
  rintro e w1 ⟨rfl, k1⟩
  have s1 := k1.size
  simp at s1
  have kk : Keep w w1 := (Keep.al _ _).trans (k1)
  clear kk
  have c1 := (lit_ints _ w.heap.size 3 [] _ 0 (by omega) rfl rfl (by omega)).k k1
  go_wp2_with fail
  refine (con_any _ _ _ _).mono ?_
  rintro e w2 ⟨rfl, k2⟩
  have s2 := k2.size
  simp at s2
  have kk : Keep w1 w2 := (Keep.al _ _).trans (k2)
  replace c1 := c1.k kk
  clear kk
  have c2 := (lit_ints _ w.heap.size 3 [0, 1] _ 2 (by omega) rfl rfl (by omega)).k k2
  have d1 := lit_cons w2 w.heap.size 155 [[], [0, 1]] [_, _] 2 (by omega) ⟨_, _, rfl, c1, _, _, rfl, c2, rfl⟩ rfl (by omega)
  clear c1 c2
  go_wp2_with fail
  refine (con_any _ _ _ _).mono ?_
  rintro e w3 ⟨rfl, k3⟩
  have s3 := k3.size
  simp at s3
  replace d1 := d1.k ((Keep.al _ _).trans ((Keep.al _ _).trans k3))
  have b1 := (Keep.al _ _).trans k3
  have c3 := (lit_ints _ w.heap.size 3 [] _ 0 (by simp; omega) rfl rfl (by omega)).k k3
  simp at c3
  go_wp2_with fail
  refine (con_any _ _ _ _).mono ?_
  rintro e w4 ⟨rfl, k4⟩
  have s4 := k4.size
  simp at s4
  have kk : Keep w3 w4 := (Keep.al _ _).trans (k4)
  replace d1 := d1.k kk
  replace c3 := c3.k kk
  clear kk
  have c4 := (lit_ints _ w.heap.size 3 [3, 0, 3] _ 3 (by omega) rfl rfl (by omega)).k k4
  replace b1 := b1.trans ((Keep.al _ _).trans k4)
  have d2 := lit_cons w4 w.heap.size 155 [[], [3, 0, 3]] [_, _] 2 (by omega) ⟨_, _, rfl, c3, _, _, rfl, c4, rfl⟩ rfl (by omega)
  clear c3 c4
  go_wp2_with fail
  refine (con_any _ _ _ _).mono ?_
  rintro e w5 ⟨rfl, k5⟩
  have s5 := k5.size
  simp at s5
  replace d1 := d1.k ((Keep.al _ _).trans ((Keep.al _ _).trans ((Keep.al _ _).trans k5)))
  replace d2 := d2.k ((Keep.al _ _).trans ((Keep.al _ _).trans k5))
  replace b1 := b1.trans ((Keep.al _ _).trans ((Keep.al _ _).trans ((Keep.al _ _).trans k5)))
  have b2 := (Keep.al _ _).trans k5
  have c5 := (lit_ints _ w.heap.size 3 [1, 3] _ 2 (by simp; omega) rfl rfl (by omega)).k k5
  simp at c5
  have d3 := lit_cons w5 w.heap.size 155 [[1, 3]] [_] 1 (by omega) ⟨_, _, rfl, c5, rfl⟩ rfl (by omega)
  clear c5
  go_wp2_with fail
  refine (con_any _ _ _ _).mono ?_
  rintro e w6 ⟨rfl, k6⟩
  have s6 := k6.size
  simp at s6
  have kk := (Keep.al _ _).trans ((Keep.al _ _).trans k6)
  replace d1 := d1.k kk
  replace d2 := d2.k kk
  replace b1 := b1.trans kk
  replace b2 := b2.trans kk
  replace d3 := d3.k ((Keep.al _ _).trans k6)
  clear kk
  have c6 := (lit_ints _ w.heap.size 3 [1, 1, 0] _ 3 (by simp; omega) rfl rfl (by omega)).k k6
  simp at c6
  go_wp2_with fail
  refine (con_any _ _ _ _).mono ?_
  rintro e w7 ⟨rfl, k7⟩
  have s7 := k7.size
  simp at s7
  have kk := (Keep.al _ _).trans k7
  replace d1 := d1.k kk
  replace d2 := d2.k kk
  replace d3 := d3.k kk
  replace c6 := c6.k kk
  replace b1 := b1.trans kk
  replace b2 := b2.trans kk
  clear kk
  have c7 := (lit_ints _ w.heap.size 3 [0] _ 1 (by omega) rfl rfl (by omega)).k k7
  go_wp2_with fail
  refine (con_any _ _ _ _).mono ?_
  rintro e w8 ⟨rfl, k8⟩
  have s8 := k8.size
  simp at s8
  have kk := (Keep.al _ _).trans k8
  replace d1 := d1.k kk
  replace d2 := d2.k kk
  replace d3 := d3.k kk
  replace c6 := c6.k kk
  replace c7 := c7.k kk
  replace b1 := b1.trans kk
  replace b2 := b2.trans kk
  clear kk
  have c8 := (lit_ints _ w.heap.size 3 [3] _ 1 (by omega) rfl rfl (by omega)).k k8
  have d4 := lit_cons w8 w.heap.size 155 [[1, 1, 0], [0], [3]] [_, _, _] 3 (by omega) ⟨_, _, rfl, c6, _, _, rfl, c7, _, _, rfl, c8, rfl⟩ rfl (by omega)
  clear c6 c7 c8
  have x0 := boxk b1 0
  have x1 := boxk b1 1
  have x2 := boxk b1 2
  have y0 := boxk b2 0
  have y1 := boxk b2 1
  have y2 := boxk b2 2
  simp at x0 x1 x2 y0 y1 y2
  have q1 : w2.heap.size + 1 < w8.heap.size := by omega
  have q3 : w2.heap.size < w8.heap.size := by omega
  have q4 : w4.heap.size < w8.heap.size := by omega
  have q2 : w4.heap.size + 1 < w8.heap.size := by omega
  have hgl : g < w.heap.size := by omega
  have K8 : Keep w w8 := ((((((((Keep.al _ _).trans k1).trans ((Keep.al _ _).trans k2)).trans ((Keep.al _ _).trans ((Keep.al _ _).trans ((Keep.al _ _).trans k3)))).trans ((Keep.al _ _).trans k4)).trans ((Keep.al _ _).trans ((Keep.al _ _).trans ((Keep.al _ _).trans k5)))).trans ((Keep.al _ _).trans ((Keep.al _ _).trans k6))).trans ((Keep.al _ _).trans k7)).trans ((Keep.al _ _).trans k8)
  clear k1 k2 k3 k4 k5 k6 k7 k8 b1 b2
  have d4k := Keep.al w8 (.cells #[.slice (some ⟨w5.heap.size + 1, 0, none⟩) 3 3, .slice (some ⟨w6.heap.size, 0, none⟩) 1 1, .slice (some ⟨w7.heap.size, 0, none⟩) 1 1] 155)
  replace d1 := d1.k d4k
  replace d2 := d2.k d4k
  replace d3 := d3.k d4k
  replace K8 := K8.trans d4k
  have hL := lit_decls _ w.heap.size 125 [⟨0, 0, [[1, 3]]⟩, ⟨1, 0, []⟩, ⟨0, 0, [[1, 1, 0], [0], [3]]⟩, ⟨0, 1, []⟩] _ 4 K8.size ⟨_, _, rfl, d3, _, _, rfl, Rd.nilC _ _ none 0, _, _, rfl, d4, _, _, rfl, Rd.nilC _ _ none 0, rfl⟩ rfl (by omega)
  have kL := Keep.al (w8.alloc (.cells #[.slice (some ⟨w5.heap.size + 1, 0, none⟩) 3 3, .slice (some ⟨w6.heap.size, 0, none⟩) 1 1, .slice (some ⟨w7.heap.size, 0, none⟩) 1 1] 155)) (.cells #[.int .i64 0, .int .i64 0, .slice (some ⟨w5.heap.size, 0, none⟩) 1 1, .int .i64 1, .int .i64 0, .slice none 0 0, .int .i64 0, .int .i64 0, .slice (some ⟨w8.heap.size, 0, none⟩) 3 3, .int .i64 0, .int .i64 1, .slice none 0 0] 125)
  replace d1 := d1.k kL
  replace d2 := d2.k kL
  replace d3 := d3.k kL
  replace d4 := d4.k kL
  replace K8 := K8.trans kL
  have hO := lit_decls _ w.heap.size 125 [listD, ⟨0, 0, []⟩, treeD] _ 3 K8.size ⟨_, _, rfl, d1, _, _, rfl, Rd.nilC _ _ none 0, _, _, rfl, d2, rfl⟩ rfl (by omega)
  clear d1 d2 hL d4k kL
  simp at hO
  go_wp2_with fail
  refine (pickX B g p _ _ (h.keep (K8.trans (Keep.al _ _))) (by omega) (by omega)).mono ?_
  rintro e w9 ⟨k, rfl, hk, _, hr9, x9⟩
  obtain ⟨hk0, hk5⟩ := hk (by omega)
  have K9 := (Keep.to (K8.trans (Keep.al _ _))).trans x9
  have hS : ∀ k : Nat, w.heap.size ≤ k → ¬ k = g := fun k hk => by omega
  replace hO := hO.ext x9 (fun k _ hk => hS k (hk.elim id id))
  replace d3 := ((d3.lt.mono (D' := fun k => w.heap.size ≤ k ∧ k ≠ w8.heap.size + 2) (fun k hk => by simp at hk; omega)).k (Keep.al _ _)).ext x9 (fun k hk => hS k hk.1)
  replace d4 := ((d4.lt.mono (D' := fun k => w.heap.size ≤ k ∧ k ≠ w8.heap.size + 2) (fun k hk => by simp at hk; omega)).k (Keep.al _ _)).ext x9 (fun k hk => hS k hk.1)
  have s9 := x9.size
  simp at s9
  have z : ∀ i, i < 12 → w9.cell? ⟨w8.heap.size + 1, i, none⟩ = (#[.int .i64 0, .int .i64 0, .slice (some ⟨w5.heap.size, 0, none⟩) 1 1, .int .i64 1, .int .i64 0, .slice none 0 0, .int .i64 0, .int .i64 0, .slice (some ⟨w8.heap.size, 0, none⟩) 3 3, .int .i64 0, .int .i64 1, .slice none 0 0] : Array Value)[i]? := fun i _ => by
    rw [x9.cell (by simp) (by show ¬ w8.heap.size + 1 = g; omega), World.cell?_alloc_past _ _ _ (by simp), World.cell?_alloc_at _ _ _ _ (by simp)]
  clear x0 x1 x2 y0 y1 y2 q1 q2 q3 q4 x9 K8
  have hbs : w.heap.size ≤ w9.heap.size := by omega
  have hk : k = 0 ∨ k = 1 ∨ k = 2 ∨ k = 3 ∨ k = 4 := by omega
  rcases hk with rfl | rfl | rfl | rfl | rfl
  · have z0 := z 0 (by omega)
    have z1 := z 1 (by omega)
    have z2 := z 2 (by omega)
    simp at z0 z1 z2
    have hX := lit_declsD w9 (fun k => w.heap.size ≤ k ∧ k ≠ w8.heap.size + 2) 125 [⟨0, 0, [[1, 3]]⟩] _ 1 (by omega) ⟨_, _, rfl, d3, rfl⟩ rfl (by omega)
    have hO2 := hO.keep (Keep.al w9 (.cells #[.int .i64 0, .int .i64 0, .slice (some ⟨w5.heap.size, 0, none⟩) 1 1] 125))
    clear z d3 d4 hO
    go_wp2_with (at_builtin; refine wpList_appR _ rfl (.tmp 43) (.tmp 48) 27 rfl w.heap.size 125 (.agg #[.int .i64 0, .int .i64 0, .slice none 0 0]) 3 40 Tryz.underlying27 (by kernel_rfl) rfl (by omega) (fun b => w.heap.size ≤ b) _ _ rfl hO2 _ 1 1 _ _ rfl hX (fun k _ hk => ⟨hk.1, by show some (w8.heap.size + 1 + 1) ≠ some k; intro h; injection h; omega⟩) (by simp) (by simp) (by simp; omega) ?_; intro v1 w10 hA xA sA)
    have xa := (Keep.to (S := fun k => w.heap.size ≤ k) (Keep.al _ _)).trans xA
    exact fin_ hQ ⟨v1, 0, by omega, by omega, rfl, hA, hr9.ext xa (fun k hk h => by omega), K9.then_ xa (fun i hi h => by omega)⟩
  · have z0 := z 3 (by omega)
    have z1 := z 4 (by omega)
    have z2 := z 5 (by omega)
    simp at z0 z1 z2
    have hX := lit_declsD w9 (fun k => w.heap.size ≤ k ∧ k ≠ w8.heap.size + 2) 125 [⟨1, 0, []⟩] _ 1 (by omega) ⟨_, _, rfl, Rd.nilC _ _ none 0, rfl⟩ rfl (by omega)
    have hO2 := hO.keep (Keep.al w9 (.cells #[.int .i64 1, .int .i64 0, .slice none 0 0] 125))
    clear z d3 d4 hO
    go_wp2_with (at_builtin; refine wpList_appR _ rfl (.tmp 43) (.tmp 48) 27 rfl w.heap.size 125 (.agg #[.int .i64 0, .int .i64 0, .slice none 0 0]) 3 40 Tryz.underlying27 (by kernel_rfl) rfl (by omega) (fun b => w.heap.size ≤ b) _ _ rfl hO2 _ 1 1 _ _ rfl hX (fun k _ hk => ⟨hk.1, by show some (w8.heap.size + 1 + 1) ≠ some k; intro h; injection h; omega⟩) (by simp) (by simp) (by simp; omega) ?_; intro v1 w10 hA xA sA)
    have xa := (Keep.to (S := fun k => w.heap.size ≤ k) (Keep.al _ _)).trans xA
    exact fin_ hQ ⟨v1, 1, by omega, by omega, rfl, hA, hr9.ext xa (fun k hk h => by omega), K9.then_ xa (fun i hi h => by omega)⟩
  · have z0 := z 6 (by omega)
    have z1 := z 7 (by omega)
    have z2 := z 8 (by omega)
    simp at z0 z1 z2
    have hX := lit_declsD w9 (fun k => w.heap.size ≤ k ∧ k ≠ w8.heap.size + 2) 125 [⟨0, 0, [[1, 1, 0], [0], [3]]⟩] _ 1 (by omega) ⟨_, _, rfl, d4, rfl⟩ rfl (by omega)
    have hO2 := hO.keep (Keep.al w9 (.cells #[.int .i64 0, .int .i64 0, .slice (some ⟨w8.heap.size, 0, none⟩) 3 3] 125))
    clear z d3 d4 hO
    go_wp2_with (at_builtin; refine wpList_appR _ rfl (.tmp 43) (.tmp 48) 27 rfl w.heap.size 125 (.agg #[.int .i64 0, .int .i64 0, .slice none 0 0]) 3 40 Tryz.underlying27 (by kernel_rfl) rfl (by omega) (fun b => w.heap.size ≤ b) _ _ rfl hO2 _ 1 1 _ _ rfl hX (fun k _ hk => ⟨hk.1, by show some (w8.heap.size + 1 + 1) ≠ some k; intro h; injection h; omega⟩) (by simp) (by simp) (by simp; omega) ?_; intro v1 w10 hA xA sA)
    have xa := (Keep.to (S := fun k => w.heap.size ≤ k) (Keep.al _ _)).trans xA
    exact fin_ hQ ⟨v1, 2, by omega, by omega, rfl, hA, hr9.ext xa (fun k hk h => by omega), K9.then_ xa (fun i hi h => by omega)⟩
  · have z0 := z 9 (by omega)
    have z1 := z 10 (by omega)
    have z2 := z 11 (by omega)
    simp at z0 z1 z2
    have hX := lit_declsD w9 (fun k => w.heap.size ≤ k ∧ k ≠ w8.heap.size + 2) 125 [⟨0, 1, []⟩] _ 1 (by omega) ⟨_, _, rfl, Rd.nilC _ _ none 0, rfl⟩ rfl (by omega)
    have hO2 := hO.keep (Keep.al w9 (.cells #[.int .i64 0, .int .i64 1, .slice none 0 0] 125))
    clear z d3 d4 hO
    go_wp2_with (at_builtin; refine wpList_appR _ rfl (.tmp 43) (.tmp 48) 27 rfl w.heap.size 125 (.agg #[.int .i64 0, .int .i64 0, .slice none 0 0]) 3 40 Tryz.underlying27 (by kernel_rfl) rfl (by omega) (fun b => w.heap.size ≤ b) _ _ rfl hO2 _ 1 1 _ _ rfl hX (fun k _ hk => ⟨hk.1, by show some (w8.heap.size + 1 + 1) ≠ some k; intro h; injection h; omega⟩) (by simp) (by simp) (by simp; omega) ?_; intro v1 w10 hA xA sA)
    have xa := (Keep.to (S := fun k => w.heap.size ≤ k) (Keep.al _ _)).trans xA
    exact fin_ hQ ⟨v1, 3, by omega, by omega, rfl, hA, hr9.ext xa (fun k hk h => by omega), K9.then_ xa (fun i hi h => by omega)⟩
  · go_wp2
    exact fin_ hQ ⟨_, 4, by omega, by omega, rfl, hO, hr9, K9⟩
end Go.Proofs.YtkapldpmjkdmcaaGreat
