/- append onto rows whose elements need only be readable. -/
import Derived.Test.YthdjijhpdgajbaaDat3
import Derived.Test.YthdjijhpdgajbaaAppend
namespace Go.Proofs.Ythdjijhpdgajbaa
open Go.RowKit

theorem Rd.one {w : World} {D : Nat → Prop} {d : Dat} {v : Value} (h : Rd w D d v) : v.oneCell' = true := by cases h <;> rfl

/-- The cells of a slice that can be read. -/
theorem Rd.holds {w : World} {D : Nat → Prop} {s : Nat} {rs : List (List Dat)} {A : Option Addr} {m c : Nat} (h : Rd w D (.arr s rs) (.slice A m c)) (hs0 : 0 < s) :
    ∃ news, HoldsC w s A m news ∧ (∀ u ∈ news, u.oneCell' = true) ∧ (∀ i, i < rs.length → (rGet rs i).length = s) ∧ ∀ i j, i < rs.length → j < s → ∃ u, news[i * s + j]? = some u ∧ Rd w D (rAt rs i j) u := by
  cases h with
  | nil => exact ⟨[], ⟨by simp, fun h => absurd h (by omega)⟩, by simp, by simp, by simp⟩
  | arr s rows b o c vs hD h0 hs0' hc hm hs hcell hr =>
    have hget : ∀ k, k < rs.length * s → ((List.range (rs.length * s)).map fun k => vs (k / s) (k % s))[k]? = some (vs (k / s) (k % s)) := by
      intro k hk
      rw [List.getElem?_map, List.getElem?_range hk]; rfl
    have hq : ∀ k, k < rs.length * s → k / s < rs.length ∧ k % s < s ∧ k / s * s + k % s = k := by
      intro k hk
      refine ⟨(Nat.div_lt_iff_lt_mul hs0).2 hk, Nat.mod_lt _ hs0, ?_⟩
      rw [Nat.mul_comm]; exact Nat.div_add_mod k s
    refine ⟨(List.range (rs.length * s)).map fun k => vs (k / s) (k % s), ⟨by simp, fun _ => ⟨b, o, rfl, fun k u hk => ?_⟩⟩, ?_, hs, fun i j hi hj => ?_⟩
    · have hlt : k < rs.length * s := by
        rcases Nat.lt_or_ge k (rs.length * s) with h | h
        · exact h
        · rw [List.getElem?_eq_none (by simpa using h)] at hk; cases hk
      rw [hget k hlt] at hk
      injection hk with hk
      subst hk
      obtain ⟨q1, q2, q3⟩ := hq k hlt
      have := hcell (k / s) (k % s) q1 q2
      rw [Nat.add_assoc, q3] at this
      exact this
    · intro u hu
      obtain ⟨k, hk, rfl⟩ := List.mem_map.1 hu
      obtain ⟨q1, q2, _⟩ := hq k (by simpa using hk)
      exact (hr _ _ q1 q2).one
    · have hlt := idx_lt hi hj
      have h1 : (i * s + j) / s = i := by rw [Nat.mul_comm, Nat.mul_add_div (by omega), Nat.div_eq_of_lt hj, Nat.add_zero]
      have h2 : (i * s + j) % s = j := by rw [Nat.mul_comm, Nat.mul_add_mod, Nat.mod_eq_of_lt hj]
      have := hget _ hlt
      rw [h1, h2] at this
      exact ⟨_, this, hr i j hi hj⟩

theorem AccR.bound {w : World} {base : Nat} {D : Nat → Prop} {T : TypeId} {s : Nat} {v : Value} {rows : List (List Dat)} (h : AccR w base D T s v rows) : ∀ k, v.ownBlock = some k → base ≤ k ∧ k < w.heap.size := by
  obtain ⟨xs, h1, _⟩ := h
  exact h1.lt

theorem wpList_appR {P : Program} (w : World) {ops : Array Oper} {rest : List Oper} {o : Oper} {a : Act} {Q : Exit → Act → World → Prop} (hgd : o.guard = none) (s x : Operand) (t : TypeId)
    (ho : o.op = .call { callee := .builtin .append, args := #[s, x], argTypes := #[t, t] })
    (base : Nat) (e : TypeId) (z : Value) (size bytes : Nat) (ht : P.underlying t = some (.slice e)) (hinfo : (P.info? e).map (fun i => (i.zero, i.size, i.bytes)) = some (some z, size, bytes))
    (hzs : z.cells.size = size) (hsz : 0 < size)
    (D : Nat → Prop) (v : Value) (rows : List (List Dat)) (hs : a.eval s = v) (hacc : AccR w base D e size v rows)
    (A : Option Addr) (m c : Nat) (rs : List (List Dat)) (D2 : Nat → Prop) (hx : a.eval x = .slice A m c) (hr : Rd w D2 (.arr size rs) (.slice A m c)) (hD2 : ∀ k, k < w.heap.size → D2 k → D k ∧ v.ownBlock ≠ some k)
    (hbytes : (rows.length + m) * bytes ≤ 140737488355328) (h63 : rows.length + m ≤ 9223372036854775807) (hbase : base ≤ w.heap.size)
    (h : ∀ v' w', AccR w' base D e size v' (rows ++ rs) → Ext (fun k => base ≤ k) w w' → w.heap.size ≤ w'.heap.size → wpList P ops Q rest (a.put o.dst v') w') : wpList P ops Q (o :: rest) a w := by
  have hr' := hr.lt
  obtain ⟨news, n1, n2, n3, n4⟩ := hr'.holds hsz
  have hm : m = rs.length := by obtain ⟨a', c', e, _⟩ := hr.arr_inv; injection e
  obtain ⟨xs, h1, _, _⟩ := id hacc
  refine wpList_app w hgd s x t ho base e z size bytes ht hinfo hzs hsz v rows.length xs hs h1 A m c news hx n1 n2 hbytes h63 hbase (fun v' w' q1 q2 q3 => ?_)
  refine h v' w' ?_ ⟨q2.os, q2.tape, q2.output, q2.size, fun k hk hn => q2.block k hk (fun e => hn (h1.lt k e.symm).1)⟩ q2.size
  refine hacc.push (rs := rs) (news := news) n3 (fun i j hi hj => ?_) (fun xs' hxs' => ?_) q2 q3
  · obtain ⟨u, hu, hu2⟩ := n4 i j hi hj
    exact ⟨u, hu, hu2.mono (fun k hk => hD2 k hk.2 hk.1)⟩
  · have : xs' = xs := by
      rcases hxs'.2 with ⟨e1, e2⟩ | ⟨g, cap, cur, e1, _, hg, _, _, _, htake⟩
      · have l1 := hxs'.1
        have l2 := h1.1
        rw [e2, Nat.zero_mul] at l1 l2
        rw [List.eq_nil_of_length_eq_zero l1, List.eq_nil_of_length_eq_zero l2]
      · rcases h1.2 with ⟨f1, f2⟩ | ⟨g', cap', cur', f1, _, hg', _, _, _, htake'⟩
        · have l1 := hxs'.1
          have l2 := h1.1
          rw [f2, Nat.zero_mul] at l1 l2
          rw [List.eq_nil_of_length_eq_zero l1, List.eq_nil_of_length_eq_zero l2]
        · rw [e1] at f1
          injection f1 with f1
          injection f1 with f1
          injection f1 with f1
          subst f1
          rw [hg] at hg'
          injection hg' with hg'
          injection hg' with hg'
          rw [← htake, ← htake', hg']
    subst this
    rw [← hm]; exact q1

/-- The same, what comes of it said as a slice of N elements. -/
theorem wpList_appS {P : Program} (w : World) {ops : Array Oper} {rest : List Oper} {o : Oper} {a : Act} {Q : Exit → Act → World → Prop} (hgd : o.guard = none) (s x : Operand) (t : TypeId)
    (ho : o.op = .call { callee := .builtin .append, args := #[s, x], argTypes := #[t, t] })
    (base : Nat) (e : TypeId) (z : Value) (size bytes : Nat) (ht : P.underlying t = some (.slice e)) (hinfo : (P.info? e).map (fun i => (i.zero, i.size, i.bytes)) = some (some z, size, bytes))
    (hzs : z.cells.size = size) (hsz : 0 < size)
    (D : Nat → Prop) (v : Value) (rows : List (List Dat)) (hs : a.eval s = v) (hacc : AccR w base D e size v rows)
    (A : Option Addr) (m c : Nat) (rs : List (List Dat)) (D2 : Nat → Prop) (hx : a.eval x = .slice A m c) (hr : Rd w D2 (.arr size rs) (.slice A m c)) (hD2 : ∀ k, k < w.heap.size → D2 k → D k ∧ v.ownBlock ≠ some k)
    (N : Nat) (hN : rows.length + m = N) (hbytes : N * bytes ≤ 140737488355328) (h63 : N ≤ 9223372036854775807) (hbase : base ≤ w.heap.size)
    (h : ∀ a' c' w', N ≤ c' → AccR w' base D e size (.slice a' N c') (rows ++ rs) → Ext (fun k => base ≤ k) w w' → w.heap.size ≤ w'.heap.size → wpList P ops Q rest (a.put o.dst (.slice a' N c')) w') : wpList P ops Q (o :: rest) a w := by
  have hm : m = rs.length := by obtain ⟨a', c', e, _⟩ := hr.arr_inv; injection e
  refine wpList_appR w hgd s x t ho base e z size bytes ht hinfo hzs hsz D v rows hs hacc A m c rs D2 hx hr hD2 (by rw [hN]; exact hbytes) (by rw [hN]; exact h63) hbase (fun v' w' h1 h2 h3 => ?_)
  obtain ⟨a', c', e', hc, _, _⟩ := h1.read hsz
  have hlen : (rows ++ rs).length = N := by rw [List.length_append]; omega
  rw [hlen] at e' hc
  subst e'
  exact h a' c' w' hc h1 h2 h3
end Go.Proofs.Ythdjijhpdgajbaa
