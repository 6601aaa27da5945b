/- append as one step of a region that draws; rows of the call's own that grow by one element. -/
import Derived.Test.YtpebcclabaennaaAppR
import Derived.Deep.RegionLaw
namespace Go.Proofs.Ytpebcclabaennaa
open Go.RowKit

theorem step_app {P : Program} {ops : Array Oper} {o : Oper} {a : Act} {w : World} {K : Act → World → Prop} {Q : Exit → Act → World → Prop} {E : Prop} (hgd : o.guard = none) (s x : Operand) (t : TypeId)
    (ho : o.op = .call { callee := .builtin .append, args := #[s, x], argTypes := #[t, t] })
    (base : Nat) (e : TypeId) (z : Value) (size bytes : Nat) (ht : P.underlying t = some (.slice e)) (hinfo : (P.info? e).map (fun i => (i.zero, i.size, i.bytes)) = some (some z, size, bytes))
    (hzs : z.cells.size = size) (hsz : 0 < size)
    (v : Value) (n : Nat) (xs : List Value) (hs : a.eval s = v) (hown : w.ownsRow base e size v n xs)
    (A : Option Addr) (m c : Nat) (news : List Value) (hx : a.eval x = .slice A m c) (hr : HoldsC w size A m news) (h1 : ∀ u ∈ news, u.oneCell' = true)
    (hbytes : (n + m) * bytes ≤ 140737488355328) (h63 : n + m ≤ 9223372036854775807) (hbase : base ≤ w.heap.size)
    (h : ∀ v' w', w'.ownsRow base e size v' (n + m) (xs ++ news) → w.grownBy w' v.ownBlock → (v'.ownBlock = v.ownBlock ∨ v'.ownBlock = some w.heap.size) → K (a.put o.dst v') w') :
    if Region.wanted o (yielded ops a.tmps) = true then Oper.wp P o a w K Q else E := by
  have hw : Region.wanted o (yielded ops a.tmps) = true := by simp [Region.wanted, hgd]
  rw [if_pos hw]
  obtain ⟨i, hi, hzz⟩ := Option.map_eq_some_iff.1 hinfo
  simp only [Prod.mk.injEq] at hzz
  obtain ⟨hz, hsize, hby⟩ := hzz
  obtain ⟨v', w', hrun, h2, h3, h4⟩ := run_append_c (P := P) w base t o.type e i z size bytes ht hi hz hsize hby hzs hsz v n xs hown A m c news hr h1 (by simp only [maxLen]; omega) hbytes hbase
  unfold Oper.wp
  simp [execOp, ho, resolve, invoke, builtin, hs, hx, hrun, Result.andThen]
  exact h v' w' h2 h3 h4
/-- The cells of a row that is owned are what they are. -/
theorem ownsRow_same {w : World} {base : Nat} {e : TypeId} {size : Nat} {v : Value} {n : Nat} {xs xs' : List Value} (h1 : w.ownsRow base e size v n xs) (hxs' : w.ownsRow base e size v n xs') : xs' = xs := by
  rcases hxs'.2 with ⟨e1, e2⟩ | ⟨g, cap, cur, e1, _, hg, _, _, _, htake⟩
  · have l1 := hxs'.1
    have l2 := h1.1
    rw [e2, Nat.zero_mul] at l1 l2
    rw [List.eq_nil_of_length_eq_zero l1, List.eq_nil_of_length_eq_zero l2]
  · rcases h1.2 with ⟨f1, f2⟩ | ⟨g', cap', cur', f1, _, hg', _, _, _, htake'⟩
    · have l1 := hxs'.1
      have l2 := h1.1
      rw [f2, Nat.zero_mul] at l1 l2
      rw [List.eq_nil_of_length_eq_zero l1, List.eq_nil_of_length_eq_zero l2]
    · rw [e1] at f1
      injection f1 with f1
      injection f1 with f1
      injection f1 with f1
      subst f1
      rw [hg] at hg'
      injection hg' with hg'
      injection hg' with hg'
      rw [← htake, ← htake', hg']

/-- append of one element, laid into block g, onto a row of the call's own. -/
theorem step_appO {P : Program} {ops : Array Oper} {o : Oper} {a : Act} {w : World} {K : Act → World → Prop} {Q : Exit → Act → World → Prop} {E : Prop} (hgd : o.guard = none) (s x : Operand) (t : TypeId)
    (ho : o.op = .call { callee := .builtin .append, args := #[s, x], argTypes := #[t, t] })
    (base : Nat) (e : TypeId) (z : Value) (size bytes : Nat) (ht : P.underlying t = some (.slice e)) (hinfo : (P.info? e).map (fun i => (i.zero, i.size, i.bytes)) = some (some z, size, bytes))
    (hzs : z.cells.size = size) (hsz : 0 < size)
    (D D' : Nat → Prop) (D2 : Nat → Nat → Prop) (v : Value) (rows : List (List Dat)) (hs : a.eval s = v) (hacc : Acc w base D e size v rows)
    (g c : Nat) (news : List Value) (r : List Dat) (hx : a.eval x = .slice (some ⟨g, 0, none⟩) 1 c) (hcells : ∀ j u, news[j]? = some u → w.cell? ⟨g, j, none⟩ = some u) (hone : ∀ u ∈ news, u.oneCell' = true)
    (hr : r.length = size) (hn : news.length = size) (hnew : ∀ j u, news[j]? = some u → Own w (D2 j) (dGet r j) u)
    (hD2 : ∀ j k, j < size → D2 j k → D' k ∧ ¬ D k ∧ v.ownBlock ≠ some k ∧ k < w.heap.size) (hdis : ∀ j j' k, j < size → j' < size → D2 j k → D2 j' k → j = j') (hD : ∀ k, D k → D' k)
    (hbytes : (rows.length + 1) * bytes ≤ 140737488355328) (h63 : rows.length + 1 ≤ 9223372036854775807) (hbase : base ≤ w.heap.size)
    (h : ∀ v' w', Acc w' base D' e size v' (rows ++ [r]) → Ext (fun k => v.ownBlock = some k) w w' → w.heap.size ≤ w'.heap.size → K (a.put o.dst v') w') :
    if Region.wanted o (yielded ops a.tmps) = true then Oper.wp P o a w K Q else E := by
  obtain ⟨xs, E', h1, _⟩ := id hacc
  refine step_app hgd s x t ho base e z size bytes ht hinfo hzs hsz v rows.length xs hs h1 (some ⟨g, 0, none⟩) 1 c news hx ⟨by rw [hn, Nat.one_mul], fun _ => ⟨g, 0, rfl, fun j u hj => by rw [Nat.zero_add]; exact hcells j u hj⟩⟩ hone hbytes h63 hbase (fun v' w' q1 q2 q3 => h v' w' ?_ ⟨q2.os, q2.tape, q2.output, q2.size, fun k hk hn => q2.block k hk (fun e => hn e.symm)⟩ q2.size)
  refine hacc.push hr hn hnew hD2 hdis hD (fun xs' hxs' => ?_) q2 q3
  rw [ownsRow_same h1 hxs']
  exact q1
theorem Acc.bound {w : World} {base : Nat} {D : Nat → Prop} {T : TypeId} {s : Nat} {v : Value} {rows : List (List Dat)} (h : Acc w base D T s v rows) : ∀ k, v.ownBlock = some k → base ≤ k ∧ k < w.heap.size := by
  obtain ⟨xs, E, h1, _⟩ := h
  exact h1.lt
end Go.Proofs.Ytpebcclabaennaa
