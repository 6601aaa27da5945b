/- A region that draws its order, by hand: the laws with the operation written out; operations whose guard is false. -/
import Derived.Test.YtaeddcnakilnlaaMGA
import Derived.Deep.RegionHeld3
import Derived.Maps.RangeWalk
namespace Go.Proofs.Ytaeddcnakilnlaa
open Go.RowKit

section
variable {P : Program} {md : Region.Mode} {ops : Array Oper} {Q : Exit → Act → World → Prop} {S : World → Prop} {i : Nat} {oi : Oper} {fuel : Nat} {listed : Array Bool} {a : Act} {w : World}
/-- An operation that yields in every world that meets S is taken first. -/
theorem wpAnyH_takeL {v : Value} (hi : ops.toList[i]? = some oi)
    (hs : Region.noSelect ops = true) (hf : Region.free md ops listed i = true) (hr : (Region.ready md ops listed).contains i = true)
    (hQ : ∀ c a w, Q (.panic c) (a.put oi.dst v) w → Q (.panic c) a w) (hw : Region.wanted oi (yielded ops a.tmps) = true) (hS : S w) (hy : ∀ w, S w → (execOp a.eval oi).run P w = .ok (.value v) w)
    (h : wpAnyH P md ops Q S fuel (listed.setIfInBounds i true) (a.put oi.dst v) w) : wpAnyH P md ops Q S (fuel + 1) listed a w :=
  wpAnyH_take (by simpa using hi) hs hf hr hQ (.inl ⟨hw, hy⟩) hS h
/-- An operation whose guard is false is passed over. -/
theorem wpAnyH_skipL (hi : ops.toList[i]? = some oi)
    (hs : Region.noSelect ops = true) (hf : Region.free md ops listed i = true) (hr : (Region.ready md ops listed).contains i = true)
    (hQ : ∀ c a w, Q (.panic c) (a.put oi.dst undef) w → Q (.panic c) a w) (hw : Region.wanted oi (yielded ops a.tmps) = false) (hS : S w)
    (h : wpAnyH P md ops Q S fuel (listed.setIfInBounds i true) (a.put oi.dst undef) w) : wpAnyH P md ops Q S (fuel + 1) listed a w :=
  wpAnyH_take (by simpa using hi) hs hf hr hQ (.inr ⟨hw, rfl⟩) hS h
/-- The one operation that may come up is carried out. -/
theorem wpAnyH_oneL (hi : ops.toList[i]? = some oi) (hr : Region.ready md ops listed = [i]) (hw : Region.wanted oi (yielded ops a.tmps) = true)
    (h : ∀ K' : Act → World → Prop, Shut (∀ a w, S w → (S w → wpAnyH P md ops Q S fuel (listed.setIfInBounds i true) a w) → K' a w) → Oper.wp P oi a w K' Q) : wpAnyH P md ops Q S (fuel + 1) listed a w :=
  wpAnyH_ready hr (by simp) (AllReadyH.cons (by simpa using hi) (fun K' hK => by rw [if_pos hw]; exact h K' hK) AllReadyH.nil)
/-- The three laws with their side conditions shown by themselves. -/
theorem wT {v : Value} (i : Nat) (hS : S w) (h : wpAnyH P md ops Q S fuel (listed.setIfInBounds i true) (a.put oi.dst v) w) (hi : ops.toList[i]? = some oi := by rfl)
    (hs : Region.noSelect ops = true := by kernel_rfl) (hf : Region.free md ops listed i = true := by kernel_rfl) (hr : (Region.ready md ops listed).contains i = true := by kernel_rfl)
    (hQ : ∀ c a w, Q (.panic c) (a.put oi.dst v) w → Q (.panic c) a w := by exact fun _ _ _ h => h) (hw : Region.wanted oi (yielded ops a.tmps) = true := by rfl)
    (hy : ∀ w, S w → (execOp a.eval oi).run P w = .ok (.value v) w := by (intro w hSw; (try dsimp only at hSw); go_simp; (try with_reducible rfl))) : wpAnyH P md ops Q S (fuel + 1) listed a w :=
  wpAnyH_takeL hi hs hf hr hQ hw hS hy h
theorem wS (i : Nat) (hS : S w) (h : wpAnyH P md ops Q S fuel (listed.setIfInBounds i true) (a.put oi.dst undef) w) (hi : ops.toList[i]? = some oi := by rfl)
    (hs : Region.noSelect ops = true := by kernel_rfl) (hf : Region.free md ops listed i = true := by kernel_rfl) (hr : (Region.ready md ops listed).contains i = true := by kernel_rfl)
    (hQ : ∀ c a w, Q (.panic c) (a.put oi.dst undef) w → Q (.panic c) a w := by exact fun _ _ _ h => h) (hw : Region.wanted oi (yielded ops a.tmps) = false := by rfl) : wpAnyH P md ops Q S (fuel + 1) listed a w :=
  wpAnyH_skipL hi hs hf hr hQ hw hS h
theorem wO (i : Nat) (h : ∀ K' : Act → World → Prop, Shut (∀ a w, S w → (S w → wpAnyH P md ops Q S fuel (listed.setIfInBounds i true) a w) → K' a w) → Oper.wp P oi a w K' Q)
    (hi : ops.toList[i]? = some oi := by rfl) (hr : Region.ready md ops listed = [i] := by kernel_rfl) (hw : Region.wanted oi (yielded ops a.tmps) = true := by rfl) : wpAnyH P md ops Q S (fuel + 1) listed a w :=
  wpAnyH_oneL hi hr hw h
end
end Go.Proofs.Ytaeddcnakilnlaa
/- A region that draws its order, by hand: branching; append onto rows of the call's own. -/
namespace Go.Proofs.Ytaeddcnakilnlaa
open Go.RowKit

theorem allReadyH_consL {P : Program} {md : Region.Mode} {ops : Array Oper} {Q : Exit → Act → World → Prop} {S : World → Prop} {i : Nat} {oi : Oper} {fuel : Nat} {listed : Array Bool} {a : Act} {w : World} {rs : List Nat} (hi : ops.toList[i]? = some oi) (hw : Region.wanted oi (yielded ops a.tmps) = true)
    (h : ∀ K' : Act → World → Prop, Shut (∀ a w, S w → (S w → wpAnyH P md ops Q S fuel (listed.setIfInBounds i true) a w) → K' a w) → Oper.wp P oi a w K' Q)
    (hs : AllReadyH P md ops Q S fuel listed a w rs) : AllReadyH P md ops Q S fuel listed a w (i :: rs) :=
  AllReadyH.cons (by simpa using hi) (fun K' hK => by rw [if_pos hw]; exact h K' hK) hs

theorem run_appR {P : Program} (w : World) (t ty : TypeId)
    (base : Nat) (e : TypeId) (z : Value) (size bytes : Nat) (ht : P.underlying t = some (.slice e)) (hinfo : (P.info? e).map (fun i => (i.zero, i.size, i.bytes)) = some (some z, size, bytes))
    (hzs : z.cells.size = size) (hsz : 0 < size)
    (D : Nat → Prop) (v : Value) (rows : List (List Dat)) (hacc : AccR w base D e size v rows)
    (A : Option Addr) (m c : Nat) (rs : List (List Dat)) (D2 : Nat → Prop) (hr : Rd w D2 (.arr size rs) (.slice A m c)) (hD2 : ∀ k, k < w.heap.size → D2 k → D k ∧ v.ownBlock ≠ some k)
    (hbytes : (rows.length + m) * bytes ≤ 140737488355328) (h63 : rows.length + m ≤ 9223372036854775807) (hbase : base ≤ w.heap.size) :
    ∃ v' w', (Builtin.append_ #[t, t] ty #[v, .slice A m c]).run P w = .ok v' w' ∧ AccR w' base D e size v' (rows ++ rs) ∧ Ext (fun k => v.ownBlock = some k) w w' ∧ (v'.ownBlock = v.ownBlock ∨ v'.ownBlock = some w.heap.size) := by
  have hr' := hr.lt
  obtain ⟨news, n1, n2, n3, n4⟩ := hr'.holds hsz
  have hm : m = rs.length := by obtain ⟨a', c', e, _⟩ := hr.arr_inv; injection e
  obtain ⟨xs, h1, _, _⟩ := id hacc
  obtain ⟨i, hi, hzz⟩ := Option.map_eq_some_iff.1 hinfo
  simp only [Prod.mk.injEq] at hzz
  obtain ⟨hz, hsize, hby⟩ := hzz
  obtain ⟨v', w', hrun, q1, q2, q3⟩ := run_append_c (P := P) w base t ty e i z size bytes ht hi hz hsize hby hzs hsz v rows.length xs h1 A m c news n1 n2 (by simp only [maxLen]; omega) hbytes hbase
  refine ⟨v', w', hrun, ?_, ⟨q2.os, q2.tape, q2.output, q2.size, fun k hk hn => q2.block k hk (fun e => hn e.symm)⟩, q3⟩
  refine hacc.push (rs := rs) (news := news) n3 (fun i j hi hj => ?_) (fun xs' hxs' => ?_) q2 q3
  · obtain ⟨u, hu, hu2⟩ := n4 i j hi hj
    exact ⟨u, hu, hu2.mono (fun k hk => hD2 k hk.2 hk.1)⟩
  · have : xs' = xs := by
      rcases hxs'.2 with ⟨e1, e2⟩ | ⟨g, cap, cur, e1, _, hg, _, _, _, htake⟩
      · have l1 := hxs'.1
        have l2 := h1.1
        rw [e2, Nat.zero_mul] at l1 l2
        rw [List.eq_nil_of_length_eq_zero l1, List.eq_nil_of_length_eq_zero l2]
      · rcases h1.2 with ⟨f1, f2⟩ | ⟨g', cap', cur', f1, _, hg', _, _, _, htake'⟩
        · have l1 := hxs'.1
          have l2 := h1.1
          rw [f2, Nat.zero_mul] at l1 l2
          rw [List.eq_nil_of_length_eq_zero l1, List.eq_nil_of_length_eq_zero l2]
        · rw [e1] at f1
          injection f1 with f1
          injection f1 with f1
          injection f1 with f1
          subst f1
          rw [hg] at hg'
          injection hg' with hg'
          injection hg' with hg'
          rw [← htake, ← htake', hg']
    subst this
    rw [← hm]; exact q1

/-- append as an operation of a region. -/
theorem wp_appR {P : Program} (w : World) {o : Oper} {a : Act} {K : Act → World → Prop} {Q : Exit → Act → World → Prop} (s x : Operand) (t : TypeId)
    (ho : o.op = .call { callee := .builtin .append, args := #[s, x], argTypes := #[t, t] })
    (base : Nat) (e : TypeId) (z : Value) (size bytes : Nat) (ht : P.underlying t = some (.slice e)) (hinfo : (P.info? e).map (fun i => (i.zero, i.size, i.bytes)) = some (some z, size, bytes))
    (hzs : z.cells.size = size) (hsz : 0 < size)
    (D : Nat → Prop) (v : Value) (rows : List (List Dat)) (hs : a.eval s = v) (hacc : AccR w base D e size v rows)
    (A : Option Addr) (m c : Nat) (rs : List (List Dat)) (D2 : Nat → Prop) (hx : a.eval x = .slice A m c) (hr : Rd w D2 (.arr size rs) (.slice A m c)) (hD2 : ∀ k, k < w.heap.size → D2 k → D k ∧ v.ownBlock ≠ some k)
    (hbytes : (rows.length + m) * bytes ≤ 140737488355328) (h63 : rows.length + m ≤ 9223372036854775807) (hbase : base ≤ w.heap.size)
    (h : ∀ v' w', AccR w' base D e size v' (rows ++ rs) → Ext (fun k => v.ownBlock = some k) w w' → (v'.ownBlock = v.ownBlock ∨ v'.ownBlock = some w.heap.size) → K (a.put o.dst v') w') : Oper.wp P o a w K Q := by
  obtain ⟨v', w', hrun, h2, h3, h4⟩ := run_appR (P := P) w t o.type base e z size bytes ht hinfo hzs hsz D v rows hacc A m c rs D2 hr hD2 hbytes h63 hbase
  unfold Oper.wp
  simp [execOp, ho, resolve, invoke, builtin, hs, hx, hrun, Result.andThen]
  exact h v' w' h2 h3 h4
end Go.Proofs.Ytaeddcnakilnlaa
