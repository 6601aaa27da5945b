/- append of one element of the call's own, told by what the element holds: as a step of a region that draws, and plain. -/
import Derived.Test.YtpebcclabaennaaStepApp
import Derived.Test.YtpebcclabaennaaOwn2
namespace Go.Proofs.Ytpebcclabaennaa
open Go.RowKit

theorem Acc.lt {w : World} {base : Nat} {D : Nat → Prop} {T : TypeId} {s : Nat} {v : Value} {rows : List (List Dat)} (h : Acc w base D T s v rows) : Acc w base (fun k => D k ∧ k < w.heap.size) T s v rows := by
  obtain ⟨xs, E, h1, h2, h3, h4, h5⟩ := h
  exact ⟨xs, E, h1, h2, fun i j k hi hj hk => ⟨⟨(h3 i j k hi hj hk).1, (h3 i j k hi hj hk).2.1⟩, (h3 i j k hi hj hk).2⟩, h4, h5⟩

theorem step_appT {P : Program} {ops : Array Oper} {o : Oper} {a : Act} {w : World} {K : Act → World → Prop} {Q : Exit → Act → World → Prop} {E : Prop} (hgd : o.guard = none) (s x : Operand) (t : TypeId)
    (ho : o.op = .call { callee := .builtin .append, args := #[s, x], argTypes := #[t, t] })
    (base : Nat) (e : TypeId) (z : Value) (size bytes : Nat) (ht : P.underlying t = some (.slice e)) (hinfo : (P.info? e).map (fun i => (i.zero, i.size, i.bytes)) = some (some z, size, bytes))
    (hzs : z.cells.size = size) (hsz : 0 < size)
    (D D' : Nat → Prop) (lo hi : Nat) (v : Value) (rows : List (List Dat)) (hs : a.eval s = v) (hacc : Acc w base D e size v rows)
    (g c : Nat) (news : List Value) (r : List Dat) (hx : a.eval x = .slice (some ⟨g, 0, none⟩) 1 c) (hcells : ∀ j u, news[j]? = some u → w.cell? ⟨g, j, none⟩ = some u) (hone : ∀ u ∈ news, u.oneCell' = true)
    (hr : r.length = size) (hT : ToS lo hi w r news)
    (hlo : ∀ k, lo ≤ k → k < hi → D' k ∧ ¬ D k ∧ v.ownBlock ≠ some k ∧ k < w.heap.size) (hD : ∀ k, D k → D' k)
    (hbytes : (rows.length + 1) * bytes ≤ 140737488355328) (h63 : rows.length + 1 ≤ 9223372036854775807) (hbase : base ≤ w.heap.size)
    (h : ∀ v' w', Acc w' base D' e size v' (rows ++ [r]) → Ext (fun k => v.ownBlock = some k) w w' → w.heap.size ≤ w'.heap.size → K (a.put o.dst v') w') :
    if Region.wanted o (yielded ops a.tmps) = true then Oper.wp P o a w K Q else E := by
  obtain ⟨D2, t1, t2, t3, t4⟩ := hT
  exact step_appO hgd s x t ho base e z size bytes ht hinfo hzs hsz D D' D2 v rows hs hacc g c news r hx hcells hone hr (by omega)
    (fun j u hj => by
      obtain ⟨hl, _⟩ := List.getElem?_eq_some_iff.1 hj
      obtain ⟨u', hu, ho⟩ := t4 j (by omega)
      rw [hj] at hu; injection hu with hu; subst hu; exact ho)
    (fun j k hj hk => hlo k (t1 j k hk).1 (t1 j k hk).2) (fun j j' k _ _ => t2 j j' k) hD hbytes h63 hbase h

theorem wpList_appT {P : Program} (w : World) {ops : Array Oper} {rest : List Oper} {o : Oper} {a : Act} {Q : Exit → Act → World → Prop} (hgd : o.guard = none) (s x : Operand) (t : TypeId)
    (ho : o.op = .call { callee := .builtin .append, args := #[s, x], argTypes := #[t, t] })
    (base : Nat) (e : TypeId) (z : Value) (size bytes : Nat) (ht : P.underlying t = some (.slice e)) (hinfo : (P.info? e).map (fun i => (i.zero, i.size, i.bytes)) = some (some z, size, bytes))
    (hzs : z.cells.size = size) (hsz : 0 < size)
    (D D' : Nat → Prop) (lo hi : Nat) (v : Value) (rows : List (List Dat)) (hs : a.eval s = v) (hacc : Acc w base D e size v rows)
    (g c : Nat) (news : List Value) (r : List Dat) (hx : a.eval x = .slice (some ⟨g, 0, none⟩) 1 c) (hcells : ∀ j u, news[j]? = some u → w.cell? ⟨g, j, none⟩ = some u) (hone : ∀ u ∈ news, u.oneCell' = true)
    (hr : r.length = size) (hT : ToS lo hi w r news)
    (hlo : ∀ k, lo ≤ k → k < hi → D' k ∧ ¬ D k ∧ v.ownBlock ≠ some k ∧ k < w.heap.size) (hD : ∀ k, D k → D' k)
    (hbytes : (rows.length + 1) * bytes ≤ 140737488355328) (h63 : rows.length + 1 ≤ 9223372036854775807) (hbase : base ≤ w.heap.size)
    (h : ∀ v' w', Acc w' base D' e size v' (rows ++ [r]) → Ext (fun k => v.ownBlock = some k) w w' → w.heap.size ≤ w'.heap.size → wpList P ops Q rest (a.put o.dst v') w') : wpList P ops Q (o :: rest) a w := by
  obtain ⟨D2, t1, t2, t3, t4⟩ := hT
  obtain ⟨xs, E', h1, _⟩ := id hacc
  refine wpList_app w hgd s x t ho base e z size bytes ht hinfo hzs hsz v rows.length xs hs h1 (some ⟨g, 0, none⟩) 1 c news hx ⟨by rw [t3, hr, Nat.one_mul], fun _ => ⟨g, 0, rfl, fun j u hj => by rw [Nat.zero_add]; exact hcells j u hj⟩⟩ hone hbytes h63 hbase (fun v' w' q1 q2 q3 => h v' w' ?_ ⟨q2.os, q2.tape, q2.output, q2.size, fun k hk hn => q2.block k hk (fun e => hn e.symm)⟩ q2.size)
  refine hacc.push (news := news) (D2 := D2) hr (by omega) (fun j u hj => by
      obtain ⟨hl, _⟩ := List.getElem?_eq_some_iff.1 hj
      obtain ⟨u', hu, ho⟩ := t4 j (by omega)
      rw [hj] at hu; injection hu with hu; subst hu; exact ho) (fun j k hj hk => hlo k (t1 j k hk).1 (t1 j k hk).2) (fun j j' k _ _ => t2 j j' k) hD (fun xs' hxs' => ?_) q2 q3
  rw [ownsRow_same h1 hxs']
  exact q1

/-- The cells of a value list that has just been laid. -/
theorem cells_lit (w : World) (us : List Value) (T : TypeId) : ∀ (j : Nat) (u : Value), us[j]? = some u → (w.alloc (.cells us.toArray T)).cell? ⟨w.heap.size, j, none⟩ = some u := by
  intro j u hj
  rw [boxk (Ext.refl _ _) j]
  simpa using hj
theorem ToS.cons {lo m hi : Nat} {w : World} {d : Dat} {ds2 : List Dat} {u : Value} {us2 : List Value} (h : ToS lo m w [d] [u]) (h2 : ToS m hi w ds2 us2) (hlo : lo ≤ m) (hhi : m ≤ hi) : ToS lo hi w (d :: ds2) (u :: us2) := h.app h2 hlo hhi
theorem ToS.consI {lo hi : Nat} {w : World} {z : Int} {ds2 : List Dat} {us2 : List Value} (h2 : ToS lo hi w ds2 us2) (hhi : lo ≤ hi) : ToS lo hi w (.num z :: ds2) (.int .i64 z :: us2) := (ToS.int lo lo w z).app h2 (Nat.le_refl _) hhi
theorem ToS.snocI {lo hi : Nat} {w : World} {z : Int} {ds : List Dat} {us : List Value} (h : ToS lo hi w ds us) (hhi : lo ≤ hi) : ToS lo hi w (ds ++ [.num z]) (us ++ [.int .i64 z]) := h.app (ToS.int hi hi w z) hhi (Nat.le_refl _)
/-- What a slice of the call's own holds, between two worlds. -/
theorem ToS.one {lo hi : Nat} {w : World} {D : Nat → Prop} {d : Dat} {u : Value} (h : Own w D d u) (hD : ∀ k, D k → k < w.heap.size → lo ≤ k ∧ k < hi) : ToS lo hi w [d] [u] := by
  refine ⟨fun i k => i = 0 ∧ lo ≤ k ∧ k < hi, fun i k hk => hk.2, fun i i' k hk hk' => by omega, rfl, fun i hi => ?_⟩
  obtain rfl : i = 0 := by simpa using hi
  exact ⟨u, rfl, h.lt.mono (fun k hk => ⟨rfl, hD k hk.1 hk.2⟩)⟩

/-- A call of a function of the program as one step of a region that draws. -/
theorem step_call {P : Program} {ops : Array Oper} {o : Oper} {a : Act} {w : World} {K : Act → World → Prop} {Q : Exit → Act → World → Prop} {E : Prop} (hg : o.guard = none) (F : FuncId) (xs : List Operand) (ts : Array TypeId)
    (hop : o.op = Op.call { callee := .value (.func F), args := xs.toArray, argTypes := ts }) (vals : Array Value) (hv : (xs.map a.eval).toArray = vals) (hF : (callFunc F vals).run P w = .ok (.enter F vals) w)
    {R : Ending → World → Prop} (hc : Calls P F vals w R) (hK : ∀ e w', R e w' → ∃ v, e = .returned v ∧ K (a.put o.dst v) w') :
    if Region.wanted o (yielded ops a.tmps) = true then Oper.wp P o a w K Q else E := by
  have hw : Region.wanted o (yielded ops a.tmps) = true := by simp [Region.wanted, hg]
  rw [if_pos hw]
  unfold Oper.wp execOp
  subst hv
  have e1 : a.eval (.func F) = .func (.func F) #[] #[] := rfl
  have hd : (Deferred.ofValue (.func (.func F) #[] #[]) (xs.map a.eval).toArray).run P w = .ok { target := .fn (.func F) #[], args := (xs.map a.eval).toArray } w := by simp [Deferred.ofValue]
  simp only [hop, resolve, invoke, Sem.run_bind, e1, List.map_toArray, hd, Result.andThen_ok, Array.append_empty, hF, Oper.upon_enter]
  exact hc.mono (fun e w' hr => by
    obtain ⟨v, rfl, hk⟩ := hK e w' hr
    exact hk)
end Go.Proofs.Ytpebcclabaennaa
