/- ValidSigs of both. -/
import Derived.Test.YtmekdccgjgfiaaaQAK
import Derived.Test.YtmekdccgjgfiaaaQAA
import Derived.Deep.RegionHeld3
import Derived.Maps.RangeWalk
import Derived.Test.YtmekdccgjgfiaaaQAC
import Derived.Test.YtmekdccgjgfiaaaQAJ
namespace Go.Proofs.Ytmekdccgjgfiaaa
open Go.RowKit


/-- An empty slice with room. -/
theorem wpList_makeR {P : Program} (w : World) {ops : Array Oper} {rest : List Oper} {o : Oper} {a : Act} {Q : Exit → Act → World → Prop}
    (hg : o.guard = none) (l c : Operand) (t : TypeId) (hop : o.op = Op.makeSlice t l c)
    (base : Nat) (e : TypeId) (z : Value) (size bytes : Nat) (h1 : P.underlying t = some (.slice e)) (hinfo : (P.info? e).map (fun i => (i.zero, i.size, i.bytes)) = some (some z, size, bytes))
    (C : Int) (n : Nat) (hl : a.eval l = .int .i64 0) (hc : a.eval c = .int .i64 C) (hC : C = (n : Int)) (b2 : bytes * n ≤ 281474976710656) (b3 : n ≤ maxLen) (b4 : base ≤ w.heap.size) (D : Nat → Prop)
    (hK : ∀ w', AccR w' base D e size (.slice (some ⟨w.heap.size, 0, none⟩) 0 n) [] → Keep w w' → wpList P ops Q rest (a.put o.dst (.slice (some ⟨w.heap.size, 0, none⟩) 0 n)) w') :
    wpList P ops Q (o :: rest) a w := by
  obtain ⟨i, hi, hz0, hz1, hz2⟩ := info_parts hinfo
  exact wpList_make_own w hg l c t hop base e i z size h1 hi hz0 hz1 .i64 .i64 C n hl hc hC (by rw [hz2]; exact b2) b3 b4 (fun w' h g => hK w' ⟨[], h, by simp, by simp⟩ (Ext.grown (Ext.refl _ _) g (fun k hk => by cases hk)))

/-- One signature, laid into a new block. -/
theorem lit_sig (w : World) (D : Nat → Prop) (T : TypeId) (s : SigL) (a : Option Addr) (n c : Nat) (a' : Option Addr) (n' c' : Nat) (hB : D w.heap.size) (h : Rd w D (encInts s.params) (.slice a n c)) (h' : Rd w D (encInts s.lent) (.slice a' n' c')) :
    Rd (w.alloc (.cells #[.slice a n c, .slice a' n' c', .int .i64 s.result] T)) D (encSigs [s]) (.slice (some ⟨w.heap.size, 0, none⟩) 1 1) := by
  refine Rd.litD w D T 3 _ ([s].map rowG) 1 hB (by simp) (by omega) (by omega) (by simp) (fun i hi => by rw [sigs_row [s] i (by simpa using hi)]; rfl) (fun i j hi hj => ?_)
  obtain rfl : i = 0 := by simpa using hi
  rcases (show j = 0 ∨ j = 1 ∨ j = 2 by omega) with rfl | rfl | rfl
  · exact ⟨_, rfl, h⟩
  · exact ⟨_, rfl, h'⟩
  · exact ⟨_, rfl, .num s.result⟩

end Go.Proofs.Ytmekdccgjgfiaaa
/- A region that draws its order, by hand: the laws with the operation written out; operations whose guard is false. -/
namespace Go.Proofs.Ytmekdccgjgfiaaa
open Go.RowKit

section
variable {P : Program} {md : Region.Mode} {ops : Array Oper} {Q : Exit → Act → World → Prop} {S : World → Prop} {i : Nat} {oi : Oper} {fuel : Nat} {listed : Array Bool} {a : Act} {w : World}
/-- An operation that yields in every world that meets S is taken first. -/
theorem wpAnyH_takeL {v : Value} (hi : ops.toList[i]? = some oi)
    (hs : Region.noSelect ops = true) (hf : Region.free md ops listed i = true) (hr : (Region.ready md ops listed).contains i = true)
    (hQ : ∀ c a w, Q (.panic c) (a.put oi.dst v) w → Q (.panic c) a w) (hw : Region.wanted oi (yielded ops a.tmps) = true) (hS : S w) (hy : ∀ w, S w → (execOp a.eval oi).run P w = .ok (.value v) w)
    (h : wpAnyH P md ops Q S fuel (listed.setIfInBounds i true) (a.put oi.dst v) w) : wpAnyH P md ops Q S (fuel + 1) listed a w :=
  wpAnyH_take (by simpa using hi) hs hf hr hQ (.inl ⟨hw, hy⟩) hS h
/-- An operation whose guard is false is passed over. -/
theorem wpAnyH_skipL (hi : ops.toList[i]? = some oi)
    (hs : Region.noSelect ops = true) (hf : Region.free md ops listed i = true) (hr : (Region.ready md ops listed).contains i = true)
    (hQ : ∀ c a w, Q (.panic c) (a.put oi.dst undef) w → Q (.panic c) a w) (hw : Region.wanted oi (yielded ops a.tmps) = false) (hS : S w)
    (h : wpAnyH P md ops Q S fuel (listed.setIfInBounds i true) (a.put oi.dst undef) w) : wpAnyH P md ops Q S (fuel + 1) listed a w :=
  wpAnyH_take (by simpa using hi) hs hf hr hQ (.inr ⟨hw, rfl⟩) hS h
/-- The one operation that may come up is carried out. -/
theorem wpAnyH_oneL (hi : ops.toList[i]? = some oi) (hr : Region.ready md ops listed = [i]) (hw : Region.wanted oi (yielded ops a.tmps) = true)
    (h : ∀ K' : Act → World → Prop, Shut (∀ a w, S w → (S w → wpAnyH P md ops Q S fuel (listed.setIfInBounds i true) a w) → K' a w) → Oper.wp P oi a w K' Q) : wpAnyH P md ops Q S (fuel + 1) listed a w :=
  wpAnyH_ready hr (by simp) (AllReadyH.cons (by simpa using hi) (fun K' hK => by rw [if_pos hw]; exact h K' hK) AllReadyH.nil)
/-- The three laws with their side conditions shown by themselves. -/
theorem wT {v : Value} (i : Nat) (hS : S w) (h : wpAnyH P md ops Q S fuel (listed.setIfInBounds i true) (a.put oi.dst v) w) (hi : ops.toList[i]? = some oi := by rfl)
    (hs : Region.noSelect ops = true := by kernel_rfl) (hf : Region.free md ops listed i = true := by kernel_rfl) (hr : (Region.ready md ops listed).contains i = true := by kernel_rfl)
    (hQ : ∀ c a w, Q (.panic c) (a.put oi.dst v) w → Q (.panic c) a w := by exact fun _ _ _ h => h) (hw : Region.wanted oi (yielded ops a.tmps) = true := by rfl)
    (hy : ∀ w, S w → (execOp a.eval oi).run P w = .ok (.value v) w := by (intro w hSw; (try dsimp only at hSw); go_simp; (try with_reducible rfl))) : wpAnyH P md ops Q S (fuel + 1) listed a w :=
  wpAnyH_takeL hi hs hf hr hQ hw hS hy h
theorem wS (i : Nat) (hS : S w) (h : wpAnyH P md ops Q S fuel (listed.setIfInBounds i true) (a.put oi.dst undef) w) (hi : ops.toList[i]? = some oi := by rfl)
    (hs : Region.noSelect ops = true := by kernel_rfl) (hf : Region.free md ops listed i = true := by kernel_rfl) (hr : (Region.ready md ops listed).contains i = true := by kernel_rfl)
    (hQ : ∀ c a w, Q (.panic c) (a.put oi.dst undef) w → Q (.panic c) a w := by exact fun _ _ _ h => h) (hw : Region.wanted oi (yielded ops a.tmps) = false := by rfl) : wpAnyH P md ops Q S (fuel + 1) listed a w :=
  wpAnyH_skipL hi hs hf hr hQ hw hS h
theorem wO (i : Nat) (h : ∀ K' : Act → World → Prop, Shut (∀ a w, S w → (S w → wpAnyH P md ops Q S fuel (listed.setIfInBounds i true) a w) → K' a w) → Oper.wp P oi a w K' Q)
    (hi : ops.toList[i]? = some oi := by rfl) (hr : Region.ready md ops listed = [i] := by kernel_rfl) (hw : Region.wanted oi (yielded ops a.tmps) = true := by rfl) : wpAnyH P md ops Q S (fuel + 1) listed a w :=
  wpAnyH_oneL hi hr hw h
end
end Go.Proofs.Ytmekdccgjgfiaaa
/- A region that draws its order, by hand: branching; append onto rows of the call's own. -/
namespace Go.Proofs.Ytmekdccgjgfiaaa
open Go.RowKit

theorem allReadyH_consL {P : Program} {md : Region.Mode} {ops : Array Oper} {Q : Exit → Act → World → Prop} {S : World → Prop} {i : Nat} {oi : Oper} {fuel : Nat} {listed : Array Bool} {a : Act} {w : World} {rs : List Nat} (hi : ops.toList[i]? = some oi) (hw : Region.wanted oi (yielded ops a.tmps) = true)
    (h : ∀ K' : Act → World → Prop, Shut (∀ a w, S w → (S w → wpAnyH P md ops Q S fuel (listed.setIfInBounds i true) a w) → K' a w) → Oper.wp P oi a w K' Q)
    (hs : AllReadyH P md ops Q S fuel listed a w rs) : AllReadyH P md ops Q S fuel listed a w (i :: rs) :=
  AllReadyH.cons (by simpa using hi) (fun K' hK => by rw [if_pos hw]; exact h K' hK) hs

theorem run_appR {P : Program} (w : World) (t ty : TypeId)
    (base : Nat) (e : TypeId) (z : Value) (size bytes : Nat) (ht : P.underlying t = some (.slice e)) (hinfo : (P.info? e).map (fun i => (i.zero, i.size, i.bytes)) = some (some z, size, bytes))
    (hzs : z.cells.size = size) (hsz : 0 < size)
    (D : Nat → Prop) (v : Value) (rows : List (List Dat)) (hacc : AccR w base D e size v rows)
    (A : Option Addr) (m c : Nat) (rs : List (List Dat)) (D2 : Nat → Prop) (hr : Rd w D2 (.arr size rs) (.slice A m c)) (hD2 : ∀ k, k < w.heap.size → D2 k → D k ∧ v.ownBlock ≠ some k)
    (hbytes : (rows.length + m) * bytes ≤ 140737488355328) (h63 : rows.length + m ≤ 9223372036854775807) (hbase : base ≤ w.heap.size) :
    ∃ v' w', (Builtin.append_ #[t, t] ty #[v, .slice A m c]).run P w = .ok v' w' ∧ AccR w' base D e size v' (rows ++ rs) ∧ Ext (fun k => v.ownBlock = some k) w w' ∧ (v'.ownBlock = v.ownBlock ∨ v'.ownBlock = some w.heap.size) := by
  have hr' := hr.lt
  obtain ⟨news, n1, n2, n3, n4⟩ := hr'.holds hsz
  have hm : m = rs.length := by obtain ⟨a', c', e, _⟩ := hr.arr_inv; injection e
  obtain ⟨xs, h1, _, _⟩ := id hacc
  obtain ⟨i, hi, hzz⟩ := Option.map_eq_some_iff.1 hinfo
  simp only [Prod.mk.injEq] at hzz
  obtain ⟨hz, hsize, hby⟩ := hzz
  obtain ⟨v', w', hrun, q1, q2, q3⟩ := run_append_c (P := P) w base t ty e i z size bytes ht hi hz hsize hby hzs hsz v rows.length xs h1 A m c news n1 n2 (by simp only [maxLen]; omega) hbytes hbase
  refine ⟨v', w', hrun, ?_, ⟨q2.os, q2.tape, q2.output, q2.size, fun k hk hn => q2.block k hk (fun e => hn e.symm)⟩, q3⟩
  refine hacc.push (rs := rs) (news := news) n3 (fun i j hi hj => ?_) (fun xs' hxs' => ?_) q2 q3
  · obtain ⟨u, hu, hu2⟩ := n4 i j hi hj
    exact ⟨u, hu, hu2.mono (fun k hk => hD2 k hk.2 hk.1)⟩
  · have : xs' = xs := by
      rcases hxs'.2 with ⟨e1, e2⟩ | ⟨g, cap, cur, e1, _, hg, _, _, _, htake⟩
      · have l1 := hxs'.1
        have l2 := h1.1
        rw [e2, Nat.zero_mul] at l1 l2
        rw [List.eq_nil_of_length_eq_zero l1, List.eq_nil_of_length_eq_zero l2]
      · rcases h1.2 with ⟨f1, f2⟩ | ⟨g', cap', cur', f1, _, hg', _, _, _, htake'⟩
        · have l1 := hxs'.1
          have l2 := h1.1
          rw [f2, Nat.zero_mul] at l1 l2
          rw [List.eq_nil_of_length_eq_zero l1, List.eq_nil_of_length_eq_zero l2]
        · rw [e1] at f1
          injection f1 with f1
          injection f1 with f1
          injection f1 with f1
          subst f1
          rw [hg] at hg'
          injection hg' with hg'
          injection hg' with hg'
          rw [← htake, ← htake', hg']
    subst this
    rw [← hm]; exact q1

/-- append as an operation of a region. -/
theorem wp_appR {P : Program} (w : World) {o : Oper} {a : Act} {K : Act → World → Prop} {Q : Exit → Act → World → Prop} (s x : Operand) (t : TypeId)
    (ho : o.op = .call { callee := .builtin .append, args := #[s, x], argTypes := #[t, t] })
    (base : Nat) (e : TypeId) (z : Value) (size bytes : Nat) (ht : P.underlying t = some (.slice e)) (hinfo : (P.info? e).map (fun i => (i.zero, i.size, i.bytes)) = some (some z, size, bytes))
    (hzs : z.cells.size = size) (hsz : 0 < size)
    (D : Nat → Prop) (v : Value) (rows : List (List Dat)) (hs : a.eval s = v) (hacc : AccR w base D e size v rows)
    (A : Option Addr) (m c : Nat) (rs : List (List Dat)) (D2 : Nat → Prop) (hx : a.eval x = .slice A m c) (hr : Rd w D2 (.arr size rs) (.slice A m c)) (hD2 : ∀ k, k < w.heap.size → D2 k → D k ∧ v.ownBlock ≠ some k)
    (hbytes : (rows.length + m) * bytes ≤ 140737488355328) (h63 : rows.length + m ≤ 9223372036854775807) (hbase : base ≤ w.heap.size)
    (h : ∀ v' w', AccR w' base D e size v' (rows ++ rs) → Ext (fun k => v.ownBlock = some k) w w' → (v'.ownBlock = v.ownBlock ∨ v'.ownBlock = some w.heap.size) → K (a.put o.dst v') w') : Oper.wp P o a w K Q := by
  obtain ⟨v', w', hrun, h2, h3, h4⟩ := run_appR (P := P) w t o.type base e z size bytes ht hinfo hzs hsz D v rows hacc A m c rs D2 hr hD2 hbytes h63 hbase
  unfold Oper.wp
  simp [execOp, ho, resolve, invoke, builtin, hs, hx, hrun, Result.andThen]
  exact h v' w' h2 h3 h4
end Go.Proofs.Ytmekdccgjgfiaaa
/- The reference's signatures of normal forms. -/
namespace Go.Proofs.Ytmekdccgjgfiaaa
open Go.RowKit

def sigR (r : RoutL) : SigL := ⟨r.params, r.lent, r.result⟩
def funcR (r : RoutL) : FuncL := ⟨r.params, r.result, .mk 0 0 []⟩
theorem sgAt_sigR (rs : List RoutL) {i : Nat} (h : i < rs.length) : sgAt (rs.map sigR) i = sigR (rtAt rs i) := by
  rw [sgAt_get (by simpa using h), rtAt_get h]; simp
theorem sgAt_funcR (rs : List RoutL) {i : Nat} (h : i < rs.length) : sgAt ((rs.map funcR).map sigF) i = ⟨(rtAt rs i).params, [], (rtAt rs i).result⟩ := by
  rw [sgAt_get (by simpa using h), rtAt_get h]; simp [funcR, sigF]
theorem sigs_funcR (ds : List DeclL) (rs : List RoutL) : sigsOk ds (rs.map sigR) = (sigsOk ds ((rs.map funcR).map sigF) && (List.range rs.length).all (fun i => lentOk (sigR (rtAt rs i)))) := by
  rw [Bool.eq_iff_iff, Bool.and_eq_true]
  constructor
  · intro h
    obtain ⟨h1, h2, h3, h4⟩ := sigsOk_parts h
    simp only [List.length_map] at h2 h3 h4
    have h5 : (sgAt (rs.map sigR) 0).params.length = 0 ∧ (sgAt (rs.map sigR) 0).result = 0 := by
      simp only [sigsOk, Bool.and_eq_true, decide_eq_true_eq] at h
      exact ⟨h.1.1.2, h.1.2⟩
    rw [sgAt_sigR rs (by omega)] at h5
    refine ⟨sigsOk_yes (n := ds.length) rfl h1 (by simp; omega) (by simp; omega) (by rw [sgAt_funcR rs (by omega)]; exact h5.1) (by rw [sgAt_funcR rs (by omega)]; exact h5.2) (fun i hi => ?_), nAll.2 (fun i hi => ?_)⟩
    · have hi' : i < rs.length := by simpa using hi
      have h6 := h4 i hi'
      rw [sgAt_sigR rs hi'] at h6
      obtain ⟨p1, p2, p3, _⟩ := sigOk_parts h6
      rw [sgAt_funcR rs hi']
      exact sigOk_yes p1 p2 p3 (fun k hk => by simp at hk)
    · have h6 := h4 i hi
      rw [sgAt_sigR rs hi] at h6
      exact (sigOk_parts h6).2.2.2
  · rintro ⟨h, hl⟩
    obtain ⟨h1, h2, h3, h4⟩ := sigsOk_parts h
    simp only [List.length_map] at h2 h3 h4
    have h5 : (sgAt ((rs.map funcR).map sigF) 0).params.length = 0 ∧ (sgAt ((rs.map funcR).map sigF) 0).result = 0 := by
      simp only [sigsOk, Bool.and_eq_true, decide_eq_true_eq] at h
      exact ⟨h.1.1.2, h.1.2⟩
    rw [sgAt_funcR rs (by omega)] at h5
    refine sigsOk_yes (n := ds.length) rfl h1 (by simp; omega) (by simp; omega) (by rw [sgAt_sigR rs (by omega)]; exact h5.1) (by rw [sgAt_sigR rs (by omega)]; exact h5.2) (fun i hi => ?_)
    have hi' : i < rs.length := by simpa using hi
    have h6 := h4 i hi'
    rw [sgAt_funcR rs hi'] at h6
    obtain ⟨p1, p2, p3, _⟩ := sigOk_parts h6
    rw [sgAt_sigR rs hi']
    exact sigOk_yes p1 p2 p3 (fun k hk => nAll.1 (nAll.1 hl i hi') k hk)
theorem lentOk_neg {s : SigL} {k : Nat} (hk : k < s.lent.length) (h : lentAt s k = false) : lentOk s = false := by
  cases e : lentOk s
  · rfl
  · rw [nAll.1 e k hk] at h; exact absurd h (by simp)
theorem sigs_funcR_no {ds : List DeclL} {rs : List RoutL} (h : sigsOk ds ((rs.map funcR).map sigF) = false) : sigsOk ds (rs.map sigR) = false := by rw [sigs_funcR, h, Bool.false_and]
theorem sigs_lent_no {ds : List DeclL} {rs : List RoutL} {i : Nat} (hi : i < rs.length) (h : lentOk (sigR (rtAt rs i)) = false) : sigsOk ds (rs.map sigR) = false := by
  rw [sigs_funcR]
  cases e : (List.range rs.length).all (fun i => lentOk (sigR (rtAt rs i)))
  · simp
  · rw [nAll.1 e i hi] at h; exact absurd h (by simp)
theorem sigs_yes {ds : List DeclL} {rs : List RoutL} (h : sigsOk ds ((rs.map funcR).map sigF) = true) (h2 : ∀ i, i < rs.length → lentOk (sigR (rtAt rs i)) = true) : sigsOk ds (rs.map sigR) = true := by
  rw [sigs_funcR, h, nAll.2 h2]; rfl

set_option maxRecDepth 100000 in
set_option maxHeartbeats 2000000 in
theorem specValidLent (ap : Option Addr) (np cp : Nat) (ps : List Int) (al : Option Addr) (nl cl : Nat) (ls : List Int) (r : Int) (D D1 : Nat → Prop) (w : World) (hp : IntsL w D ap np ps) (hl : IntsL w D1 al nl ls) (hnp : np ≤ 9223372036854775807) (hnl : nl ≤ 9223372036854775807) :
    Calls Try.prog 40 #[.slice ap np cp, .slice al nl cl] w fun e w' => e = .returned (.bool (lentOk ⟨ps, ls, r⟩)) ∧ Keep w w' := by
  refine calls_k fun Q hQ => ?_
  have HV := Lib.hid hp
  have HA := Lib.hid hl
  have HLV := Lib.hid hp.1
  have HLA := Lib.hid hl.1
  clear hp hl
  go_enter Try.func40, Try.ntmps40
  go_wp2_with fail
  go_loopw [5] (fun iv wr => ∃ j : Nat, j ≤ nl ∧ iv = .int .i64 j ∧ Hid (∀ l, l < j → lentAt ⟨ps, ls, r⟩ l = true) ∧ Keep w wr) (fun iv _ => nl - (intOf iv).toNat)
  case atStart => exact ⟨0, Nat.zero_le _, rfl, fun l hl => absurd hl (by omega), Ext.refl _ _⟩
  case round =>
    obtain ⟨j, hj, rfl, hI, hK⟩ := hrel
    by_cases hlt : j < nl
    · obtain ⟨b, o, rfl, _, d0⟩ := HA.out.at hlt
      have g0 := (hK.cell (World.block_lt_of_cell? w _ d0) (fun h => h)).trans d0
      have HJ : Hid (j < (SigL.mk ps ls r).lent.length) := by have := HLA.out; show _ < ls.length; omega
      generalize hv : iAt ls j = v at g0 d0
      have HVV : Hid (iAt (SigL.mk ps ls r).lent j = v) := hv
      clear d0 hv
      by_cases hr : 0 ≤ v ∧ v < (np : Int)
      case neg =>
        have V : Hid (lentOk ⟨ps, ls, r⟩ = false) := lentOk_neg HJ.out (by
          by_cases hv0 : v < 0
          · exact lentAt_neg (by rw [HVV.out]; exact hv0)
          · exact lentAt_big (by rw [HVV.out]; show (ps.length : Int) ≤ v; have := HLV.out; omega))
        have HD := Lib.hid (decide_eq_false (p := 0 ≤ v ∧ v ≤ (np : Int) - 1) (fun h => hr (by omega)))
        clear hr
        go_wp2_with fail
        go_quiet ((go_at_call 41; exact Calls.quiet_of_same ((specInRange _ _ _ _).mono fun _ _ q => ⟨q.1.trans (by rw [HD.out]), q.2.symm⟩)))
        go_wp2_with fail
        exact fin_ hQ ⟨ret_b V.out.symm, by first | exact hK.drew | exact hK.drewN _⟩
      obtain ⟨k, rfl⟩ : ∃ k : Nat, v = (k : Int) := ⟨v.toNat, by omega⟩
      have hk : k < np := by omega
      obtain ⟨b2, o2, rfl, _, d2⟩ := HV.out.at hk
      have g2 := (hK.cell (World.block_lt_of_cell? w _ d2) (fun h => h)).trans d2
      generalize hx : iAt ps k = x at g2 d2
      have HX := Lib.hid hx
      have HD := Lib.hid (decide_eq_true (p := 0 ≤ (k : Int) ∧ (k : Int) ≤ (np : Int) - 1) (by omega))
      clear hr d2 hx
      by_cases hx0 : x = 0
      · subst hx0
        have V : Hid (lentOk ⟨ps, ls, r⟩ = false) := lentOk_neg HJ.out (lentAt_int (v := k) HVV.out HX.out)
        go_wp2_with fail
        go_quiet ((go_at_call 41; exact Calls.quiet_of_same ((specInRange _ _ _ _).mono fun _ _ q => ⟨q.1.trans (by rw [HD.out]), q.2.symm⟩)))
        go_wp2_with fail
        exact fin_ hQ ⟨ret_b V.out.symm, by first | exact hK.drew | exact hK.drewN _⟩
      have hx0' : (x == 0) = false := by simpa using hx0
      rcases Nat.eq_zero_or_pos j with h0 | h0
      · subst h0
        rw [Nat.add_zero] at g0
        have hI2 : Hid (∀ l, l < 0 + 1 → lentAt ⟨ps, ls, r⟩ l = true) := by
          intro l hl
          obtain rfl : l = 0 := by omega
          exact lentAt_yes (v := k) HVV.out (by show k < ps.length; have := HLV.out; omega) (by rw [show iAt (SigL.mk ps ls r).params k = x from HX.out]; exact hx0) (.inl rfl)
        clear hx0
        go_wp2_with fail
        go_quiet ((go_at_call 41; exact Calls.quiet_of_same ((specInRange _ _ _ _).mono fun _ _ q => ⟨q.1.trans (by rw [HD.out]), q.2.symm⟩)))
        go_wp2_with fail
        go_roundw
        case rel => exact ⟨1, by omega, by go_num, hI2, by first | exact hK.drew | exact hK.drewN _⟩
        case measure => simp [intOf]; omega
      obtain ⟨i, rfl⟩ : ∃ i, j = i + 1 := ⟨j - 1, by omega⟩
      obtain ⟨b', o', e', _, d1⟩ := HA.out.at (i := i) (by omega)
      injection e' with e'
      injection e' with e1 e2
      subst e1 e2
      have g1 := (hK.cell (World.block_lt_of_cell? w _ d1) (fun h => h)).trans d1
      generalize hu : iAt ls i = u at g1 d1
      have HU : Hid (iAt (SigL.mk ps ls r).lent (i + 1 - 1) = u) := hu
      have hp0 : (0 : Int) < (i : Int) + 1 := by omega
      have hi1 : i < nl := by omega
      have hi2 : (i : Int) < (nl : Int) := by omega
      have hw1 : IntKind.i64.wrap (i : Int) = (i : Int) := by rw [IntWalk.i64_in _ (by omega)]
      have HX0 := Lib.hid hx0
      clear d1 hu hx0 h0
      by_cases hle : (k : Int) ≤ u
      · have V : Hid (lentOk ⟨ps, ls, r⟩ = false) := lentOk_neg HJ.out (lentAt_order (by omega) (by rw [HVV.out, HU.out]; exact hle))
        go_wp2_with fail
        go_quiet ((go_at_call 41; exact Calls.quiet_of_same ((specInRange _ _ _ _).mono fun _ _ q => ⟨q.1.trans (by rw [HD.out]), q.2.symm⟩)))
        go_wp2_with fail
        exact fin_ hQ ⟨ret_b V.out.symm, by first | exact hK.drew | exact hK.drewN _⟩
      · have hI2 : Hid (∀ l, l < i + 1 + 1 → lentAt ⟨ps, ls, r⟩ l = true) := by
          intro l hl
          rcases Nat.lt_succ_iff_lt_or_eq.1 hl with h | rfl
          · exact hI.out l h
          · exact lentAt_yes (v := k) HVV.out (by show k < ps.length; have := HLV.out; omega) (by rw [show iAt (SigL.mk ps ls r).params k = x from HX.out]; exact HX0.out) (.inr (by rw [HVV.out, HU.out]; omega))
        go_wp2_with fail
        go_quiet ((go_at_call 41; exact Calls.quiet_of_same ((specInRange _ _ _ _).mono fun _ _ q => ⟨q.1.trans (by rw [HD.out]), q.2.symm⟩)))
        go_wp2_with fail
        go_roundw
        case rel => exact ⟨i + 1 + 1, by omega, by go_num, hI2, by first | exact hK.drew | exact hK.drewN _⟩
        case measure => simp [intOf]; omega
    · have V : Hid (lentOk ⟨ps, ls, r⟩ = true) := nAll.2 (fun l hl => hI.out l (by have := HLA.out; change l < ls.length at hl; omega))
      go_wp2_with fail
      exact fin_ hQ ⟨ret_b V.out.symm, hK⟩
end Go.Proofs.Ytmekdccgjgfiaaa
/- The reference's signatures of normal forms, as a program without bodies. -/
namespace Go.Proofs.Ytmekdccgjgfiaaa
open Go.RowKit

theorem AccR.extO {w w' : World} {base : Nat} {D S : Nat → Prop} {T : TypeId} {s : Nat} {v : Value} {rows : List (List Dat)} (h : AccR w base D T s v rows) (hx : Ext S w w') (hs : ∀ k, k < w.heap.size → D k → ¬ S k) (ho : ∀ k, v.ownBlock = some k → ¬ S k) : AccR w' base D T s v rows := by
  obtain ⟨xs, h1, h2, h5⟩ := h
  refine ⟨xs, ⟨h1.1, ?_⟩, h2, fun i j hi hj => ?_⟩
  · rcases h1.2 with h | ⟨g, cap, cur, e, hb, hg, rest⟩
    · exact .inl h
    · have hlt : g < w.heap.size := (Array.getElem?_eq_some_iff.1 hg).1
      exact .inr ⟨g, cap, cur, e, hb, (hx.block g hlt (ho g (by rw [e]; rfl))).trans hg, rest⟩
  · obtain ⟨u, hu, ho⟩ := h5 i j hi hj
    exact ⟨u, hu, (ho.ext hx (fun k hk => hs k hk.2.2 hk.1)).mono (fun k hk => ⟨hk.1, hk.2.1, Nat.lt_of_lt_of_le hk.2.2 hx.size⟩)⟩
theorem lit_func (w : World) (D : Nat → Prop) (T : TypeId) (f : FuncL) (a : Option Addr) (n c : Nat) (a' : Option Addr) (n' c' : Nat) (hB : D w.heap.size) (h : Rd w D (encInts f.params) (.slice a n c)) (h' : Rd w D (encExprs f.body.kids) (.slice a' n' c')) :
    Rd (w.alloc (.cells #[.slice a n c, .int .i64 f.result, .int .i64 f.body.op, .int .i64 f.body.num, .slice a' n' c'] T)) D (encFuncs [f]) (.slice (some ⟨w.heap.size, 0, none⟩) 1 1) := by
  refine Rd.litD w D T 5 _ ([f].map rowF) 1 hB (by simp) (by omega) (by omega) (by simp) (fun i hi => by rw [funcs_row [f] i (by simpa using hi)]; rfl) (fun i j hi hj => ?_)
  obtain rfl : i = 0 := by simpa using hi
  rcases (show j = 0 ∨ j = 1 ∨ j = 2 ∨ j = 3 ∨ j = 4 by omega) with rfl | rfl | rfl | rfl | rfl
  · exact ⟨_, rfl, h⟩
  · exact ⟨_, rfl, .num f.result⟩
  · exact ⟨_, rfl, .num f.body.op⟩
  · exact ⟨_, rfl, .num f.body.num⟩
  · exact ⟨_, rfl, h'⟩

set_option maxRecDepth 100000 in
set_option maxHeartbeats 1000000 in
theorem specSigsOfN (rs : List RoutL) (a0 : Option Addr) (n0 c0 : Nat) (a1 : Option Addr) (n1 c1 : Nat) (D1 : Nat → Prop) (w : World) (r1 : Rd w D1 (encRouts rs) (.slice a1 n1 c1)) (hn4 : n1 ≤ 4) :
    Calls Try.prog 39 #[.agg #[.slice a0 n0 c0, .slice a1 n1 c1]] w fun e w' => ∃ a' c', e = .returned (.agg #[.slice a0 n0 c0, .slice a' n1 c']) ∧ Rd w' (fun _ => True) (encFuncs (rs.map funcR)) (.slice a' n1 c') ∧ Keep w w' := by
  refine calls_k fun Q hQ => ?_
  obtain ⟨e1, hnc, hm, hat⟩ := routs_at r1
  have HL := Lib.hid e1
  have HA := Lib.hid hat
  have HLM : Hid ((rs.map funcR).length = n1) := by show _ = _; simp [e1]
  have ER : Hid (∀ j, j < n1 → ((rs.map funcR).take (j + 1)).map rowF = ((rs.map funcR).take j).map rowF ++ [funcR (rtAt rs j)].map rowF) := fun j hj => by
    have hj' : j < rs.length := by omega
    rw [List.take_succ_eq_append_getElem (by simpa using hj'), rtAt_get hj']; simp
  clear e1 hat
  go_enter Try.func39, Try.ntmps39
  have W1 : World := w.alloc (.cells #[.slice a0 n0 c0, .slice a1 n1 c1] 36)
  clear W1
  have K0 := (((Keep.al w (.cells #[.slice a0 n0 c0, .slice a1 n1 c1] 36)).trans (Keep.al _ (.cells #[.slice none 0 0, .slice none 0 0] 82))).trans (Keep.al _ (.cells #[] 116))).trans (Keep.al _ (.cells #[.slice a0 n0 c0, .slice (some ⟨w.heap.size + 2, 0, none⟩) 0 0] 82))
  have RN := (((rowOf w #[.slice a0 n0 c0, .slice a1 n1 c1] 36).alloc (.cells #[.slice none 0 0, .slice none 0 0] 82)).alloc (.cells #[] 116)).alloc (.cells #[.slice a0 n0 c0, .slice (some ⟨w.heap.size + 2, 0, none⟩) 0 0] 82)
  have RR := ((rowOf (w.alloc (.cells #[.slice a0 n0 c0, .slice a1 n1 c1] 36)) #[.slice none 0 0, .slice none 0 0] 82).alloc (.cells #[] 116)).alloc (.cells #[.slice a0 n0 c0, .slice (some ⟨w.heap.size + 2, 0, none⟩) 0 0] 82)
  have RP := rowOf (((w.alloc (.cells #[.slice a0 n0 c0, .slice a1 n1 c1] 36)).alloc (.cells #[.slice none 0 0, .slice none 0 0] 82)).alloc (.cells #[] 116)) #[.slice a0 n0 c0, .slice (some ⟨w.heap.size + 2, 0, none⟩) 0 0] 82
  have AM := (AccR.made ((w.alloc (.cells #[.slice a0 n0 c0, .slice a1 n1 c1] 36)).alloc (.cells #[.slice none 0 0, .slice none 0 0] 82)) (fun k => k < w.heap.size ∨ w.heap.size + 4 ≤ k) 116 5).keep (Keep.al _ (.cells #[.slice a0 n0 c0, .slice (some ⟨w.heap.size + 2, 0, none⟩) 0 0] 82))
  simp only [World.size_alloc] at RN RR RP AM
  have HRN := Lib.hid RN
  have HRR := Lib.hid RR
  have HRP := Lib.hid RP
  have HAM := Lib.hid AM
  have HK0 := Lib.hid K0
  have HW4 : Hid (((((w.alloc (.cells #[.slice a0 n0 c0, .slice a1 n1 c1] 36)).alloc (.cells #[.slice none 0 0, .slice none 0 0] 82)).alloc (.cells #[] 116)).alloc (.cells #[.slice a0 n0 c0, .slice (some ⟨w.heap.size + 2, 0, none⟩) 0 0] 82)).heap.size = w.heap.size + 4) := by show _ = _; simp
  clear RN RR RP AM K0
  go_wp2_with fail
  generalize hW : ((((w.alloc (.cells #[.slice a0 n0 c0, .slice a1 n1 c1] 36)).alloc (.cells #[.slice none 0 0, .slice none 0 0] 82)).alloc (.cells #[] 116)).alloc (.cells #[.slice a0 n0 c0, .slice (some ⟨w.heap.size + 2, 0, none⟩) 0 0] 82)) = W at *
  clear hW
  go_loopw [4] (fun iv wr => ∃ (j : Nat) (sv : Value), j ≤ n1 ∧ iv = .int .i64 j ∧ Hid (AccR wr (w.heap.size + 2) (fun k => k < w.heap.size ∨ w.heap.size + 4 ≤ k) 116 5 sv (((rs.map funcR).take j).map rowF)) ∧ Hid (sv.ownBlock ≠ some (w.heap.size + 3)) ∧ Hid (wr.rowIs (w.heap.size + 3) 82 2 (fun i => (#[.slice a0 n0 c0, sv] : Array Value).getD i undef)) ∧ Hid (Ext (fun q => q = w.heap.size + 3 ∨ q = w.heap.size + 2 ∨ w.heap.size + 4 ≤ q) W wr)) (fun iv _ => n1 - (intOf iv).toNat)
  case atStart => exact ⟨0, .slice (some ⟨w.heap.size + 2, 0, none⟩) 0 0, Nat.zero_le _, rfl, (show AccR _ _ _ _ _ _ _ from by simpa using HAM.out), (by show _ ≠ _; simp [Value.ownBlock]), HRP.out, Ext.refl _ _⟩
  case round =>
    obtain ⟨wo, rfl⟩ : ∃ wo : World, wo = wr := ⟨_, rfl⟩
    obtain ⟨j, sv, hj, rfl, hB, hne, hR, hK⟩ := hrel
    have hs : w.heap.size + 4 ≤ wo.heap.size := by have := hK.out.size; have := HW4.out; omega
    have KW := Lib.hid (HK0.out.then_ hK.out (fun q hq h => by omega))
    have rn := row_ext HRN.out hK.out (fun h => by omega)
    have e0 := rn.cell (i := 1) (by simp)
    simp at e0
    by_cases hlt : j < n1
    · obtain ⟨b, o, rfl, hd, a3, n3, c3, a5, n5, c5, a4, n4, c4, d0, d1, d2, d3, d4, r3, r5, r4⟩ := HA.out j hlt
      have hbl := World.block_lt_of_cell? w _ d0
      have g0 := (KW.out.cell (World.block_lt_of_cell? w _ d0) (fun h => h)).trans d0
      have g2 := (KW.out.cell (World.block_lt_of_cell? w _ d2) (fun h => h)).trans d2
      have bnd : Hid (∀ k, sv.ownBlock = some k → w.heap.size + 2 ≤ k ∧ k < wo.drew.heap.size) := hB.out.bound
      have dr : Keep wo wo.drew := (Ext.refl (fun _ => False) wo).drew
      have A := hB.out.keep dr
      have R := row_ext hR.out dr (fun h => h)
      have y17 : wo.drew.cell? ⟨w.heap.size + 1 + 1 + 1, 1, none⟩ = some sv := R.cell (i := 1) (by simp)
      have q3 := (((r3.lt.k KW.out).k dr).mono (D' := fun q => (q < w.heap.size ∨ w.heap.size + 4 ≤ q) ∧ sv.ownBlock ≠ some q) (fun k hk => ⟨.inl hk.2, fun e => by have := (bnd.out k e).1; omega⟩))
      have HLR : Hid ((((rs.map funcR).take j).map rowF).length = j) := by show _ = _; rw [List.length_map, List.length_take, HLM.out]; omega
      have HW0 : Hid (w.heap.size + 4 ≤ wo.drew.heap.size) := hs
      have bndS : Hid (∀ q, sv.ownBlock = some q → q = w.heap.size + 3 ∨ q = w.heap.size + 2 ∨ w.heap.size + 4 ≤ q) := fun q hq => by have := bnd.out q hq; omega
      have kD := Lib.hid (hK.out.trans (Keep.to dr))
      have f0 : wo.drew.cell? ⟨w.heap.size, 1, none⟩ = some (.slice (some ⟨b, o, none⟩) n1 c1) := e0
      have f1 : wo.drew.cell? ⟨b, o + j * 5, none⟩ = some (.slice a3 n3 c3) := g0
      have f2 : wo.drew.cell? ⟨b, o + j * 5 + 2, none⟩ = some (.int .i64 (rtAt rs j).result) := g2
      clear d0 d1 d2 d3 d4 r3 r5 r4 dr hB hR g0 g2 rn hs
      have hs : w.heap.size + 4 ≤ wo.drew.heap.size := HW0.out
      have pc : Ext (fun q => q = w.heap.size + 3 ∨ q = w.heap.size + 2 ∨ w.heap.size + 4 ≤ q) wo.drew wo.drew := Ext.refl _ _
      go_wp2_with fail
      refine wp_region_held_drew (S := fun w' => w'.cell? ⟨w.heap.size, 1, none⟩ = some (.slice (some ⟨b, o, none⟩) n1 c1) ∧ w'.cell? ⟨b, o + j * 5, none⟩ = some (.slice a3 n3 c3) ∧ w'.cell? ⟨b, o + j * 5 + 2, none⟩ = some (.int .i64 (rtAt rs j).result)) (by kernel_rfl) ⟨(pc.cell (World.block_lt_of_cell? _ _ f0) (fun h => by (try dsimp only at h); omega)).trans f0, (pc.cell (World.block_lt_of_cell? _ _ f1) (fun h => by (try dsimp only at h); omega)).trans f1, (pc.cell (World.block_lt_of_cell? _ _ f2) (fun h => by (try dsimp only at h); omega)).trans f2⟩ (fun hHeld => ?_)
      clear e0
      generalize wo.drew = W0 at *
      refine wT 0 hHeld ?_
      try go_frame
      refine wT 2 hHeld ?_
      try go_frame
      refine wT 3 hHeld ?_
      try go_frame
      refine wT 4 hHeld ?_
      try go_frame
      refine wT 5 hHeld ?_
      try go_frame
      refine wT 6 hHeld ?_
      try go_frame
      refine wT 7 hHeld ?_
      try go_frame
      refine wT 8 hHeld ?_
      try go_frame
      refine wT 9 hHeld ?_
      try go_frame
      refine wT 10 hHeld ?_
      try go_frame
      refine wT 11 hHeld ?_
      try go_frame
      refine wT 12 hHeld ?_
      try go_frame
      refine wT 13 hHeld ?_
      try go_frame
      refine wT 14 hHeld ?_
      try go_frame
      refine wpAnyH_ready (rs := [1, 15]) (by kernel_rfl) (by simp) ?_
      refine allReadyH_consL rfl (by rfl) (fun K hK => ?_) (allReadyH_consL rfl (by rfl) (fun K hK => ?_) AllReadyH.nil)
      · go_simp
        refine hK.out _ _ ⟨(pc.cell (World.block_lt_of_cell? _ _ f0) (fun h => by (try dsimp only at h); omega)).trans f0, (pc.cell (World.block_lt_of_cell? _ _ f1) (fun h => by (try dsimp only at h); omega)).trans f1, (pc.cell (World.block_lt_of_cell? _ _ f2) (fun h => by (try dsimp only at h); omega)).trans f2⟩ (fun hHeld => ?_)
        clear hK K
        try go_frame
        refine wO 15 (fun K hK => ?_)
        go_simp
        have X := lit_func W0 (fun q => (q < w.heap.size ∨ w.heap.size + 4 ≤ q) ∧ sv.ownBlock ≠ some q) 116 (funcR (rtAt rs j)) a3 n3 c3 none 0 0 ⟨.inr HW0.out, fun e => by have := bnd.out _ e; omega⟩ q3 (.nil 3 none 0)
        have kk := Keep.al W0 (.cells #[.slice a3 n3 c3, .int .i64 (rtAt rs j).result, .int .i64 0, .int .i64 0, .slice none 0 0] 116)
        replace pc := pc.trans (Keep.to kk)
        replace A := A.keep kk
        replace y17 := (kk.cell (World.block_lt_of_cell? _ _ y17) (fun h => h)).trans y17
        refine hK.out _ _ ⟨(pc.cell (World.block_lt_of_cell? _ _ f0) (fun h => by (try dsimp only at h); omega)).trans f0, (pc.cell (World.block_lt_of_cell? _ _ f1) (fun h => by (try dsimp only at h); omega)).trans f1, (pc.cell (World.block_lt_of_cell? _ _ f2) (fun h => by (try dsimp only at h); omega)).trans f2⟩ (fun hHeld => ?_)
        clear hK K
        try go_frame
        refine wO 16 (fun K hK => ?_)
        have zpc := pc.size
        refine wp_appR _ (.tmp 17) (.tmp 31) 80 rfl (w.heap.size + 2) 116 (.agg #[.slice none 0 0, .int .i64 0, .int .i64 0, .int .i64 0, .slice none 0 0]) 5 72 Try.underlying80 (by kernel_rfl) rfl (by omega) (fun k => k < w.heap.size ∨ w.heap.size + 4 ≤ k) _ _ rfl A _ 1 _ _ _ rfl X (fun q _ hq2 => hq2) (by rw [HLR.out]; omega) (by rw [HLR.out]; omega) (by have := HW0.out; simp; omega) ?_
        rintro v1 w16 A1 x1 hv1
        have x2 : Ext (fun k => sv.ownBlock = some k) (W0.alloc (.cells #[.slice a3 n3 c3, .int .i64 (rtAt rs j).result, .int .i64 0, .int .i64 0, .slice none 0 0] 116)) w16 := x1
        replace pc := pc.trans (x2.mono (fun q _ hq => bndS.out q hq))
        have hne1 : v1.ownBlock ≠ some (w.heap.size + 3) := fun hh => by
          rcases hv1 with e | e
          · have e0 : v1.ownBlock = sv.ownBlock := e
            exact hne.out (by rw [← e0]; exact hh)
          · rw [hh] at e
            have e1 : w.heap.size + 3 = (W0.alloc (.cells #[.slice a3 n3 c3, .int .i64 (rtAt rs j).result, .int .i64 0, .int .i64 0, .slice none 0 0] 116)).heap.size := Option.some.inj e
            rw [World.size_alloc] at e1
            have := HW0.out
            omega
        replace R := row_ext (row_ext R kk (fun h => h)) x2 (fun h => hne.out h)
        obtain ⟨a9, n9, c9, rfl⟩ : ∃ a9 n9 c9, v1 = .slice a9 n9 c9 := by
          obtain ⟨a9, c9, e9, _⟩ := A1.read (by omega)
          exact ⟨a9, _, c9, e9⟩
        have y1 : w16.cell? ⟨w.heap.size + 1 + 1 + 1, 1, none⟩ = some sv := R.cell (i := 1) (by simp)
        have fr1 : w16.frozen? ⟨w.heap.size + 1 + 1 + 1, 1, none⟩ = false := R.frozen 1
        refine hK.out _ _ ⟨(pc.cell (World.block_lt_of_cell? _ _ f0) (fun h => by (try dsimp only at h); omega)).trans f0, (pc.cell (World.block_lt_of_cell? _ _ f1) (fun h => by (try dsimp only at h); omega)).trans f1, (pc.cell (World.block_lt_of_cell? _ _ f2) (fun h => by (try dsimp only at h); omega)).trans f2⟩ (fun hHeld => ?_)
        clear hK K
        try go_frame
        refine wT 17 hHeld ?_
        try go_frame
        refine wO 18 (fun K hK => ?_)
        go_simp
        have hs2 : Ext (fun q => q = w.heap.size + 3) w16 (w16.setCell ⟨w.heap.size + 1 + 1 + 1, 1, none⟩ (.slice a9 n9 c9)) := Ext.setCell (S := fun q => q = w.heap.size + 3) (Ext.refl _ w16) (p := ⟨w.heap.size + 1 + 1 + 1, 1, none⟩) (.inr rfl) _
        replace pc := pc.trans (hs2.mono (fun q _ hq => .inl hq))
        refine hK.out _ _ ⟨(pc.cell (World.block_lt_of_cell? _ _ f0) (fun h => by (try dsimp only at h); omega)).trans f0, (pc.cell (World.block_lt_of_cell? _ _ f1) (fun h => by (try dsimp only at h); omega)).trans f1, (pc.cell (World.block_lt_of_cell? _ _ f2) (fun h => by (try dsimp only at h); omega)).trans f2⟩ (fun hHeld => ?_)
        clear hK K
        try go_frame
        refine wpAnyH_done (by kernel_rfl) ?_ _
        have KE := Lib.hid (kD.out.trans pc)
        have A2 := Lib.hid (A1.extO hs2 (fun k _ hk e => by omega) (fun k hk e => hne1 (by rw [hk, e])))
        have R2 := Lib.hid ((R.set 1 (.slice a9 n9 c9)).congr (g := fun i => (#[.slice a0 n0 c0, .slice a9 n9 c9] : Array Value).getD i undef) (fun i hi => by
          rcases (show i = 0 ∨ i = 1 by omega) with rfl | rfl <;> rfl))
        clear pc A1 R x2 x1 hs2
        go_wp2_with fail
        go_roundw
        case rel => exact ⟨j + 1, _, by omega, by go_num, by show AccR _ _ _ _ _ _ _; rw [ER.out j hlt]; exact A2.out, hne1, R2.out, KE.out⟩
        case measure => simp [intOf]; omega
      · go_simp
        have X := lit_func W0 (fun q => (q < w.heap.size ∨ w.heap.size + 4 ≤ q) ∧ sv.ownBlock ≠ some q) 116 (funcR (rtAt rs j)) a3 n3 c3 none 0 0 ⟨.inr HW0.out, fun e => by have := bnd.out _ e; omega⟩ q3 (.nil 3 none 0)
        have kk := Keep.al W0 (.cells #[.slice a3 n3 c3, .int .i64 (rtAt rs j).result, .int .i64 0, .int .i64 0, .slice none 0 0] 116)
        replace pc := pc.trans (Keep.to kk)
        replace A := A.keep kk
        replace y17 := (kk.cell (World.block_lt_of_cell? _ _ y17) (fun h => h)).trans y17
        refine hK.out _ _ ⟨(pc.cell (World.block_lt_of_cell? _ _ f0) (fun h => by (try dsimp only at h); omega)).trans f0, (pc.cell (World.block_lt_of_cell? _ _ f1) (fun h => by (try dsimp only at h); omega)).trans f1, (pc.cell (World.block_lt_of_cell? _ _ f2) (fun h => by (try dsimp only at h); omega)).trans f2⟩ (fun hHeld => ?_)
        clear hK K
        try go_frame
        refine wO 1 (fun K hK => ?_)
        go_simp
        refine hK.out _ _ ⟨(pc.cell (World.block_lt_of_cell? _ _ f0) (fun h => by (try dsimp only at h); omega)).trans f0, (pc.cell (World.block_lt_of_cell? _ _ f1) (fun h => by (try dsimp only at h); omega)).trans f1, (pc.cell (World.block_lt_of_cell? _ _ f2) (fun h => by (try dsimp only at h); omega)).trans f2⟩ (fun hHeld => ?_)
        clear hK K
        try go_frame
        refine wO 16 (fun K hK => ?_)
        have zpc := pc.size
        refine wp_appR _ (.tmp 17) (.tmp 31) 80 rfl (w.heap.size + 2) 116 (.agg #[.slice none 0 0, .int .i64 0, .int .i64 0, .int .i64 0, .slice none 0 0]) 5 72 Try.underlying80 (by kernel_rfl) rfl (by omega) (fun k => k < w.heap.size ∨ w.heap.size + 4 ≤ k) _ _ rfl A _ 1 _ _ _ rfl X (fun q _ hq2 => hq2) (by rw [HLR.out]; omega) (by rw [HLR.out]; omega) (by have := HW0.out; simp; omega) ?_
        rintro v1 w16 A1 x1 hv1
        have x2 : Ext (fun k => sv.ownBlock = some k) (W0.alloc (.cells #[.slice a3 n3 c3, .int .i64 (rtAt rs j).result, .int .i64 0, .int .i64 0, .slice none 0 0] 116)) w16 := x1
        replace pc := pc.trans (x2.mono (fun q _ hq => bndS.out q hq))
        have hne1 : v1.ownBlock ≠ some (w.heap.size + 3) := fun hh => by
          rcases hv1 with e | e
          · have e0 : v1.ownBlock = sv.ownBlock := e
            exact hne.out (by rw [← e0]; exact hh)
          · rw [hh] at e
            have e1 : w.heap.size + 3 = (W0.alloc (.cells #[.slice a3 n3 c3, .int .i64 (rtAt rs j).result, .int .i64 0, .int .i64 0, .slice none 0 0] 116)).heap.size := Option.some.inj e
            rw [World.size_alloc] at e1
            have := HW0.out
            omega
        replace R := row_ext (row_ext R kk (fun h => h)) x2 (fun h => hne.out h)
        obtain ⟨a9, n9, c9, rfl⟩ : ∃ a9 n9 c9, v1 = .slice a9 n9 c9 := by
          obtain ⟨a9, c9, e9, _⟩ := A1.read (by omega)
          exact ⟨a9, _, c9, e9⟩
        have y1 : w16.cell? ⟨w.heap.size + 1 + 1 + 1, 1, none⟩ = some sv := R.cell (i := 1) (by simp)
        have fr1 : w16.frozen? ⟨w.heap.size + 1 + 1 + 1, 1, none⟩ = false := R.frozen 1
        refine hK.out _ _ ⟨(pc.cell (World.block_lt_of_cell? _ _ f0) (fun h => by (try dsimp only at h); omega)).trans f0, (pc.cell (World.block_lt_of_cell? _ _ f1) (fun h => by (try dsimp only at h); omega)).trans f1, (pc.cell (World.block_lt_of_cell? _ _ f2) (fun h => by (try dsimp only at h); omega)).trans f2⟩ (fun hHeld => ?_)
        clear hK K
        try go_frame
        refine wT 17 hHeld ?_
        try go_frame
        refine wO 18 (fun K hK => ?_)
        go_simp
        have hs2 : Ext (fun q => q = w.heap.size + 3) w16 (w16.setCell ⟨w.heap.size + 1 + 1 + 1, 1, none⟩ (.slice a9 n9 c9)) := Ext.setCell (S := fun q => q = w.heap.size + 3) (Ext.refl _ w16) (p := ⟨w.heap.size + 1 + 1 + 1, 1, none⟩) (.inr rfl) _
        replace pc := pc.trans (hs2.mono (fun q _ hq => .inl hq))
        refine hK.out _ _ ⟨(pc.cell (World.block_lt_of_cell? _ _ f0) (fun h => by (try dsimp only at h); omega)).trans f0, (pc.cell (World.block_lt_of_cell? _ _ f1) (fun h => by (try dsimp only at h); omega)).trans f1, (pc.cell (World.block_lt_of_cell? _ _ f2) (fun h => by (try dsimp only at h); omega)).trans f2⟩ (fun hHeld => ?_)
        clear hK K
        try go_frame
        refine wpAnyH_done (by kernel_rfl) ?_ _
        have KE := Lib.hid (kD.out.trans pc)
        have A2 := Lib.hid (A1.extO hs2 (fun k _ hk e => by omega) (fun k hk e => hne1 (by rw [hk, e])))
        have R2 := Lib.hid ((R.set 1 (.slice a9 n9 c9)).congr (g := fun i => (#[.slice a0 n0 c0, .slice a9 n9 c9] : Array Value).getD i undef) (fun i hi => by
          rcases (show i = 0 ∨ i = 1 by omega) with rfl | rfl <;> rfl))
        clear pc A1 R x2 x1 hs2
        go_wp2_with fail
        go_roundw
        case rel => exact ⟨j + 1, _, by omega, by go_num, by show AccR _ _ _ _ _ _ _; rw [ER.out j hlt]; exact A2.out, hne1, R2.out, KE.out⟩
        case measure => simp [intOf]; omega

    · have HJ : Hid (j = n1) := by show _ = _; omega
      have hB2 := hB.out
      rw [List.take_of_length_le (by have := HLM.out; have := HJ.out; omega)] at hB2
      obtain ⟨a', c', e, _, _, rd⟩ := hB2.read (by omega)
      rw [List.length_map, HLM.out] at e
      subst e
      have RD := Lib.hid rd
      have y0 : wo.cell? ⟨w.heap.size + 1 + 1 + 1, 0, none⟩ = some (.slice a0 n0 c0) := hR.out.cell (i := 0) (by omega)
      have y1 : wo.cell? ⟨w.heap.size + 1 + 1 + 1, 1, none⟩ = some (.slice a' n1 c') := hR.out.cell (i := 1) (by omega)
      have rr := row_ext HRR.out hK.out (fun h => by omega)
      have z0 := rr.cell (i := 0) (by simp)
      have z1 := rr.cell (i := 1) (by simp)
      simp at z0 z1
      have fr : ∀ i, wo.frozen? ⟨w.heap.size + 1, i, none⟩ = false := rr.frozen
      have fr0 := fr 0
      have fr1 := fr 1
      clear hB hB2 rd rr fr
      go_wp2_with fail
      have sx : Ext (fun q => q = w.heap.size + 1) wo ((wo.setCell ⟨w.heap.size + 1, 0, none⟩ (.slice a0 n0 c0)).setCell ⟨w.heap.size + 1, 1, none⟩ (.slice a' n1 c')) := Ext.setCell (S := fun q => q = w.heap.size + 1) (Ext.setCell (S := fun q => q = w.heap.size + 1) (Ext.refl _ wo) (p := ⟨w.heap.size + 1, 0, none⟩) (.inr rfl) _) (p := ⟨w.heap.size + 1, 1, none⟩) (.inr rfl) _
      refine bodyPost_ret (v := .agg #[.slice a0 n0 c0, .slice a' n1 c']) (by simp [results, Try.results39, go_sem, z0, z1]) rfl (fin_ hQ ⟨a', c', rfl, (RD.out.ext sx (fun k hk => by omega)).t, KW.out.then_ sx (fun q hq h => by omega)⟩)
end Go.Proofs.Ytmekdccgjgfiaaa
/- The reference's validity of the signatures of normal forms. -/
namespace Go.Proofs.Ytmekdccgjgfiaaa
open Go.RowKit

set_option maxRecDepth 100000 in
set_option maxHeartbeats 2000000 in
theorem specValidNormalSigs (ds : List DeclL) (rs : List RoutL) (a0 : Option Addr) (n0 c0 : Nat) (a1 : Option Addr) (n1 c1 : Nat) (D0 D1 : Nat → Prop) (w : World) (r0 : Rd w D0 (encDecls ds) (.slice a0 n0 c0)) (r1 : Rd w D1 (encRouts rs) (.slice a1 n1 c1)) :
    Calls Try.prog 20 #[.agg #[.slice a0 n0 c0, .slice a1 n1 c1]] w fun e w' => e = .returned (.bool (sigsOk ds (rs.map sigR))) ∧ Keep w w' := by
  refine calls_k fun Q hQ => ?_
  have K0 := Keep.al w (.cells #[.slice a0 n0 c0, .slice a1 n1 c1] 36)
  have R0 := rowOf w #[.slice a0 n0 c0, .slice a1 n1 c1] 36
  obtain ⟨e1, hnc, hm, hat⟩ := routs_at r1
  have HL := Lib.hid e1
  have HA := Lib.hid hat
  have HR0 := Lib.hid R0
  clear e1 hat R0
  by_cases hl4 : n1 ≤ 4
  case neg =>
    have V : Hid (sigsOk ds (rs.map sigR) = false) := sigsOk_len (by rw [List.length_map]; have := HL.out; omega)
    go_enter Try.func20, Try.ntmps20
    go_wp2_with fail
    exact fin_ hQ ⟨ret_b V.out.symm, K0⟩
  go_enter Try.func20, Try.ntmps20
  go_wp2_with fail
  refine (specSigsOfN rs _ _ _ _ _ _ _ _ (r1.k K0) hl4).mono ?_
  rintro e w1 ⟨a', c', rfl, r2, p1⟩
  have R2 := Lib.hid r2
  have P1 := Lib.hid p1
  clear r2 p1
  cases hs : sigsOk ds ((rs.map funcR).map sigF)
  · have HS := Lib.hid hs
    have V : Hid (sigsOk ds (rs.map sigR) = false) := sigs_funcR_no hs
    clear hs
    go_wp2_with fail
    refine (specValidSigs0 ds (rs.map funcR) _ _ _ _ _ _ _ _ _ (r0.k (K0.trans P1.out)) R2.out).mono ?_
    rw [HS.out]
    rintro e w2 ⟨rfl, p2⟩
    go_wp2_with fail
    exact fin_ hQ ⟨ret_b V.out.symm, (K0.trans P1.out).trans p2⟩
  have HS := Lib.hid hs
  clear hs
  go_wp2_with fail
  refine (specValidSigs0 ds (rs.map funcR) _ _ _ _ _ _ _ _ _ (r0.k (K0.trans P1.out)) R2.out).mono ?_
  rw [HS.out]
  rintro e w2 ⟨rfl, p2⟩
  have K2 := Lib.hid (P1.out.trans p2)
  clear p2
  go_wp2_with fail
  go_loopw [3] (fun iv wr => ∃ j : Nat, j ≤ n1 ∧ iv = .int .i64 j ∧ Hid (∀ l, l < j → lentOk (sigR (rtAt rs l)) = true) ∧ Hid (Keep (w.alloc (.cells #[.slice a0 n0 c0, .slice a1 n1 c1] 36)) wr)) (fun iv _ => n1 - (intOf iv).toNat)
  case atStart => exact ⟨0, Nat.zero_le _, rfl, fun l hl => absurd hl (by omega), K2.out⟩
  case round =>
    obtain ⟨wo, rfl⟩ : ∃ wo : World, wo = wr := ⟨_, rfl⟩
    obtain ⟨j, hj, rfl, hI, hK⟩ := hrel
    have KW := Lib.hid (K0.trans hK.out)
    have e0 := (row_ext HR0.out hK.out (fun h => h)).cell (i := 1) (by simp)
    simp at e0
    by_cases hlt : j < n1
    · obtain ⟨b, o, rfl, hd, a3, n3, c3, a5, n5, c5, a4, n4, c4, d0, d1, d2, d3, d4, r3, r5, r4⟩ := HA.out j hlt
      have g0 := (KW.out.cell (World.block_lt_of_cell? w _ d0) (fun h => h)).trans d0
      have g1 := (KW.out.cell (World.block_lt_of_cell? w _ d1) (fun h => h)).trans d1
      have q3 := (r3.k KW.out).kd
      have q5 := (r5.k KW.out).kd
      have HJ : Hid (j < rs.length) := by have := HL.out; show _ < _; omega
      have hn3 : n3 ≤ 9223372036854775807 := (ints_at r3).2.2.1
      have hn5 : n5 ≤ 9223372036854775807 := (ints_at r5).2.2.1
      have pc := Ext.refl0 wo
      clear d0 d1 d2 d3 d4 r3 r5 r4
      cases hv : lentOk (sigR (rtAt rs j))
      · have HV := Lib.hid hv
        have V : Hid (sigsOk ds (rs.map sigR) = false) := sigs_lent_no HJ.out hv
        clear hv
        go_wp2_with fail
        go_region_held3 (fun w' => w'.cell? ⟨w.heap.size, 1, none⟩ = some (.slice (some ⟨b, o, none⟩) n1 c1) ∧ w'.cell? ⟨b, o + j * 5, none⟩ = some (.slice a3 n3 c3) ∧ w'.cell? ⟨b, o + j * 5 + 1, none⟩ = some (.slice a5 n5 c5))
          (first | exact ⟨Keep.at pc e0, Keep.at pc g0, Keep.at pc g1⟩ | go_keep)
          ((go_at_call 40; refine (specValidLent _ _ _ _ _ _ _ _ (rtAt rs j).result _ _ _ (q3.k pc).toInts (q5.k pc).toInts hn3 hn5).mono ?_; rw [show lentOk ⟨(rtAt rs j).params, (rtAt rs j).lent, (rtAt rs j).result⟩ = false from HV.out]; rintro e w3 ⟨rfl, p3⟩; replace pc := pc.trans p3))
        have KE := Lib.hid (KW.out.trans (Keep.dt pc))
        go_wp2_with fail
        exact fin_ hQ ⟨ret_b V.out.symm, KE.out⟩
      · have HV := Lib.hid hv
        have hI2 : Hid (∀ l, l < j + 1 → lentOk (sigR (rtAt rs l)) = true) := by
          intro l hl
          rcases Nat.lt_succ_iff_lt_or_eq.1 hl with h | rfl
          · exact hI.out l h
          · exact hv
        clear hv
        go_wp2_with fail
        go_region_held3 (fun w' => w'.cell? ⟨w.heap.size, 1, none⟩ = some (.slice (some ⟨b, o, none⟩) n1 c1) ∧ w'.cell? ⟨b, o + j * 5, none⟩ = some (.slice a3 n3 c3) ∧ w'.cell? ⟨b, o + j * 5 + 1, none⟩ = some (.slice a5 n5 c5))
          (first | exact ⟨Keep.at pc e0, Keep.at pc g0, Keep.at pc g1⟩ | go_keep)
          ((go_at_call 40; refine (specValidLent _ _ _ _ _ _ _ _ (rtAt rs j).result _ _ _ (q3.k pc).toInts (q5.k pc).toInts hn3 hn5).mono ?_; rw [show lentOk ⟨(rtAt rs j).params, (rtAt rs j).lent, (rtAt rs j).result⟩ = true from HV.out]; rintro e w3 ⟨rfl, p3⟩; replace pc := pc.trans p3))
        have KE := Lib.hid (hK.out.trans (Keep.dt pc))
        clear pc q3 q5
        go_wp2_with fail
        go_roundw
        case rel => exact ⟨j + 1, by omega, by go_num, hI2, KE.out⟩
        case measure => simp [intOf]; omega
    · have V : Hid (sigsOk ds (rs.map sigR) = true) := sigs_yes HS.out (fun l hl => hI.out l (by have := HL.out; omega))
      go_wp2_with fail
      exact fin_ hQ ⟨ret_b V.out.symm, KW.out⟩
end Go.Proofs.Ytmekdccgjgfiaaa
