/- insert of the reference. -/
import Derived.Test.YtkapldpmjkdmcaaGreatRAZ
import Derived.Test.YtkapldpmjkdmcaaGreatRAD
import Derived.Test.YtkapldpmjkdmcaaGreatRAC
import Derived.Test.YtkapldpmjkdmcaaGreatRBE
import Derived.Test.YtkapldpmjkdmcaaGreatRAF
import Derived.Test.YtkapldpmjkdmcaaGreatRAM
import Derived.Laws.CopyRow
namespace Go.Proofs.YtkapldpmjkdmcaaGreat
open Go.RowKit

theorem OwnInts.toOwn {w : World} {D : Nat → Prop} {a : Option Addr} {n c : Nat} {xs : List Int} (h : OwnInts w D a n xs) (hc : n ≤ c) (hm : n ≤ 9223372036854775807) : Own w D (encInts xs) (.slice a n c) := by
  obtain ⟨h1, h2⟩ := h
  subst h1
  rcases Nat.eq_zero_or_pos xs.length with h0 | h0
  · have : xs = [] := List.eq_nil_of_length_eq_zero h0
    subst this
    exact .nil _ 1 a c
  · obtain ⟨b, N, f, rfl, hd, hN, hr, hcell⟩ := h2 h0
    have q := Own.arr (w := w) D (fun _ _ _ => False) 1 (xs.map rowI) b c 3 N f hd (by simpa using h0) (by omega) (by simpa using hc) (by simpa using hm)
      (fun i hi => by rw [ints_row xs i (by simpa using hi)]; rfl) (by simpa using hN) hr (fun _ _ _ _ _ h => h.elim) (fun _ _ _ _ _ _ _ _ _ h => h.elim) (fun i j hi hj => by
        obtain rfl : j = 0 := by omega
        rw [Nat.mul_one, Nat.add_zero, rAt, ints_row xs i (by simpa using hi), hcell i (by simpa using hi)]
        exact .num _ _)
    rw [ints_len] at q
    exact q

end Go.Proofs.YtkapldpmjkdmcaaGreat
/- calleesIn of the reference: all nodes are visited, numbers are inserted. -/
namespace Go.Proofs.YtkapldpmjkdmcaaGreat
open Go.RowKit

end Go.Proofs.YtkapldpmjkdmcaaGreat
/- Marks: the indices of what is marked. -/
namespace Go.Proofs.YtkapldpmjkdmcaaGreat
open Go.RowKit

set_option maxHeartbeats 2000000 in
theorem implIndicesOf (g n c : Nat) (bs : List Bool) (w : World) (h : w.rowIs g 4 n (fun i => .bool (bAtL bs i))) (hl : bs.length = n) (hn : n ≤ 1000) :
    Calls Tryz.prog 59 #[.slice (some ⟨g, 0, none⟩) n c] w fun e w' => ∃ a' n' c', e = .returned (.slice a' n' c') ∧ n' ≤ c' ∧ OwnInts w' (fun q => w.heap.size ≤ q) a' n' (idxL bs) ∧ Keep w w' := by
  refine calls_k fun Q hQ => ?_
  have HR := Lib.hid h
  have HL := Lib.hid hl
  clear h hl
  go_enter Tryz.func59, Tryz.ntmps59
  go_wp2_with fail
  go_loopw [3, 8] (fun v i wr => ∃ (j : Nat) (out : List Int), j ≤ n ∧ i = .int .i64 j ∧ Hid (out = idxL (bs.take j)) ∧ out.length ≤ j ∧ Hid (wr.ownsRow w.heap.size 3 1 v out.length (out.map (Value.int .i64))) ∧ Keep w wr) (fun _ i _ => n - (intOf i).toNat)
  case atStart => exact ⟨0, [], Nat.zero_le _, rfl, rfl, Nat.le_refl _, World.ownsRow_nil _ _ _ _, Ext.refl _ _⟩
  case round =>
    obtain ⟨j, out, hj, rfl, hO, hol, hown, hK⟩ := hrel
    have hbs : w.heap.size ≤ wr.heap.size := hK.size
    by_cases hlt : j < n
    · have x0 := (row_ext HR.out hK (fun h => h)).cell hlt
      have HJ : Hid (j < bs.length) := by have := HL.out; show _ < _; omega
      cases hb : bAtL bs j
      · have HS : Hid (out = idxL (bs.take (j + 1))) := by show _ = _; rw [idxL_take HJ.out, hb, hO.out]; simp
        rw [hb] at x0
        clear hb
        go_wp2_with fail
        go_roundw
        case rel => exact ⟨j + 1, out, by omega, by go_num, HS, by omega, hown, hK⟩
        case measure => simp [intOf]; omega
      · have HS : Hid (out ++ [(j : Int)] = idxL (bs.take (j + 1))) := by show _ = _; rw [idxL_take HJ.out, hb, hO.out]; simp
        rw [hb] at x0
        clear hb
        go_wp2_with (at_builtin; refine wpList_appInt _ rfl (.tmp 14) (.tmp 16) rfl w.heap.size u3 out.length out rfl (hown.out.alloc _) wr.heap.size 1 (j : Int) rfl (by simp [go_sem]) (by omega) (by simp; omega) ?_; intro v' w' ho hg)
        go_roundw
        case rel => exact ⟨j + 1, out ++ [(j : Int)], by omega, by go_num, HS, by simp; omega, by rw [List.length_append]; exact ho, (hK.alloc _).grown hg (fun g hg' => .inl (hown.out.lt g hg').1)⟩
        case measure => simp [intOf]; omega
    · have HJ : Hid (bs.length ≤ j) := by have := HL.out; show _ ≤ _; omega
      go_wp2
      obtain ⟨a2, cc, rfl, hle, hoi⟩ := own_of_row hown.out
      exact fin_ hQ ⟨a2, _, cc, rfl, hle, by have e := hO.out; rw [List.take_of_length_le HJ.out] at e; subst e; exact hoi, hK⟩

end Go.Proofs.YtkapldpmjkdmcaaGreat
/- Marks: the indices of what is marked; and the functions that a body names, by the program. -/
namespace Go.Proofs.YtkapldpmjkdmcaaGreat
open Go.RowKit

end Go.Proofs.YtkapldpmjkdmcaaGreat
/- Mentions of a variable, counted by the reference and by the program. -/
namespace Go.Proofs.YtkapldpmjkdmcaaGreat
open Go.RowKit

def one (b : Prop) [Decidable b] : Nat := if b then 1 else 0
theorem mE_mk (v op num : Int) (es : List ExprL) : mE v (.mk op num es) = (if op = 12 ∧ num = v then 1 else 0) + mEs v es := rfl

set_option maxHeartbeats 2000000 in
theorem specMentions_n (x : Int) (N : Nat) : ∀ (op num : Int) (es : List ExprL), nEs es < N → ∀ (a : Option Addr) (n c : Nat) (D : Nat → Prop) (w : World), Rd w D (encExprs es) (.slice a n c) → nEs es + 1 ≤ 30 →
    Calls Tryz.prog 61 #[.agg #[.int .i64 op, .int .i64 num, .slice a n c], .int .i64 x] w fun e w' => e = .returned (.int .i64 (mE x (.mk op num es) : Int)) ∧ Keep w w' := by
  induction N with
  | zero => intro _ _ es h; omega
  | succ N ihN =>
  intro op num es hN a n c D w h hk
  refine calls_k fun Q hQ => ?_
  obtain ⟨e1, hnc, hm, hat⟩ := exprs_at h
  have HL := Lib.hid e1
  have HA := Lib.hid hat
  have IH := Lib.hid (fun (j : Nat) (hj : j < es.length) => ihN (eAt es j).op (eAt es j).num (eAt es j).kids (by have := nE_le es hj; have := nE_eq (eAt es j); omega))
  clear e1 hat ihN hN
  have K0 := Keep.al w (.cells #[.int .i64 op, .int .i64 num, .slice a n c] 58)
  obtain ⟨m0, hm0, hm1, hmv⟩ : ∃ m0 : Nat, m0 ≤ 1 ∧ (mE x (.mk op num es) = m0 + mEs x es) ∧ (m0 = if op = 12 ∧ num = x then 1 else 0) := ⟨_, by split <;> omega, mE_mk x op num es, rfl⟩
  have HM := Lib.hid hm1
  have hme := mEs_le x es
  clear hm1
  have main : ∀ b0 : Bool, ((op == 12) = b0) → ∀ b1 : Bool, ((num == x) = b1) → Calls Tryz.prog 61 #[.agg #[.int .i64 op, .int .i64 num, .slice a n c], .int .i64 x] w Q := by
    intro b0 hb0 b1 hb1
    have HMV : Hid (m0 = if b0 && b1 then 1 else 0) := by
      show _ = _
      rw [hmv, ← hb0, ← hb1]
      by_cases q0 : op = 12 <;> by_cases q1 : num = x <;> simp [q0, q1]
    clear hmv
    cases b0 <;> cases b1
    all_goals
      go_enter Tryz.func61, Tryz.ntmps61
      go_wp2
      go_loopw [5, 6] (fun nv iv wr => ∃ j : Nat, j ≤ n ∧ iv = .int .i64 j ∧ nv = .int .i64 ((m0 : Int) + (mEs x (es.take j) : Int)) ∧ Keep (w.alloc (.cells #[.int .i64 op, .int .i64 num, .slice a n c] 58)) wr) (fun _ i _ => n - (intOf i).toNat)
      case atStart => exact ⟨0, Nat.zero_le _, rfl, by have hm2 := HMV.out; simp at hm2; rw [hm2]; simp [mEs], Ext.refl _ _⟩
      case round =>
        obtain ⟨j, hj, rfl, rfl, hK⟩ := hrel
        have x2 := boxk hK 2
        simp at x2
        by_cases hlt : j < n
        · have hst := mEs_take x es (j := j) (by have := HL.out; omega)
          have hnl := nE_le es (j := j) (by have := HL.out; omega)
          have hee := nE_eq (eAt es j)
          have htl := mEs_take_le x es j
          have htl2 := mEs_take_le x es (j + 1)
          obtain ⟨b, o, rfl, hd, a2, n2, c2, d0, d1, d2, r2⟩ := HA.out j hlt
          have hKw := K0.trans hK
          have g0 := (hKw.cell (World.block_lt_of_cell? w _ d0) (fun h => h)).trans d0
          have g1 := (hKw.cell (World.block_lt_of_cell? w _ d1) (fun h => h)).trans d1
          have g2 := (hKw.cell (World.block_lt_of_cell? w _ d2) (fun h => h)).trans d2
          have q2 := r2.k hKw
          have hmk : mE x (eAt es j) = mE x (.mk (eAt es j).op (eAt es j).num (eAt es j).kids) := by cases eAt es j; rfl
          rw [hmk] at hst
          generalize hmj : mE x (.mk (eAt es j).op (eAt es j).num (eAt es j).kids) = mj at hst
          have HJM := Lib.hid hmj
          have HS := Lib.hid hst
          have bj : mj ≤ 30 := by omega
          have hkk : nEs (eAt es j).kids + 1 ≤ 30 := by omega
          clear d0 d1 d2 r2 hst hee hmk hmj hnl
          go_wp2_with fail
          refine (IH.out j (by have := HL.out; omega) _ _ _ _ _ q2 hkk).mono ?_
          rw [HJM.out]
          rintro e w1 ⟨rfl, p1⟩
          go_wp2_with fail
          go_roundw
          case rel => exact ⟨j + 1, by omega, by go_num, by rw [HS.out]; congr 1; omega, hK.trans p1⟩
          case measure => simp [intOf]; omega
        · have HJ : Hid (j = n) := by show _ = _; omega
          go_wp2
          exact fin_ hQ ⟨ret_i (by rw [HM.out, HJ.out, List.take_of_length_le (Nat.le_of_eq HL.out)]; omega), K0.trans hK⟩
  exact main _ rfl _ rfl

/-- The number of mentions; -1 if there are too many nodes. -/
def mentL (x op num : Int) (es : List ExprL) : Int := if nEs es + 1 ≤ 30 then (mE x (.mk op num es) : Int) else -1
theorem mentL_yes {x op num : Int} {es : List ExprL} (h : nEs es + 1 ≤ 30) : mentL x op num es = (mE x (.mk op num es) : Int) := if_pos h
theorem mentL_no {x op num : Int} {es : List ExprL} (h : ¬ nEs es + 1 ≤ 30) : mentL x op num es = -1 := if_neg h


def mvis (x : Int) (op num : Int) (s : Nat) : Nat := if op = 12 ∧ num = x then s + 1 else s
theorem mvis_eq (x op num : Int) (s : Nat) : mvis x op num s = s + if op = 12 ∧ num = x then 1 else 0 := by unfold mvis; split <;> rfl
mutual
theorem mvisE (x : Int) : ∀ (e : ExprL) (s : Nat), visE (mvis x) e s = s + mE x e
  | .mk op num ks, s => by rw [visE, mvisEs x ks, mvis_eq, mE]; omega
theorem mvisEs (x : Int) : ∀ (es : List ExprL) (s : Nat), visEs (mvis x) es s = s + mEs x es
  | [], s => rfl
  | k :: ks, s => by rw [visEs, mvisE x k, mvisEs x ks, mEs]; omega
end

/-- What the visits of MentionsOf keep: block p holds the variable, block q the number. -/
def MInv (x : Int) (p q : Nat) (k : Nat) (s : Nat) (w : World) : Prop := w.rowIs p 3 1 (fun _ => .int .i64 x) ∧ w.rowIs q 3 1 (fun _ => .int .i64 (s : Int)) ∧ p ≠ q ∧ s ≤ k

theorem mentClos (x : Int) (p q k s : Nat) (op num : Int) (a : Option Addr) (n c : Nat) (w : World) (hk : k < 30) (h : MInv x p q k s w) :
    Calls Tryz.prog 113 #[.agg #[.int .i64 op, .int .i64 num, .slice a n c], .pointer (some ⟨p, 0, none⟩), .pointer (some ⟨q, 0, none⟩)] w fun e w' => e = .returned (.tuple #[]) ∧ MInv x p q (k + 1) (mvis x op num s) w' ∧ Ext (· = q) w w' := by
  refine calls_k fun Q hQ => ?_
  obtain ⟨hp, hq, hpq, hs⟩ := h
  have vp := hp.cell (i := 0) (by omega)
  have vq := hq.cell (i := 0) (by omega)
  have fq := hq.frozen 0
  have lp := hp.lt
  have lq := hq.lt
  have HP := Lib.hid hp
  have HQ := Lib.hid hq
  clear hp hq
  have main : ∀ b0 : Bool, ((op == 12) = b0) → ∀ b1 : Bool, ((num == x) = b1) → Calls Tryz.prog 113 #[.agg #[.int .i64 op, .int .i64 num, .slice a n c], .pointer (some ⟨p, 0, none⟩), .pointer (some ⟨q, 0, none⟩)] w Q := by
    intro b0 hb0 b1 hb1
    have HV : Hid (mvis x op num s = if b0 && b1 then s + 1 else s) := by
      show _ = _
      rw [mvis, ← hb0, ← hb1]
      by_cases q0 : op = 12 <;> by_cases q1 : num = x <;> simp [q0, q1]
    cases b0 <;> cases b1
    case true.true =>
      go_enter Tryz.func113, Tryz.ntmps113
      go_wp2
      refine bodyPost_end (v := .tuple #[]) (by simp [results, Tryz.results113, go_sem]) rfl (fin_ hQ ⟨rfl, ⟨?_, ?_, hpq, ?_⟩, ((Ext.refl (· = q) w).setCell (p := ⟨q, 0, none⟩) (.inr rfl) _).alloc _⟩)
      · exact (HP.out.setOther (a := ⟨q, 0, none⟩) hpq _).alloc _
      · refine ((HQ.out.set 0 _).alloc _).congr (fun i hi => ?_)
        rw [if_pos (by omega), HV.out]
        simp
      · rw [HV.out]; simp; omega
    all_goals
      go_enter Tryz.func113, Tryz.ntmps113
      go_wp2
      refine bodyPost_end (v := .tuple #[]) (by simp [results, Tryz.results113, go_sem]) rfl (fin_ hQ ⟨rfl, ⟨?_, ?_, hpq, ?_⟩, Keep.to (Keep.al _ _)⟩)
      · exact HP.out.alloc _
      · rw [HV.out]; exact HQ.out.alloc _
      · rw [HV.out]; simp; omega
  exact main _ rfl _ rfl

theorem MInv.keep {x : Int} {p q k s : Nat} {w w' : World} (h : MInv x p q k s w) (hk : Keep w w') : MInv x p q k s w' := ⟨row_ext h.1 hk (fun h => h), row_ext h.2.1 hk (fun h => h), h.2.2⟩

set_option maxHeartbeats 1000000 in
theorem implMentionsOf (x op num : Int) (es : List ExprL) (a : Option Addr) (n c : Nat) (D : Nat → Prop) (w : World) (h : Rd w D (encExprs es) (.slice a n c)) :
    Calls Tryz.prog 58 #[.agg #[.int .i64 op, .int .i64 num, .slice a n c], .int .i64 x] w fun e w' => e = .returned (.int .i64 (mentL x op num es)) ∧ Keep w w' := by
  refine calls_k fun Q hQ => ?_
  have K0 := (Keep.al w (.cells #[.int .i64 op, .int .i64 num, .slice a n c] 58)).trans (Keep.al _ (.cells #[.int .i64 x] 3))
  by_cases hl : nEs es + 1 ≤ 30
  · have V := Lib.hid (nodesL_yes hl)
    have V2 := Lib.hid (mentL_yes (x := x) (op := op) (num := num) hl)
    generalize hm : nEs es + 1 = m at V
    clear hm
    have R0 := (rowOf w #[.int .i64 op, .int .i64 num, .slice a n c] 58).alloc (.cells #[.int .i64 x] 3)
    have R1 := rowOf (w.alloc (.cells #[.int .i64 op, .int .i64 num, .slice a n c] 58)) #[.int .i64 x] 3
    simp only [World.size_alloc] at R1
    go_enter Tryz.func58, Tryz.ntmps58
    go_wp2_with fail
    refine (implNodesOf _ _ _ _ _ _ _ _ (h.lt.k K0)).mono ?_
    rw [V.out]
    rintro e w1 ⟨rfl, p1⟩
    replace R0 := (row_ext R0 p1 (fun h => h)).alloc (.cells #[.int .i64 0] 3)
    replace R1 := row_ext R1 p1 (fun h => h)
    have x0 := R0.cell (i := 0) (by simp)
    have x1 := R0.cell (i := 1) (by simp)
    have x2 := R0.cell (i := 2) (by simp)
    simp at x0 x1 x2
    have sz := p1.size
    simp at sz
    have R2 := (rowOf w1 #[.int .i64 0] 3).congr (g := fun _ => .int .i64 ((0 : Nat) : Int)) (fun i hi => by
      obtain rfl : i = 0 := by simpa using hi
      rfl)
    replace R1 := R1.congr (g := fun _ => .int .i64 x) (fun i hi => by
      obtain rfl : i = 0 := by simpa using hi
      rfl)
    have I0 : MInv x (w.heap.size + 1) w1.heap.size 0 0 (w1.alloc (.cells #[.int .i64 0] 3)) := ⟨R1.alloc _, R2, by omega, Nat.le_refl _⟩
    have q2 := ((h.lt.k K0).k p1).k (Keep.al w1 (.cells #[.int .i64 0] 3))
    clear R0 R1 R2
    go_wp2_with fail
    refine (walk_n (mvis x) 113 #[.pointer (some ⟨w.heap.size + 1, 0, none⟩), .pointer (some ⟨w1.heap.size, 0, none⟩)] (· = w1.heap.size) (MInv x (w.heap.size + 1) w1.heap.size) (fun args w => by kernel_rfl) (fun k s w w' h hk => h.keep hk)
      (fun k s op num a n c w hk h => mentClos x _ _ k s op num a n c w hk h) _ op num es (Nat.lt_succ_self _) 0 0 _ _ _ _ _ q2 (fun q hq e => by have := hq.2; omega) (fun q hq => by simp; omega) (by omega) I0).mono ?_
    rintro e w2 ⟨rfl, I2, X2⟩
    have v0 := I2.2.1.cell (i := 0) (by omega)
    rw [show visEs (mvis x) es (mvis x op num 0) = mE x (.mk op num es) from by rw [mvisEs, mvis_eq, mE]; omega, ← V2.out] at v0
    go_wp2_with fail
    exact fin_ hQ ⟨rfl, ((K0.trans p1).trans (Keep.al _ _)).then_ X2 (fun q hq e => by omega)⟩
  · have V := Lib.hid (nodesL_no hl)
    have V2 := Lib.hid (mentL_no (x := x) (op := op) (num := num) hl)
    clear hl
    go_enter Tryz.func58, Tryz.ntmps58
    go_wp2_with fail
    refine (implNodesOf _ _ _ _ _ _ _ _ (h.k K0)).mono ?_
    rw [V.out]
    rintro e w1 ⟨rfl, p1⟩
    go_wp2_with fail
    exact fin_ hQ ⟨ret_i V2.out.symm, K0.trans p1⟩
end Go.Proofs.YtkapldpmjkdmcaaGreat
/- A list of work: a slice of integers of the call's own that is read and cut at its front and appended to at its end. -/
namespace Go.Proofs.YtkapldpmjkdmcaaGreat
open Go.RowKit

/-- A slice of integers in a block of the call's own, at any offset, with room for its capacity. -/
def QRow (w : World) (base : Nat) (v : Value) (xs : List Int) : Prop :=
  ∃ (g o c : Nat) (cur : Array Value), v = .slice (some ⟨g, o, none⟩) xs.length c ∧ base ≤ g ∧ w.heap[g]? = some (.cells cur 3 (0, 0)) ∧ xs.length ≤ c ∧ o + c ≤ cur.size ∧ c ≤ maxLen ∧ ∀ i, i < xs.length → cur[o + i]? = some (.int .i64 (iAt xs i))
section
variable {w w' : World} {base : Nat} {v : Value} {xs : List Int}
theorem QRow.lt (h : QRow w base v xs) : ∀ k, v.ownBlock = some k → base ≤ k ∧ k < w.heap.size := by
  obtain ⟨g, o, c, cur, rfl, hb, hg, _⟩ := h
  intro k hk
  have : g = k := by simpa [Value.ownBlock] using hk
  subst this
  exact ⟨hb, (Array.getElem?_eq_some_iff.1 hg).1⟩
theorem QRow.ext {S : Nat → Prop} (h : QRow w base v xs) (hx : Ext S w w') (hs : ∀ k, v.ownBlock = some k → ¬ S k) : QRow w' base v xs := by
  have hl := h.lt
  obtain ⟨g, o, c, cur, rfl, hb, hg, h1⟩ := h
  exact ⟨g, o, c, cur, rfl, hb, (hx.block g (hl g rfl).2 (hs g rfl)).trans hg, h1⟩
theorem QRow.tail {g o n c : Nat} {x : Int} (h : QRow w base (.slice (some ⟨g, o, none⟩) n c) (x :: xs)) : QRow w base (.slice (some ⟨g, o + 1, none⟩) (n - 1) (c - 1)) xs := by
  obtain ⟨g', o', c', cur, e, hb, hg, h1, h2, h3, h4⟩ := h
  injection e with e1 e2 e3
  injection e1 with e1
  injection e1 with e4 e5
  subst e4 e5 e2 e3
  simp only [List.length_cons] at h1 h4 ⊢
  refine ⟨g, o + 1, c - 1, cur, by simp, hb, hg, by omega, by omega, by omega, fun i hi => ?_⟩
  have := h4 (i + 1) (by omega)
  rw [show o + 1 + i = o + (i + 1) by omega, this]
  simp [iAt]
theorem QRow.lit (w : World) (x : Int) {base : Nat} (hb : base ≤ w.heap.size) : QRow (w.alloc (.cells #[.int .i64 x] 3)) base (.slice (some ⟨w.heap.size, 0, none⟩) 1 1) [x] :=
  ⟨w.heap.size, 0, 1, #[.int .i64 x], rfl, hb, heap_alloc_new w _, Nat.le_refl _, by simp, by simp [maxLen], fun i hi => by
    obtain rfl : i = 0 := by simpa using hi
    simp [iAt]⟩
end

theorem own_keep {w w' : World} {base : Nat} {e : TypeId} {size : Nat} {v : Value} {n : Nat} {xs : List Value} {S : Nat → Prop} (h : w.ownsRow base e size v n xs) (hk : Ext S w w') (hs : ∀ g, v.ownBlock = some g → ¬ S g) : w'.ownsRow base e size v n xs := by
  obtain ⟨h1, h2⟩ := h
  refine ⟨h1, ?_⟩
  rcases h2 with h2 | ⟨g, cap, cur, e, hb, hg, rest⟩
  · exact .inl h2
  · exact .inr ⟨g, cap, cur, e, hb, (hk.block g (Array.getElem?_eq_some_iff.1 hg).1 (hs g (by rw [e]; rfl))).trans hg, rest⟩
end Go.Proofs.YtkapldpmjkdmcaaGreat
