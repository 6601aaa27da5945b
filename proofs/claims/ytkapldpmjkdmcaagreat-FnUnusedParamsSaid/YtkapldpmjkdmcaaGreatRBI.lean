/- shifted of the program: a fresh copy. -/
import Derived.Test.YtkapldpmjkdmcaaGreatRAF
import Derived.Test.YtkapldpmjkdmcaaGreatRAU
import Derived.Deep.RegionHeld3
import Derived.Test.YtkapldpmjkdmcaaGreatRAZ
import Derived.Test.YtkapldpmjkdmcaaGreatRBF
import Derived.Test.YtkapldpmjkdmcaaGreatShelf
import Derived.Test.YtkapldpmjkdmcaaGreatRAD
namespace Go.Proofs.YtkapldpmjkdmcaaGreat
open Go.RowKit

/-- What holds at the head of the loop over the kids. -/
def ShRel (k d op num : Int) (es : List ExprL) (w : World) (j : Nat) (v : Value) (wr : World) : Prop :=
  wr.rowIs w.heap.size 58 3 (fun i => if i = 2 then v else (#[.int .i64 op, .int .i64 num, .slice none 0 0] : Array Value).getD i undef) ∧
  wr.rowIs (w.heap.size + 1) 58 3 (fun i => (#[.int .i64 0, .int .i64 0, .slice none 0 0] : Array Value).getD i undef) ∧
  Acc wr (w.heap.size + 2) (fun q => w.heap.size + 2 ≤ q ∧ q < wr.heap.size) 58 3 v ((shEs k d (es.take j)).map rowE) ∧ Keep w wr

theorem ShRel.start (k d op num : Int) (es : List ExprL) (w : World) : ShRel k d op num es w 0 (.slice none 0 0) ((w.alloc (.cells #[.int .i64 op, .int .i64 num, .slice none 0 0] 58)).alloc (.cells #[.int .i64 0, .int .i64 0, .slice none 0 0] 58)) := by
  refine ⟨?_, ?_, Acc.nil _ _ _ _ _, (Keep.al w _).trans (Keep.al _ _)⟩
  · refine ((rowOf w #[.int .i64 op, .int .i64 num, .slice none 0 0] 58).alloc _).congr (fun i hi => ?_)
    rcases (show i = 0 ∨ i = 1 ∨ i = 2 by simp at hi; omega) with rfl | rfl | rfl <;> rfl
  · have h := rowOf (w.alloc (.cells #[.int .i64 op, .int .i64 num, .slice none 0 0] 58)) #[.int .i64 0, .int .i64 0, .slice none 0 0] 58
    simp only [World.size_alloc] at h
    exact h

theorem ShRel.step {k d op num : Int} {es : List ExprL} {w wr w2 : World} {j : Nat} {v v1 : Value} {D' : Nat → Prop} (h : ShRel k d op num es w j v wr) (hj : j < es.length) (hx : Ext (fun q => v.ownBlock = some q) wr w2)
    (hA : Acc w2 (w.heap.size + 2) D' 58 3 v1 ((shEs k d (es.take j)).map rowE ++ [[.num (shE k d (eAt es j)).op, .num (shE k d (eAt es j)).num, encExprs (shE k d (eAt es j)).kids]])) (hD' : ∀ q, D' q → w.heap.size + 2 ≤ q) :
    ShRel k d op num es w (j + 1) v1 (w2.setCell ⟨w.heap.size, 2, none⟩ v1) := by
  obtain ⟨h1, h2, h3, h4⟩ := h
  have hb := h3.bound
  have hn : ∀ q, q ≤ w.heap.size + 1 → ¬ v.ownBlock = some q := fun q hq e => by have := (hb q e).1; omega
  have hX : Ext (fun q => q = w.heap.size) w2 (w2.setCell ⟨w.heap.size, 2, none⟩ v1) := (Ext.refl (fun q => q = w.heap.size) w2).setCell (p := ⟨w.heap.size, 2, none⟩) (.inr rfl) _
  refine ⟨?_, ?_, ?_, ?_⟩
  · refine ((row_ext h1 hx (hn _ (by omega))).set 2 v1).congr (fun i hi => ?_)
    rcases (show i = 0 ∨ i = 1 ∨ i = 2 by omega) with rfl | rfl | rfl <;> rfl
  · exact row_ext (row_ext h2 hx (hn _ (by omega))) hX (by omega)
  · have e : (shEs k d (es.take (j + 1))).map rowE = (shEs k d (es.take j)).map rowE ++ [[.num (shE k d (eAt es j)).op, .num (shE k d (eAt es j)).num, encExprs (shE k d (eAt es j)).kids]] := by
      rw [shEs_take k d es hj, List.map_append, List.map_singleton, rowE_eq]
    rw [e]
    have h5 : Acc w2 (w.heap.size + 2) (fun q => w.heap.size + 2 ≤ q ∧ q < w2.heap.size) 58 3 v1 ((shEs k d (es.take j)).map rowE ++ [[.num (shE k d (eAt es j)).op, .num (shE k d (eAt es j)).num, encExprs (shE k d (eAt es j)).kids]]) := hA.lt.mono (fun q hq => ⟨hD' q hq.1, hq.2⟩)
    exact (h5.ext hX (fun q _ hq e => by rcases hq with hq | hq <;> omega)).mono (fun q hq => ⟨hq.1, Nat.lt_of_lt_of_le hq.2 hX.size⟩)
  · exact (h4.then_ hx (fun q hq e => hn q (by omega) e)).then_ hX (fun q hq e => by omega)

theorem ShRel.done {k d op num : Int} {es : List ExprL} {w wr : World} {j : Nat} {v : Value} (h : ShRel k d op num es w j v wr) (hj : es.length ≤ j) (hm : es.length ≤ 1000000) :
    ∃ a n c, v = .slice a n c ∧ Own wr (fun q => w.heap.size + 2 ≤ q) (encExprs (shEs k d es)) (.slice a n c) ∧ Keep w wr ∧
      (∀ i, i < 3 → wr.cell? ⟨w.heap.size, i, none⟩ = some ((#[.int .i64 op, .int .i64 num, .slice a n c] : Array Value).getD i undef)) ∧
      (∀ i, i < 3 → wr.cell? ⟨w.heap.size + 1, i, none⟩ = some ((#[.int .i64 0, .int .i64 0, .slice none 0 0] : Array Value).getD i undef) ∧ wr.frozen? ⟨w.heap.size + 1, i, none⟩ = false) := by
  obtain ⟨h1, h2, h3, h4⟩ := h
  rw [List.take_of_length_le hj] at h3
  obtain ⟨a, c, rfl, hc, ho⟩ := h3.own (by omega) (by simp [shEs_len]; omega)
  refine ⟨a, _, c, rfl, ?_, h4, fun i hi => ?_, fun i hi => ⟨h2.cell hi, h2.frozen i⟩⟩
  · rw [encExprs, rowsE_map]; exact ho.mono (fun q hq => by rcases hq with hq | hq <;> omega)
  · rw [h1.cell hi]
    rcases (show i = 0 ∨ i = 1 ∨ i = 2 by omega) with rfl | rfl | rfl <;> rfl

end Go.Proofs.YtkapldpmjkdmcaaGreat
/- The closure of FreeOf of the program: what is free goes to the end of a list. -/
namespace Go.Proofs.YtkapldpmjkdmcaaGreat
open Go.RowKit

/-- The blocks that the visits change: that of the captured list, and the list's own row. -/
def FrM (q : Nat) (w : World) (r : Nat) : Prop := r = q ∨ ∃ v, w.cell? ⟨q, 0, none⟩ = some v ∧ v.ownBlock = some r
/-- What the visits keep. -/
def FrInv (z : Int) (p q : Nat) (k : Nat) (s : List Int) (w : World) : Prop :=
  w.rowIs p 3 1 (fun _ => .int .i64 z) ∧ (∃ v, w.rowIs q 52 1 (fun _ => v) ∧ w.ownsRow (q + 1) 3 1 v s.length (s.map (Value.int .i64))) ∧ p < q ∧ s.length ≤ k
theorem ownsRow_keep {w w' : World} {base : Nat} {e : TypeId} {size : Nat} {v : Value} {n : Nat} {xs : List Value} {S : Nat → Prop} (h : w.ownsRow base e size v n xs) (hk : Ext S w w') (hs : ∀ g, v.ownBlock = some g → ¬ S g) : w'.ownsRow base e size v n xs := by
  obtain ⟨h1, h2⟩ := h
  refine ⟨h1, ?_⟩
  rcases h2 with h2 | ⟨g, cap, cur, e, hb, hg, rest⟩
  · exact .inl h2
  · exact .inr ⟨g, cap, cur, e, hb, (hk.block g (Array.getElem?_eq_some_iff.1 hg).1 (hs g (by rw [e]; rfl))).trans hg, rest⟩
theorem FrInv.keep {z : Int} {p q k : Nat} {s : List Int} {w w' : World} (h : FrInv z p q k s w) (hk : Keep w w') : FrInv z p q k s w' ∧ ∀ r, FrM q w' r → FrM q w r := by
  obtain ⟨h1, ⟨v, h2, h3⟩, h4, h5⟩ := h
  have r2 := row_ext h2 hk (fun h => h)
  refine ⟨⟨row_ext h1 hk (fun h => h), ⟨v, r2, ownsRow_keep h3 hk (fun _ _ h => h)⟩, h4, h5⟩, fun r hr => ?_⟩
  rcases hr with hr | ⟨u, hu, hr⟩
  · exact .inl hr
  · rw [r2.cell (i := 0) (by omega)] at hu
    injection hu with hu
    subst hu
    exact .inr ⟨_, h2.cell (by omega), hr⟩
theorem FrInv.lt {z : Int} {p q k : Nat} {s : List Int} {w : World} (h : FrInv z p q k s w) : ∀ r, FrM q w r → q ≤ r ∧ r < w.heap.size := by
  obtain ⟨_, ⟨v, h2, h3⟩, _, _⟩ := h
  intro r hr
  rcases hr with rfl | ⟨u, hu, hr⟩
  · exact ⟨Nat.le_refl _, h2.lt⟩
  · rw [h2.cell (i := 0) (by omega)] at hu
    injection hu with hu
    subst hu
    have := h3.lt r hr
    exact ⟨by omega, this.2⟩

/-- An integer behind a row of integers of the call's own; the row that comes of it is the old one or new. -/
theorem wpList_appInt2 (w : World) {ops : Array Oper} {rest : List Oper} {o : Oper} {a : Act} {Q : Exit → Act → World → Prop} (hgd : o.guard = none) (s x : Operand)
    (ho : o.op = .call { callee := .builtin .append, args := #[s, x], argTypes := #[52, 52] })
    (base : Nat) (v : Value) (n : Nat) (xs : List Int) (hs : a.eval s = v) (hown : w.ownsRow base 3 1 v n (xs.map (Value.int .i64)))
    (g c : Nat) (y : Int) (hx : a.eval x = .slice (some ⟨g, 0, none⟩) 1 c) (hc : w.cell? ⟨g, 0, none⟩ = some (.int .i64 y)) (hn : n ≤ 1099511627776) (hbase : base ≤ w.heap.size)
    (h : ∀ v' w', w'.ownsRow base 3 1 v' (n + 1) ((xs ++ [y]).map (Value.int .i64)) → w.grownBy w' v.ownBlock → (v'.ownBlock = v.ownBlock ∨ v'.ownBlock = some w.heap.size) → wpList Tryz.prog ops Q rest (a.put o.dst v') w') : wpList Tryz.prog ops Q (o :: rest) a w := by
  refine wpList_app w hgd s x 52 ho base 3 (.int .i64 0) 1 8 Tryz.underlying52 (by kernel_rfl) rfl (by omega) v n _ hs hown (some ⟨g, 0, none⟩) 1 c [.int .i64 y] hx ⟨rfl, fun _ => ⟨g, 0, rfl, fun j u hj => ?_⟩⟩ (by simp [Value.oneCell']) (by omega) (by omega) hbase
    (fun v' w' h1 h2 h3 => h v' w' (by simpa using h1) h2 h3)
  rcases j with _ | j
  · simp at hj; subst hj; simpa using hc
  · simp at hj

set_option maxHeartbeats 1000000 in
theorem freeClos (z : Int) (p q k : Nat) (s : List Int) (op num : Int) (a : Option Addr) (n c : Nat) (w : World) (hk : k < 30) (h : FrInv z p q k s w) :
    Calls Tryz.prog 65 #[.agg #[.int .i64 op, .int .i64 num, .slice a n c], .pointer (some ⟨p, 0, none⟩), .pointer (some ⟨q, 0, none⟩)] w fun e w' => e = .returned (.tuple #[]) ∧ FrInv z p q (k + 1) (gvis z op num s) w' ∧ StM (FrM q) w w' := by
  refine calls_k fun Q hQ => ?_
  have K0 := Keep.al w (.cells #[.int .i64 op, .int .i64 num, .slice a n c] 58)
  have hp := h.1.lt
  have hq0 : q < w.heap.size := by obtain ⟨_, ⟨v, h2, _⟩, _⟩ := h; exact h2.lt
  have same : Hid (gvis z op num s = s → FrInv z p q (k + 1) (gvis z op num s) (w.alloc (.cells #[.int .i64 op, .int .i64 num, .slice a n c] 58)) ∧ StM (FrM q) w (w.alloc (.cells #[.int .i64 op, .int .i64 num, .slice a n c] 58))) := by
    show _ → _
    intro e
    rw [e]
    obtain ⟨⟨i1, i2, i3, i4⟩, i5⟩ := h.keep K0
    exact ⟨⟨i1, i2, i3, by omega⟩, ⟨Keep.to K0, fun r _ hr => i5 r hr⟩⟩
  have H0 := Lib.hid h
  obtain ⟨h1, ⟨v, h2, h3⟩, h4, h5⟩ := h
  have vp := h1.cell (i := 0) (by omega)
  obtain ⟨av, cv, rfl, hle, _⟩ := own_of_row h3
  have vq := h2.cell (i := 0) (by omega)
  have fq := h2.frozen 0
  have H2 := Lib.hid h2
  have H3 := Lib.hid h3
  have H1 := Lib.hid h1
  clear h1 h2 h3
  by_cases c1 : op = 12
  · have c1' : (op == 12) = true := by simpa using c1
    by_cases c2 : 0 ≤ num
    · by_cases c3 : num < z
      · have V : Hid (gvis z op num s = s ++ [num]) := by show _ = _; rw [gvis, show isFree z op num = true from by rw [isFree]; simp; omega]; rfl
        clear c1 same
        have KB := Lib.hid (K0.trans (Keep.al (w.alloc (.cells #[.int .i64 op, .int .i64 num, .slice a n c] 58)) (.cells #[.int .i64 num] 3)))
        have HN : Hid (∀ r, (Value.slice av s.length cv).ownBlock = some r → q + 1 ≤ r ∧ r < w.heap.size) := fun r hr => H3.out.lt r hr
        go_enter Tryz.func65, Tryz.ntmps65
        go_wp2_with (at_builtin; refine wpList_appInt2 _ rfl (.tmp 18) (.tmp 21) rfl (q + 1) (.slice av s.length cv) s.length s rfl ((H3.out.alloc _).alloc _) (w.heap.size + 1) 1 num rfl (by simp [go_sem]) (by omega) (by simp; omega) ?_; intro v' w' ho hg hv; have HVV := Lib.hid hv; clear hv; have X := (Ext.refl (fun r => (Value.slice av s.length cv).ownBlock = some r) _).grown hg (fun r hr => .inr hr); have R2 := row_ext (row_ext H2.out KB.out (fun h => h)) X (fun hr => by have := (HN.out _ hr).1; omega); have y2 := R2.cell (i := 0) (by omega); have f2 := R2.frozen 0; obtain ⟨a3, c3, rfl, hc3, _⟩ := own_of_row ho; have HO := Lib.hid ho; have HX := Lib.hid X; have HR2 := Lib.hid R2; clear ho hg X R2)
        have V' := V.out
        have X2 : Ext (fun r => r = q) w' (w'.setCell ⟨q, 0, none⟩ (.slice a3 (s.length + 1) c3)) := (Ext.refl (fun r => r = q) w').setCell (p := ⟨q, 0, none⟩) (.inr rfl) _
        have XA : Ext (FrM q w) w (w'.setCell ⟨q, 0, none⟩ (.slice a3 (s.length + 1) c3)) := ((Keep.to KB.out).trans (HX.out.mono (fun r _ hr => .inr ⟨_, vq, hr⟩))).trans (X2.mono (fun r _ hr => .inl hr))
        have R5 := (HR2.out.set 0 (.slice a3 (s.length + 1) c3)).congr (g := fun _ => .slice a3 (s.length + 1) c3) (fun i hi => by rw [if_pos (by omega)])
        refine bodyPost_end (v := .tuple #[]) (by simp [results, Tryz.results65, go_sem]) rfl (fin_ hQ ⟨rfl, ?_, ⟨XA, ?_⟩⟩)
        · rw [V']
          refine ⟨row_ext (row_ext (row_ext H1.out KB.out (fun h => h)) HX.out (fun hr => by have := (HN.out _ hr).1; omega)) X2 (by omega), ⟨_, R5, ?_⟩, h4, by simp; omega⟩
          rw [List.length_append]
          exact ownsRow_keep HO.out X2 (fun g hg e => by have := (HO.out.lt g hg).1; omega)
        · intro r hr hm
          rcases hm with hm | ⟨u, hu, hm⟩
          · exact .inl hm
          · rw [R5.cell (i := 0) (by omega)] at hu
            injection hu with hu
            subst hu
            rcases HVV.out with e | e
            · exact .inr ⟨_, vq, by rw [← e]; exact hm⟩
            · rw [hm] at e
              injection e with e
              simp at e
              omega
      · have V : Hid (gvis z op num s = s) := by show _ = _; rw [gvis, show isFree z op num = false from by rw [isFree]; simp only [Bool.and_eq_false_iff, decide_eq_false_iff_not]; omega]; rfl
        clear c1
        go_enter Tryz.func65, Tryz.ntmps65
        go_wp2
        refine bodyPost_end (v := .tuple #[]) (by simp [results, Tryz.results65, go_sem]) rfl (fin_ hQ ⟨rfl, same.out V.out⟩)
    · have V : Hid (gvis z op num s = s) := by show _ = _; rw [gvis, show isFree z op num = false from by rw [isFree]; simp only [Bool.and_eq_false_iff, decide_eq_false_iff_not]; omega]; rfl
      clear c1
      go_enter Tryz.func65, Tryz.ntmps65
      go_wp2
      refine bodyPost_end (v := .tuple #[]) (by simp [results, Tryz.results65, go_sem]) rfl (fin_ hQ ⟨rfl, same.out V.out⟩)
  · have V : Hid (gvis z op num s = s) := by show _ = _; rw [gvis, show isFree z op num = false from by rw [isFree]; simp only [Bool.and_eq_false_iff, decide_eq_false_iff_not]; omega]; rfl
    have c1' : (op == 12) = false := by simpa using c1
    clear c1
    go_enter Tryz.func65, Tryz.ntmps65
    go_wp2
    refine bodyPost_end (v := .tuple #[]) (by simp [results, Tryz.results65, go_sem]) rfl (fin_ hQ ⟨rfl, same.out V.out⟩)
end Go.Proofs.YtkapldpmjkdmcaaGreat
/- slices.Sort and slices.Compact over a row of integers of the call's own. -/
namespace Go.Proofs.YtkapldpmjkdmcaaGreat
open Go.RowKit Go.Sort

theorem rowPut {w : World} {g : Nat} {T : TypeId} {cur : Array Value} (hg : w.heap[g]? = some (.cells cur T (0, 0))) (k : Nat) (d : Array Int) (os : Array Obj) (hd : d.size ≤ cur.size) :
    Ext (fun r => r = g) w (grow (putRow (Value.int .i64) (Sort.ahead w k) g 0 d) os) ∧
      ∃ cur', (grow (putRow (Value.int .i64) (Sort.ahead w k) g 0 d) os).heap[g]? = some (.cells cur' T (0, 0)) ∧ cur'.size = cur.size ∧ cur'.toList.take d.size = d.toList.map (Value.int .i64) := by
  have hlt : g < w.heap.size := (Array.getElem?_eq_some_iff.1 hg).1
  have hh : (grow (putRow (Value.int .i64) (Sort.ahead w k) g 0 d) os).heap = w.heap.modify g (onCells (putCells (Value.int .i64) 0 d)) ++ os := rfl
  refine ⟨⟨rfl, rfl, rfl, ?_, fun r hr hne => ?_⟩, putCells (Value.int .i64) 0 d cur, ?_, ?_, ?_⟩
  · rw [hh]; simp
  · rw [hh, Array.getElem?_append_left (by simpa using hr), Array.getElem?_modify, if_neg (fun e => hne e.symm)]
  · rw [hh, Array.getElem?_append_left (by simpa using hlt), Array.getElem?_modify, if_pos rfl, hg]; rfl
  · simp [putCells]
  · apply List.ext_getElem?
    intro i
    rw [List.getElem?_take, List.getElem?_map, Array.getElem?_toList, Array.getElem?_toList]
    by_cases hi : i < d.size
    · rw [if_pos hi]
      have hi2 : i < cur.size := by omega
      simp only [putCells, Array.getElem?_mapIdx, Array.getElem?_eq_getElem hi2, Option.map_some]
      rw [if_pos ⟨Nat.zero_le _, by omega⟩, Nat.sub_zero, Array.getElem?_eq_getElem hi, getElem!_pos d i hi]
      rfl
    · rw [if_neg hi, Array.getElem?_eq_none (by omega)]; rfl

theorem unfrozen_row {w : World} {g : Nat} {T : TypeId} {cur : Array Value} (hg : w.heap[g]? = some (.cells cur T (0, 0))) (j : Nat) : w.frozen? ⟨g, j, none⟩ = false :=
  frozen_of_row _ _ _ _ _ hg

theorem sortOwn (base : Nat) (v : Value) (n : Nat) (xs : List Int) (w : World) (h : w.ownsRow base 3 1 v n (xs.map (Value.int .i64))) (hn : n ≤ 1000000) :
    Calls Tryz.prog 66 #[v] w fun e w' => e = .returned (.tuple #[]) ∧ w'.ownsRow base 3 1 v n ((xs.mergeSort fun x y => decide (x ≤ y)).map (Value.int .i64)) ∧ Ext (fun r => v.ownBlock = some r) w w' := by
  have hl : xs.length = n := by simpa using h.1
  rcases h.2 with ⟨rfl, rfl⟩ | ⟨g, cap, cur, rfl, hb, hg, hnc, hcm, hsz, htake⟩
  · have : xs = [] := List.eq_nil_of_length_eq_zero hl
    subst this
    refine (Tryz.slices_Sort_int_none none 0 w).mono ?_
    rintro e w' ⟨rfl, rfl⟩
    exact ⟨rfl, by simpa using h, Ext.refl _ _⟩
  · subst hl
    have hlt : g < w.heap.size := (Array.getElem?_eq_some_iff.1 hg).1
    rw [Nat.mul_one] at hsz htake
    have hH : Holds (Value.int .i64) w g 0 xs.toArray := by
      intro j hj
      have hj' : j < xs.length := by simpa using hj
      refine ⟨?_, unfrozen_row hg (0 + j)⟩
      rw [Nat.zero_add, cell_of_row _ g j cur 3 (0, 0) hg]
      have h1 : (cur.toList.take xs.length)[j]? = (xs.map (Value.int .i64))[j]? := by rw [htake]
      rw [List.getElem?_take, if_pos hj', List.getElem?_map, Array.getElem?_toList] at h1
      rw [h1, List.getElem?_eq_getElem hj']
      simp [hj']
    refine (Tryz.slices_Sort_int g 0 cap xs w hH hlt (by omega)).mono ?_
    rintro e w' ⟨rfl, k, os, rfl⟩
    have hml : (xs.mergeSort fun x y => decide (x ≤ y)).length = xs.length := List.length_mergeSort _
    obtain ⟨hX, cur', hc1, hc2, hc3⟩ := rowPut hg k (xs.mergeSort fun x y => decide (x ≤ y)).toArray os (by simp [hml]; omega)
    refine ⟨rfl, ⟨by simp [hml], .inr ⟨g, cap, cur', rfl, hb, hc1, hnc, hcm, by omega, ?_⟩⟩, hX.mono (fun r _ hr => by rw [hr]; rfl)⟩
    rw [Nat.mul_one]
    simpa [hml] using hc3
theorem compact_len (zs : List Int) : (Lib.compact zs).length ≤ zs.length := by
  unfold Lib.compact Lib.compactUpTo
  rw [List.length_map]
  exact Nat.le_trans (List.length_filter_le _ _) (by simp)
theorem compactOwn (base : Nat) (a : Option Addr) (n c : Nat) (xs : List Int) (w : World) (h : w.ownsRow base 3 1 (.slice a n c) n (xs.map (Value.int .i64))) (hn : n ≤ 1000000) :
    Calls Tryz.prog 67 #[.slice a n c] w fun e w' => ∃ n', e = .returned (.slice a n' c) ∧ n' = (Lib.compact xs).length ∧ w'.ownsRow base 3 1 (.slice a n' c) n' ((Lib.compact xs).map (Value.int .i64)) ∧ Ext (fun r => (Value.slice a n c).ownBlock = some r) w w' := by
  have hl : xs.length = n := by simpa using h.1
  rcases h.2 with ⟨e, rfl⟩ | ⟨g, cap, cur, e, hb, hg, hnc, hcm, hsz, htake⟩
  · have : xs = [] := List.eq_nil_of_length_eq_zero hl
    subst this
    injection e with e1 e2 e3
    subst e1 e3
    refine (Tryz.slices_Compact_int_empty none 0 w).mono ?_
    rintro e w' ⟨rfl, rfl⟩
    exact ⟨0, rfl, rfl, by simpa [Lib.compact, Lib.compactUpTo] using h, Ext.refl _ _⟩
  · injection e with e1 e2 e3
    subst e1 e3 hl
    have hlt : g < w.heap.size := (Array.getElem?_eq_some_iff.1 hg).1
    rw [Nat.mul_one] at hsz htake
    have hH : Holds (Value.int .i64) w g 0 xs.toArray := by
      intro j hj
      have hj' : j < xs.length := by simpa using hj
      refine ⟨?_, unfrozen_row hg (0 + j)⟩
      rw [Nat.zero_add, cell_of_row _ g j cur 3 (0, 0) hg]
      have h1 : (cur.toList.take xs.length)[j]? = (xs.map (Value.int .i64))[j]? := by rw [htake]
      rw [List.getElem?_take, if_pos hj', List.getElem?_map, Array.getElem?_toList] at h1
      rw [h1, List.getElem?_eq_getElem hj']
      simp [hj']
    refine (Tryz.slices_Compact_int g 0 c xs w hH (by omega) hnc).mono ?_
    rintro e w' ⟨rfl, k, rfl⟩
    have hcl := compact_len xs
    obtain ⟨hX, cur', hc1, hc2, hc3⟩ := rowPut hg k (Lib.compact xs ++ List.replicate (xs.length - (Lib.compact xs).length) 0).toArray #[] (by simp; omega)
    rw [grow_empty] at hX hc1
    refine ⟨_, rfl, rfl, ⟨by simp, .inr ⟨g, c, cur', rfl, hb, hc1, by omega, hcm, by omega, ?_⟩⟩, hX.mono (fun r _ hr => by rw [hr]; rfl)⟩
    rw [Nat.mul_one]
    have h2 : (cur'.toList.take (Lib.compact xs ++ List.replicate (xs.length - (Lib.compact xs).length) (0 : Int)).toArray.size).take (Lib.compact xs).length = ((Lib.compact xs ++ List.replicate (xs.length - (Lib.compact xs).length) (0 : Int)).map (Value.int .i64)).take (Lib.compact xs).length := by rw [hc3]
    rw [List.take_take, Nat.min_eq_left (by simp)] at h2
    rw [h2, List.map_append, List.take_left' (by simp)]
end Go.Proofs.YtkapldpmjkdmcaaGreat
/- addFree of the reference: all nodes are visited, numbers are inserted. -/
namespace Go.Proofs.YtkapldpmjkdmcaaGreat
open Go.RowKit

end Go.Proofs.YtkapldpmjkdmcaaGreat
