/- The closure of FreeOf of the program: what is free goes to the end of a list. -/
import Derived.Test.YtpebcclabaennaaWalkM
import Derived.Test.YtpebcclabaennaaFreePlain
import Derived.Test.YtpebcclabaennaaInsert
import Derived.Test.YtpebcclabaennaaShift6
namespace Go.Proofs.Ytpebcclabaennaa
open Go.RowKit

/-- The blocks that the visits change: that of the captured list, and the list's own row. -/
def FrM (q : Nat) (w : World) (r : Nat) : Prop := r = q ∨ ∃ v, w.cell? ⟨q, 0, none⟩ = some v ∧ v.ownBlock = some r
/-- What the visits keep. -/
def FrInv (z : Int) (p q : Nat) (k : Nat) (s : List Int) (w : World) : Prop :=
  w.rowIs p 3 1 (fun _ => .int .i64 z) ∧ (∃ v, w.rowIs q 62 1 (fun _ => v) ∧ w.ownsRow (q + 1) 3 1 v s.length (s.map (Value.int .i64))) ∧ p < q ∧ s.length ≤ k
theorem ownsRow_keep {w w' : World} {base : Nat} {e : TypeId} {size : Nat} {v : Value} {n : Nat} {xs : List Value} {S : Nat → Prop} (h : w.ownsRow base e size v n xs) (hk : Ext S w w') (hs : ∀ g, v.ownBlock = some g → ¬ S g) : w'.ownsRow base e size v n xs := by
  obtain ⟨h1, h2⟩ := h
  refine ⟨h1, ?_⟩
  rcases h2 with h2 | ⟨g, cap, cur, e, hb, hg, rest⟩
  · exact .inl h2
  · exact .inr ⟨g, cap, cur, e, hb, (hk.block g (Array.getElem?_eq_some_iff.1 hg).1 (hs g (by rw [e]; rfl))).trans hg, rest⟩
theorem FrInv.keep {z : Int} {p q k : Nat} {s : List Int} {w w' : World} (h : FrInv z p q k s w) (hk : Keep w w') : FrInv z p q k s w' ∧ ∀ r, FrM q w' r → FrM q w r := by
  obtain ⟨h1, ⟨v, h2, h3⟩, h4, h5⟩ := h
  have r2 := row_ext h2 hk (fun h => h)
  refine ⟨⟨row_ext h1 hk (fun h => h), ⟨v, r2, ownsRow_keep h3 hk (fun _ _ h => h)⟩, h4, h5⟩, fun r hr => ?_⟩
  rcases hr with hr | ⟨u, hu, hr⟩
  · exact .inl hr
  · rw [r2.cell (i := 0) (by omega)] at hu
    injection hu with hu
    subst hu
    exact .inr ⟨_, h2.cell (by omega), hr⟩
theorem FrInv.lt {z : Int} {p q k : Nat} {s : List Int} {w : World} (h : FrInv z p q k s w) : ∀ r, FrM q w r → q ≤ r ∧ r < w.heap.size := by
  obtain ⟨_, ⟨v, h2, h3⟩, _, _⟩ := h
  intro r hr
  rcases hr with rfl | ⟨u, hu, hr⟩
  · exact ⟨Nat.le_refl _, h2.lt⟩
  · rw [h2.cell (i := 0) (by omega)] at hu
    injection hu with hu
    subst hu
    have := h3.lt r hr
    exact ⟨by omega, this.2⟩

/-- An integer behind a row of integers of the call's own; the row that comes of it is the old one or new. -/
theorem wpList_appInt2 (w : World) {ops : Array Oper} {rest : List Oper} {o : Oper} {a : Act} {Q : Exit → Act → World → Prop} (hgd : o.guard = none) (s x : Operand)
    (ho : o.op = .call { callee := .builtin .append, args := #[s, x], argTypes := #[62, 62] })
    (base : Nat) (v : Value) (n : Nat) (xs : List Int) (hs : a.eval s = v) (hown : w.ownsRow base 3 1 v n (xs.map (Value.int .i64)))
    (g c : Nat) (y : Int) (hx : a.eval x = .slice (some ⟨g, 0, none⟩) 1 c) (hc : w.cell? ⟨g, 0, none⟩ = some (.int .i64 y)) (hn : n ≤ 1099511627776) (hbase : base ≤ w.heap.size)
    (h : ∀ v' w', w'.ownsRow base 3 1 v' (n + 1) ((xs ++ [y]).map (Value.int .i64)) → w.grownBy w' v.ownBlock → (v'.ownBlock = v.ownBlock ∨ v'.ownBlock = some w.heap.size) → wpList Try.prog ops Q rest (a.put o.dst v') w') : wpList Try.prog ops Q (o :: rest) a w := by
  refine wpList_app w hgd s x 62 ho base 3 (.int .i64 0) 1 8 Try.underlying62 (by kernel_rfl) rfl (by omega) v n _ hs hown (some ⟨g, 0, none⟩) 1 c [.int .i64 y] hx ⟨rfl, fun _ => ⟨g, 0, rfl, fun j u hj => ?_⟩⟩ (by simp [Value.oneCell']) (by omega) (by omega) hbase
    (fun v' w' h1 h2 h3 => h v' w' (by simpa using h1) h2 h3)
  rcases j with _ | j
  · simp at hj; subst hj; simpa using hc
  · simp at hj

set_option maxHeartbeats 1000000 in
theorem freeClos (z : Int) (p q k : Nat) (s : List Int) (op num : Int) (a : Option Addr) (n c : Nat) (w : World) (hk : k < 30) (h : FrInv z p q k s w) :
    Calls Try.prog 90 #[.agg #[.int .i64 op, .int .i64 num, .slice a n c], .pointer (some ⟨p, 0, none⟩), .pointer (some ⟨q, 0, none⟩)] w fun e w' => e = .returned (.tuple #[]) ∧ FrInv z p q (k + 1) (gvis z op num s) w' ∧ StM (FrM q) w w' := by
  refine calls_k fun Q hQ => ?_
  have K0 := Keep.al w (.cells #[.int .i64 op, .int .i64 num, .slice a n c] 29)
  have hp := h.1.lt
  have hq0 : q < w.heap.size := by obtain ⟨_, ⟨v, h2, _⟩, _⟩ := h; exact h2.lt
  have same : Hid (gvis z op num s = s → FrInv z p q (k + 1) (gvis z op num s) (w.alloc (.cells #[.int .i64 op, .int .i64 num, .slice a n c] 29)) ∧ StM (FrM q) w (w.alloc (.cells #[.int .i64 op, .int .i64 num, .slice a n c] 29))) := by
    show _ → _
    intro e
    rw [e]
    obtain ⟨⟨i1, i2, i3, i4⟩, i5⟩ := h.keep K0
    exact ⟨⟨i1, i2, i3, by omega⟩, ⟨Keep.to K0, fun r _ hr => i5 r hr⟩⟩
  have H0 := Lib.hid h
  obtain ⟨h1, ⟨v, h2, h3⟩, h4, h5⟩ := h
  have vp := h1.cell (i := 0) (by omega)
  obtain ⟨av, cv, rfl, hle, _⟩ := own_of_row h3
  have vq := h2.cell (i := 0) (by omega)
  have fq := h2.frozen 0
  have H2 := Lib.hid h2
  have H3 := Lib.hid h3
  have H1 := Lib.hid h1
  clear h1 h2 h3
  by_cases c1 : op = 12
  · have c1' : (op == 12) = true := by simpa using c1
    by_cases c2 : 0 ≤ num
    · by_cases c3 : num < z
      · have V : Hid (gvis z op num s = s ++ [num]) := by show _ = _; rw [gvis, show isFree z op num = true from by rw [isFree]; simp; omega]; rfl
        clear c1 same
        have KB := Lib.hid (K0.trans (Keep.al (w.alloc (.cells #[.int .i64 op, .int .i64 num, .slice a n c] 29)) (.cells #[.int .i64 num] 3)))
        have HN : Hid (∀ r, (Value.slice av s.length cv).ownBlock = some r → q + 1 ≤ r ∧ r < w.heap.size) := fun r hr => H3.out.lt r hr
        go_enter Try.func90, Try.ntmps90
        go_wp2_with (at_builtin; refine wpList_appInt2 _ rfl (.tmp 18) (.tmp 21) rfl (q + 1) (.slice av s.length cv) s.length s rfl ((H3.out.alloc _).alloc _) (w.heap.size + 1) 1 num rfl (by simp [go_sem]) (by omega) (by simp; omega) ?_; intro v' w' ho hg hv; have HVV := Lib.hid hv; clear hv; have X := (Ext.refl (fun r => (Value.slice av s.length cv).ownBlock = some r) _).grown hg (fun r hr => .inr hr); have R2 := row_ext (row_ext H2.out KB.out (fun h => h)) X (fun hr => by have := (HN.out _ hr).1; omega); have y2 := R2.cell (i := 0) (by omega); have f2 := R2.frozen 0; obtain ⟨a3, c3, rfl, hc3, _⟩ := own_of_row ho; have HO := Lib.hid ho; have HX := Lib.hid X; have HR2 := Lib.hid R2; clear ho hg X R2)
        have V' := V.out
        have X2 : Ext (fun r => r = q) w' (w'.setCell ⟨q, 0, none⟩ (.slice a3 (s.length + 1) c3)) := (Ext.refl (fun r => r = q) w').setCell (p := ⟨q, 0, none⟩) (.inr rfl) _
        have XA : Ext (FrM q w) w (w'.setCell ⟨q, 0, none⟩ (.slice a3 (s.length + 1) c3)) := ((Keep.to KB.out).trans (HX.out.mono (fun r _ hr => .inr ⟨_, vq, hr⟩))).trans (X2.mono (fun r _ hr => .inl hr))
        have R5 := (HR2.out.set 0 (.slice a3 (s.length + 1) c3)).congr (g := fun _ => .slice a3 (s.length + 1) c3) (fun i hi => by rw [if_pos (by omega)])
        refine bodyPost_end (v := .tuple #[]) (by simp [results, Try.results90, go_sem]) rfl (fin_ hQ ⟨rfl, ?_, ⟨XA, ?_⟩⟩)
        · rw [V']
          refine ⟨row_ext (row_ext (row_ext H1.out KB.out (fun h => h)) HX.out (fun hr => by have := (HN.out _ hr).1; omega)) X2 (by omega), ⟨_, R5, ?_⟩, h4, by simp; omega⟩
          rw [List.length_append]
          exact ownsRow_keep HO.out X2 (fun g hg e => by have := (HO.out.lt g hg).1; omega)
        · intro r hr hm
          rcases hm with hm | ⟨u, hu, hm⟩
          · exact .inl hm
          · rw [R5.cell (i := 0) (by omega)] at hu
            injection hu with hu
            subst hu
            rcases HVV.out with e | e
            · exact .inr ⟨_, vq, by rw [← e]; exact hm⟩
            · rw [hm] at e
              injection e with e
              simp at e
              omega
      · have V : Hid (gvis z op num s = s) := by show _ = _; rw [gvis, show isFree z op num = false from by rw [isFree]; simp only [Bool.and_eq_false_iff, decide_eq_false_iff_not]; omega]; rfl
        clear c1
        go_enter Try.func90, Try.ntmps90
        go_wp2
        refine bodyPost_end (v := .tuple #[]) (by simp [results, Try.results90, go_sem]) rfl (fin_ hQ ⟨rfl, same.out V.out⟩)
    · have V : Hid (gvis z op num s = s) := by show _ = _; rw [gvis, show isFree z op num = false from by rw [isFree]; simp only [Bool.and_eq_false_iff, decide_eq_false_iff_not]; omega]; rfl
      clear c1
      go_enter Try.func90, Try.ntmps90
      go_wp2
      refine bodyPost_end (v := .tuple #[]) (by simp [results, Try.results90, go_sem]) rfl (fin_ hQ ⟨rfl, same.out V.out⟩)
  · have V : Hid (gvis z op num s = s) := by show _ = _; rw [gvis, show isFree z op num = false from by rw [isFree]; simp only [Bool.and_eq_false_iff, decide_eq_false_iff_not]; omega]; rfl
    have c1' : (op == 12) = false := by simpa using c1
    clear c1
    go_enter Try.func90, Try.ntmps90
    go_wp2
    refine bodyPost_end (v := .tuple #[]) (by simp [results, Try.results90, go_sem]) rfl (fin_ hQ ⟨rfl, same.out V.out⟩)
end Go.Proofs.Ytpebcclabaennaa
