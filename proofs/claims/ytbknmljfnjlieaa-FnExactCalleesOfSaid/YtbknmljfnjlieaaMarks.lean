/- Marks: the indices of what is marked; and the functions that a body names, by the program. -/
import Derived.Test.YtbknmljfnjlieaaCallPlain
import Derived.Test.YtbknmljfnjlieaaInsert
import Derived.Test.YtbknmljfnjlieaaWalkM
import Derived.Test.YtbknmljfnjlieaaGA
namespace Go.Proofs.Ytbknmljfnjlieaa
open Go.RowKit

set_option maxHeartbeats 2000000 in
theorem implIndicesOf (g n c : Nat) (bs : List Bool) (w : World) (h : w.rowIs g 4 n (fun i => .bool (bAtL bs i))) (hl : bs.length = n) (hn : n ≤ 1000) :
    Calls Try.prog 64 #[.slice (some ⟨g, 0, none⟩) n c] w fun e w' => ∃ a' n' c', e = .returned (.slice a' n' c') ∧ n' ≤ c' ∧ OwnInts w' (fun q => w.heap.size ≤ q) a' n' (idxL bs) ∧ Keep w w' := by
  refine calls_k fun Q hQ => ?_
  have HR := Lib.hid h
  have HL := Lib.hid hl
  clear h hl
  go_enter Try.func64, Try.ntmps64
  go_wp2_with fail
  go_loopw [3, 8] (fun v i wr => ∃ (j : Nat) (out : List Int), j ≤ n ∧ i = .int .i64 j ∧ Hid (out = idxL (bs.take j)) ∧ out.length ≤ j ∧ Hid (wr.ownsRow w.heap.size 3 1 v out.length (out.map (Value.int .i64))) ∧ Keep w wr) (fun _ i _ => n - (intOf i).toNat)
  case atStart => exact ⟨0, [], Nat.zero_le _, rfl, rfl, Nat.le_refl _, World.ownsRow_nil _ _ _ _, Ext.refl _ _⟩
  case round =>
    obtain ⟨j, out, hj, rfl, hO, hol, hown, hK⟩ := hrel
    have hbs : w.heap.size ≤ wr.heap.size := hK.size
    by_cases hlt : j < n
    · have x0 := (row_ext HR.out hK (fun h => h)).cell hlt
      have HJ : Hid (j < bs.length) := by have := HL.out; show _ < _; omega
      cases hb : bAtL bs j
      · have HS : Hid (out = idxL (bs.take (j + 1))) := by show _ = _; rw [idxL_take HJ.out, hb, hO.out]; simp
        rw [hb] at x0
        clear hb
        go_wp2_with fail
        go_roundw
        case rel => exact ⟨j + 1, out, by omega, by go_num, HS, by omega, hown, hK⟩
        case measure => simp [intOf]; omega
      · have HS : Hid (out ++ [(j : Int)] = idxL (bs.take (j + 1))) := by show _ = _; rw [idxL_take HJ.out, hb, hO.out]; simp
        rw [hb] at x0
        clear hb
        go_wp2_with (at_builtin; refine wpList_appInt _ rfl (.tmp 14) (.tmp 16) rfl w.heap.size u3 out.length out rfl (hown.out.alloc _) wr.heap.size 1 (j : Int) rfl (by simp [go_sem]) (by omega) (by simp; omega) ?_; intro v' w' ho hg)
        go_roundw
        case rel => exact ⟨j + 1, out ++ [(j : Int)], by omega, by go_num, HS, by simp; omega, by rw [List.length_append]; exact ho, (hK.alloc _).grown hg (fun g hg' => .inl (hown.out.lt g hg').1)⟩
        case measure => simp [intOf]; omega
    · have HJ : Hid (bs.length ≤ j) := by have := HL.out; show _ ≤ _; omega
      go_wp2
      obtain ⟨a2, cc, rfl, hle, hoi⟩ := own_of_row hown.out
      exact fin_ hQ ⟨a2, _, cc, rfl, hle, by have e := hO.out; rw [List.take_of_length_le HJ.out] at e; subst e; exact hoi, hK⟩

/-- What the visits of calleesOf keep: block p holds the slice of marks, which lies in block g. -/
def CInv (p g n : Nat) (_ : Nat) (bs : List Bool) (w : World) : Prop := w.rowIs p 95 1 (fun _ => .slice (some ⟨g, 0, none⟩) n n) ∧ w.rowIs g 4 n (fun i => .bool (bAtL bs i)) ∧ bs.length = n ∧ p ≠ g
theorem CInv.keep {p g n k : Nat} {bs : List Bool} {w w' : World} (h : CInv p g n k bs w) (hk : Keep w w') : CInv p g n k bs w' := ⟨row_ext h.1 hk (fun h => h), row_ext h.2.1 hk (fun h => h), h.2.2⟩

set_option maxHeartbeats 1000000 in
theorem calClos (p g n k : Nat) (bs : List Bool) (op num : Int) (a : Option Addr) (m c : Nat) (w : World) (hc : calIn n op num) (h : CInv p g n k bs w) :
    Calls Try.prog 111 #[.agg #[.int .i64 op, .int .i64 num, .slice a m c], .pointer (some ⟨p, 0, none⟩)] w fun e w' => e = .returned (.tuple #[]) ∧ CInv p g n (k + 1) (bvis op num bs) w' ∧ StM (fun _ r => r = g) w w' := by
  refine calls_k fun Q hQ => ?_
  have H0 := Lib.hid h
  obtain ⟨h1, h2, hl, hpg⟩ := h
  have HL := Lib.hid hl
  have vp := h1.cell (i := 0) (by omega)
  have lp := h1.lt
  have lg := h2.lt
  have H1 := Lib.hid h1
  have H2 := Lib.hid h2
  clear h1 h2 hl
  have hit : Hid (isCal op = true → ∀ x : Nat, num = (x : Int) → x < n → ∀ w', Ext (fun _ => False) (w.setCell ⟨g, x, none⟩ (.bool true)) w' → CInv p g n (k + 1) (bvis op num bs) w' ∧ StM (fun _ r => r = g) w w') := by
    show _ → _
    rintro hi x rfl hx w' hX
    refine ⟨⟨row_ext (H1.out.setOther (a := ⟨g, x, none⟩) hpg _) hX (fun h => h), ?_, by rw [bvis_len]; exact HL.out, hpg⟩, ⟨((Ext.refl (fun r => r = g) w).setCell (p := ⟨g, x, none⟩) (.inr rfl) _).trans (Keep.to hX), fun r _ hr => hr⟩⟩
    refine (row_ext (H2.out.set x _) hX (fun h => h)).congr (fun i hi2 => ?_)
    rw [bvis, if_pos hi, Int.toNat_natCast]
    rw [bAtL_setN (by rw [HL.out]; exact hx)]
    by_cases e : i = x
    · subst e; simp
    · rw [if_neg e]; simp [show ¬ x = i from fun h => e h.symm]
  have R : isCal op = true → ∃ x : Nat, num = (x : Int) ∧ x < n := fun hi => ⟨num.toNat, by have := hc hi; omega, by have := hc hi; omega⟩
  by_cases c1 : op = 9
  · have hi : isCal op = true := by simp [isCal, c1]
    obtain ⟨x, rfl, hx⟩ := R hi
    have y0 := H2.out.cell hx
    have f0 := H2.out.frozen x
    have HI := Lib.hid hi
    subst c1
    clear R hi hc
    go_enter Try.func111, Try.ntmps111
    go_wp2
    refine bodyPost_end (v := .tuple #[]) (by simp [results, Try.results111, go_sem]) rfl (fin_ hQ ⟨rfl, hit.out HI.out x rfl hx _ (Keep.al _ _)⟩)
  by_cases c2 : op = 10
  · have hi : isCal op = true := by simp [isCal, c2]
    obtain ⟨x, rfl, hx⟩ := R hi
    have y0 := H2.out.cell hx
    have f0 := H2.out.frozen x
    have HI := Lib.hid hi
    subst c2
    clear R hi hc c1
    go_enter Try.func111, Try.ntmps111
    go_wp2
    refine bodyPost_end (v := .tuple #[]) (by simp [results, Try.results111, go_sem]) rfl (fin_ hQ ⟨rfl, hit.out HI.out x rfl hx _ (Keep.al _ _)⟩)
  have V : Hid (bvis op num bs = bs) := by show _ = _; rw [bvis, if_neg (by simp [isCal, c1, c2])]
  have c1' : (op == 9) = false := by simpa using c1
  have c2' : (op == 10) = false := by simpa using c2
  have hf : Hid (CInv p g n (k + 1) (bvis op num bs) (w.alloc (.cells #[.int .i64 op, .int .i64 num, .slice a m c] 41)) ∧ StM (fun _ r => r = g) w (w.alloc (.cells #[.int .i64 op, .int .i64 num, .slice a m c] 41))) := by
    show _ ∧ _
    rw [V.out]
    exact ⟨H0.out.keep (Keep.al _ _), ⟨Keep.to (Keep.al _ _), fun r _ hr => hr⟩⟩
  clear R c1 c2 hc
  go_enter Try.func111, Try.ntmps111
  go_wp2
  refine bodyPost_end (v := .tuple #[]) (by simp [results, Try.results111, go_sem]) rfl (fin_ hQ ⟨rfl, hf.out⟩)

set_option maxRecDepth 100000 in
set_option maxHeartbeats 2000000 in
theorem implCalleesOf0 (fs : List FuncL) (a0 : Option Addr) (n0 c0 : Nat) (a1 : Option Addr) (n1 c1 : Nat) (D1 : Nat → Prop) (w : World) (r1 : Rd w D1 (encFuncs fs) (.slice a1 n1 c1))
    (f : Nat) (hf : f < fs.length) (h4 : fs.length ≤ 4) (hcal : allE (calIn fs.length) (fAt fs f).body) (hne : nEs (fAt fs f).body.kids + 1 ≤ 30) :
    Calls Try.prog 68 #[.agg #[.slice a0 n0 c0, .slice a1 n1 c1], .int .i64 (f : Int)] w fun e w' => ∃ g, e = .returned (.slice (some ⟨g, 0, none⟩) n1 n1) ∧ w.heap.size ≤ g ∧ w'.rowIs g 4 n1 (fun i => .bool (bAtL (visE bvis (fAt fs f).body (List.replicate n1 false)) i)) ∧ Keep w w' := by
  refine calls_k fun Q hQ => ?_
  have K0 := Keep.al w (.cells #[.slice a0 n0 c0, .slice a1 n1 c1] 36)
  obtain ⟨e1, hnc, hm, hat⟩ := funcs_at r1
  rw [e1] at hcal hf h4
  have HC := Lib.hid hcal
  have HNE := Lib.hid hne
  obtain ⟨b, o, rfl, hd, a3, n3, c3, a4, n4, c4, d0, d1, d2, d3, d4, r3, r4⟩ := hat f hf
  clear hcal hne hat e1 d0 d1 r3
  go_enter Try.func68, Try.ntmps68
  go_wp2_with (at_make; refine wpList_makeN _ rfl _ _ 95 rfl 4 (.bool false) #[.bool false] 1 1 Try.underlying95 (by kernel_rfl) rfl rfl n1 rfl rfl (by omega) (by omega) ?_; intro w1 hr hk hsz; simp only [World.size_alloc] at hr hk hsz; have KA := K0.trans (hk.trans (Keep.al w1 (.cells #[.slice (some ⟨w.heap.size + 1, 0, none⟩) n1 n1] 95))); have x1 := boxk (hk.trans (Keep.al w1 (.cells #[.slice (some ⟨w.heap.size + 1, 0, none⟩) n1 n1] 95))) 1; simp at x1; have g2 := (KA.cell (World.block_lt_of_cell? w _ d2) (fun h => h)).trans d2; have g3 := (KA.cell (World.block_lt_of_cell? w _ d3) (fun h => h)).trans d3; have g4 := (KA.cell (World.block_lt_of_cell? w _ d4) (fun h => h)).trans d4; have x1b := boxk hk 1; simp at x1b)
  have R1 : w1.rowIs (w.heap.size + 1) 4 n1 (fun i => .bool (bAtL (List.replicate n1 false) i)) := by
    rw [Nat.mul_one] at hr
    refine hr.congr (fun i hi => ?_)
    rw [Nat.mod_one]
    simp [bAtL, hi]
  have RP := (rowOf w1 #[.slice (some ⟨w.heap.size + 1, 0, none⟩) n1 n1] 95).congr (g := fun _ => .slice (some ⟨w.heap.size + 1, 0, none⟩) n1 n1) (fun i hi => by
    obtain rfl : i = 0 := by simpa using hi
    rfl)
  rw [hsz] at RP
  have I0 : CInv (w.heap.size + 1 + 1) (w.heap.size + 1) n1 0 (List.replicate n1 false) (w1.alloc (.cells #[.slice (some ⟨w.heap.size + 1, 0, none⟩) n1 n1] 95)) := ⟨RP, R1.alloc _, by simp, by omega⟩
  have q4 := (r4.lt).k KA
  have IH := Lib.hid I0
  have KH := Lib.hid KA
  clear R1 RP I0 hr
  refine (walk_m bvis 111 #[.pointer (some ⟨w.heap.size + 1 + 1, 0, none⟩)] (calIn n1) (fun _ r => r = w.heap.size + 1) (CInv (w.heap.size + 1 + 1) (w.heap.size + 1) n1) (fun args w => by kernel_rfl) (fun k s w w' h hk => ⟨h.keep hk, fun r hr => hr⟩) (fun k s w r h hr => by subst hr; exact h.2.1.lt)
    (fun k s op num a n c w hk hc h => calClos _ _ _ _ _ _ _ _ _ _ _ hc h) _ _ _ _ (Nat.lt_succ_self _) ((allE_eq _ _).1 HC.out).1 ((allE_eq _ _).1 HC.out).2 0 _ _ _ _ _ _ q4 (fun q hq => ⟨by have := hq.2; simp; omega, fun e => by have := hq.2; omega⟩) (by have := HNE.out; omega) IH.out).mono ?_
  rintro e w2 ⟨rfl, I2, X2⟩
  have v0 := I2.1.cell (i := 0) (by omega)
  go_wp2_with fail
  refine fin_ hQ ⟨_, rfl, by omega, ?_, KH.out.then_ X2.ext (fun q hq e => by omega)⟩
  have h := I2.2.1
  rw [← visE_eq] at h
  exact h
end Go.Proofs.Ytbknmljfnjlieaa
