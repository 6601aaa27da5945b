/- conAt of the program: a constructor and its type. -/
import Derived.Test.YtpebcclabaennaaTypes5
namespace Go.Proofs.Ytpebcclabaennaa
open Go.RowKit

theorem inDecl_iff {ds : List DeclL} {x : Int} {k : Nat} : inDecl ds x k = true ↔ 0 ≤ x - (firstN ds k : Int) ∧ x - (firstN ds k : Int) < ((dAt ds k).cons.length : Int) := by
  constructor
  · intro h
    have := of_decide_eq_true h
    simp only [firstN] at this
    omega
  · intro h
    refine decide_eq_true ?_
    simp only [firstN]
    omega

set_option maxHeartbeats 1000000 in
theorem implConAt_mid (a : Option Addr) (n c : Nat) (ds : List DeclL) (D : Nat → Prop) (x : Int) (w : World) (h : DeclsR w D a n ds) (hf : Few ds) (hx1 : -9223372036854775000 ≤ x) (hx2 : x ≤ 9223372036854775807) :
    Calls Try.prog 181 #[.slice a n c, .int .i64 x] w fun e w' => ∃ a' m c', e = .returned (.tuple #[.int .i64 (conTypeL ds x), .agg #[.slice a' m c']]) ∧ m ≤ c' ∧
      IntsL w D a' m (conFieldsL ds x) ∧ Keep w w' := by
  refine calls_k fun Q hQ => ?_
  have hlen := h.1
  have HL := Lib.hid hlen
  have hn4 : n ≤ 4 := by have := hf.1; omega
  clear hlen
  go_enter Try.func181, Try.ntmps181
  go_wp2
  go_loopw [1, 10] (fun cv i wr => ∃ k : Nat, k ≤ n ∧ i = .int .i64 k ∧ cv = .int .i64 (x - (firstN ds k : Int)) ∧ Keep (w.alloc (.cells #[.slice none 0 0] 189)) wr ∧ Hid (∀ j, j < k → inDecl ds x j = false)) (fun _ i _ => n - (intOf i).toNat)
  case atStart => exact ⟨0, Nat.zero_le _, rfl, by simp [firstN], Ext.refl _ _, fun j hj => absurd hj (by omega)⟩
  case round =>
    obtain ⟨k, hk, rfl, rfl, hK, H⟩ := hrel
    have hK0 : Keep w wr := ((Ext.refl _ w).alloc _).trans hK
    have hr0 : wr.cell? ⟨w.heap.size, 0, none⟩ = some (.slice none 0 0) := box_at hK 0
    have hr1 : wr.frozen? ⟨w.heap.size, 0, none⟩ = false := by rw [hK.frozen (p := ⟨w.heap.size, 0, none⟩) (by simp) (fun h => h)]; simp
    have hsz : w.heap.size < wr.heap.size := by have := hK.size; simp at this; omega
    have b1 := firstN_le hf (k := k) (by have := HL.out; omega)
    by_cases hlt : k < n
    · have h1 := h.ext hK0 (fun _ _ h => h)
      obtain ⟨b, o, rfl, hd, hc0⟩ := h.2 (by omega)
      obtain ⟨_, _, a', m, c', c2, hmc, hcons⟩ := hc0 k hlt
      obtain ⟨d0, d1, _, _, _, d2, _, _⟩ := hc0 k hlt
      have c0 := (hK0.cell (World.block_lt_of_cell? _ _ d0) (fun h => h)).trans d0
      have c1 := (hK0.cell (World.block_lt_of_cell? _ _ d1) (fun h => h)).trans d1
      have c3 := (hK0.cell (World.block_lt_of_cell? _ _ c2) (fun h => h)).trans c2
      have HM := Lib.hid hcons.1
      have HC := Lib.hid hcons
      have b2 : m ≤ 3 := by have := hf.2 k (by have := HL.out; omega); have := HM.out; omega
      clear hc0 h1 h d0 d1 d2 c2 hcons
      cases hv : inDecl ds x k
      · have V := Lib.hid hv
        clear hv
        by_cases g : 0 ≤ x - (firstN ds k : Int)
        · have g2 : ¬ x - (firstN ds k : Int) < (m : Int) := by
            intro g2
            have := V.out
            rw [inDecl_iff.2 ⟨g, by rw [HM.out]; exact g2⟩] at this
            cases this
          go_wp2
          go_roundw
          case rel => exact ⟨k + 1, by omega, by go_num, by simp only [firstN, HM.out]; congr 1; omega, hK.trans ((Ext.refl _ _).alloc _), fun j hj => by
            rcases Nat.lt_succ_iff_lt_or_eq.1 hj with h | rfl
            · exact H.out j h
            · exact V.out⟩
          case measure => simp [intOf]; omega
        · go_wp2
          go_roundw
          case rel => exact ⟨k + 1, by omega, by go_num, by simp only [firstN, HM.out]; congr 1; omega, hK.trans ((Ext.refl _ _).alloc _), fun j hj => by
            rcases Nat.lt_succ_iff_lt_or_eq.1 hj with h | rfl
            · exact H.out j h
            · exact V.out⟩
          case measure => simp [intOf]; omega
      · have V := Lib.hid hv
        clear hv
        have g := inDecl_iff.1 V.out
        rw [HM.out] at g
        obtain ⟨g1, g2⟩ := g
        obtain ⟨j, hj⟩ := Int.eq_ofNat_of_zero_le g1
        have hjm : j < m := by omega
        obtain ⟨b1', o1, rfl, hd1, hc1⟩ := HC.out.2 (by omega)
        obtain ⟨a2, m2, c2', x0, hmc2, hints⟩ := hc1 j hjm
        have x1 := (hK0.cell (World.block_lt_of_cell? _ _ x0) (fun h => h)).trans x0
        have HJ := Lib.hid hj
        rw [hj] at g1 g2 ⊢
        have hKa : Keep wr (wr.alloc (.cells #[.int .i64 (dAt ds k).from_, .int .i64 (dAt ds k).to_, .slice (some ⟨b1', o1, none⟩) m c'] 154)) := (Ext.refl _ _).alloc _
        have xa := (hKa.cell (World.block_lt_of_cell? _ _ x1) (fun h => h)).trans x1
        have ra := (hKa.cell (World.block_lt_of_cell? _ _ hr0) (fun h => h)).trans hr0
        have rb := (hKa.frozen (p := ⟨w.heap.size, 0, none⟩) hsz (fun h => h)).trans hr1
        clear hj hc1 x0 hKa
        go_wp2
        go_region
        all_goals go_wp2
        refine bodyPost_ret (v := .tuple #[.int .i64 ((k : Int) + 1), .agg #[.slice a2 m2 c2']]) (by simp [results, Try.results181, go_sem, hr0, hsz]) rfl (fin_ hQ ⟨a2, m2, c2', ?_, hmc2, ?_, ?_⟩)
        · rw [conTypeL, conIx, firstIx_some (by have := HL.out; omega) V.out H.out]; rfl
        · rw [conFieldsL, conIx, firstIx_some (by have := HL.out; omega) V.out H.out]
          show IntsL w D a2 m2 (cAt (dAt ds k).cons (x.toNat - firstN ds k))
          rw [show x.toNat - firstN ds k = j by have := HJ.out; omega]
          exact hints
        · exact ((hK0.setCell (p := ⟨w.heap.size, 0, none⟩) (.inl (Nat.le_refl _)) _).alloc _).drew
    · go_wp2
      refine bodyPost_ret (v := .tuple #[.int .i64 (-1), .agg #[.slice none 0 0]]) (by simp [results, Try.results181, go_sem, hr0]) rfl (fin_ hQ ⟨none, 0, 0, ?_, Nat.le_refl _, ?_, ?_⟩)
      · rw [conTypeL, conIx, firstIx_none (fun j hj => H.out j (by have := HL.out; omega))]; rfl
      · rw [conFieldsL, conIx, firstIx_none (fun j hj => H.out j (by have := HL.out; omega))]; exact ⟨rfl, fun h => absurd h (by omega)⟩
      · exact hK0.setCell (p := ⟨w.heap.size, 0, none⟩) (.inl (Nat.le_refl _)) _

theorem wrap_low {v : Int} {m k : Nat} (h1 : v < 0 ∨ 1000 - 3 * (k : Int) ≤ v) (h2 : -9223372036854775808 ≤ v) (h3 : v ≤ 9223372036854775807) (hm : m ≤ 3) (hk : k ≤ 4) :
    (wrap64 (v - (m : Int)) < 0 ∨ 1000 - 3 * ((k + 1 : Nat) : Int) ≤ wrap64 (v - (m : Int))) ∧ -9223372036854775808 ≤ wrap64 (v - (m : Int)) ∧ wrap64 (v - (m : Int)) ≤ 9223372036854775807 := by
  unfold wrap64
  omega

set_option maxHeartbeats 1000000 in
theorem implConAt_low (a : Option Addr) (n c : Nat) (ds : List DeclL) (D : Nat → Prop) (x : Int) (w : World) (h : DeclsR w D a n ds) (hf : Few ds) (hx1 : -9223372036854775808 ≤ x) (hx2 : x < -9223372036854775000) :
    Calls Try.prog 181 #[.slice a n c, .int .i64 x] w fun e w' => ∃ a' m c', e = .returned (.tuple #[.int .i64 (conTypeL ds x), .agg #[.slice a' m c']]) ∧ m ≤ c' ∧
      IntsL w D a' m (conFieldsL ds x) ∧ Keep w w' := by
  refine calls_k fun Q hQ => ?_
  have hlen := h.1
  have HL := Lib.hid hlen
  have hn4 : n ≤ 4 := by have := hf.1; omega
  have HX : Hid (conIx ds x = none) := firstIx_none (fun j _ => by
    cases hv : inDecl ds x j
    · rfl
    · have := inDecl_iff.1 hv; omega)
  clear hlen
  go_enter Try.func181, Try.ntmps181
  go_wp2
  go_loopw [1, 10] (fun cv i wr => ∃ (k : Nat) (v : Int), k ≤ n ∧ i = .int .i64 k ∧ cv = .int .i64 v ∧ (v < 0 ∨ 1000 - 3 * (k : Int) ≤ v) ∧ -9223372036854775808 ≤ v ∧ v ≤ 9223372036854775807 ∧ Keep (w.alloc (.cells #[.slice none 0 0] 189)) wr) (fun _ i _ => n - (intOf i).toNat)
  case atStart => exact ⟨0, x, Nat.zero_le _, rfl, rfl, by omega, by omega, by omega, Ext.refl _ _⟩
  case round =>
    obtain ⟨k, v, hk, rfl, rfl, q1, q2, q3, hK⟩ := hrel
    have hK0 : Keep w wr := ((Ext.refl _ w).alloc _).trans hK
    have hr0 : wr.cell? ⟨w.heap.size, 0, none⟩ = some (.slice none 0 0) := box_at hK 0
    have hr1 : wr.frozen? ⟨w.heap.size, 0, none⟩ = false := by rw [hK.frozen (p := ⟨w.heap.size, 0, none⟩) (by simp) (fun h => h)]; simp
    have hsz : w.heap.size < wr.heap.size := by have := hK.size; simp at this; omega
    by_cases hlt : k < n
    · obtain ⟨b, o, rfl, hd, hc0⟩ := h.2 (by omega)
      obtain ⟨d0, d1, a', m, c', d2, hmc, hcons⟩ := hc0 k hlt
      have c0 := (hK0.cell (World.block_lt_of_cell? _ _ d0) (fun h => h)).trans d0
      have c1 := (hK0.cell (World.block_lt_of_cell? _ _ d1) (fun h => h)).trans d1
      have c3 := (hK0.cell (World.block_lt_of_cell? _ _ d2) (fun h => h)).trans d2
      have HM := Lib.hid hcons.1
      have b2 : m ≤ 3 := by have := hf.2 k (by have := HL.out; omega); have := HM.out; omega
      have W1 := Lib.hid (wrap_low q1 q2 q3 b2 (by omega))
      clear hc0 h d0 d1 d2 hcons
      by_cases g : 0 ≤ v
      · have g2 : ¬ v < (m : Int) := by omega
        clear q1
        go_wp2
        go_roundw
        case rel => exact ⟨k + 1, _, by omega, by go_num, rfl, by first | exact W1.out.1 | (rw [← IntWalk.wrap64_in (v - (m : Int)) ⟨by omega, by omega⟩]; exact W1.out.1), by first | exact W1.out.2.1 | omega, by first | exact W1.out.2.2 | omega, hK.trans ((Ext.refl _ _).alloc _)⟩
        case measure => simp [intOf]; omega
      · clear q1
        go_wp2
        go_roundw
        case rel => exact ⟨k + 1, _, by omega, by go_num, rfl, W1.out.1, W1.out.2.1, W1.out.2.2, hK.trans ((Ext.refl _ _).alloc _)⟩
        case measure => simp [intOf]; omega
    · go_wp2
      refine bodyPost_ret (v := .tuple #[.int .i64 (-1), .agg #[.slice none 0 0]]) (by simp [results, Try.results181, go_sem, hr0]) rfl (fin_ hQ ⟨none, 0, 0, ?_, Nat.le_refl _, ?_, ?_⟩)
      · rw [conTypeL, HX.out]; rfl
      · rw [conFieldsL, HX.out]; exact ⟨rfl, fun h => absurd h (by omega)⟩
      · exact hK0.setCell (p := ⟨w.heap.size, 0, none⟩) (.inl (Nat.le_refl _)) _

theorem implConAt (a : Option Addr) (n c : Nat) (ds : List DeclL) (D : Nat → Prop) (x : Int) (w : World) (h : DeclsR w D a n ds) (hf : Few ds) (hx1 : -9223372036854775808 ≤ x) (hx2 : x ≤ 9223372036854775807) :
    Calls Try.prog 181 #[.slice a n c, .int .i64 x] w fun e w' => ∃ a' m c', e = .returned (.tuple #[.int .i64 (conTypeL ds x), .agg #[.slice a' m c']]) ∧ m ≤ c' ∧
      IntsL w D a' m (conFieldsL ds x) ∧ Keep w w' := by
  by_cases g : -9223372036854775000 ≤ x
  · exact implConAt_mid a n c ds D x w h hf g hx2
  · exact implConAt_low a n c ds D x w h hf hx1 (by omega)
end Go.Proofs.Ytpebcclabaennaa
