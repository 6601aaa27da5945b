/- conCount, firstCon, conType, conAt and arrowOf of the program and of the reference. -/
import Derived.Test.YtkapldpmjkdmcaaGreatRAD
import Derived.Test.YtkapldpmjkdmcaaGreatRAE
namespace Go.Proofs.YtkapldpmjkdmcaaGreat
open Go.RowKit

theorem box_at {w w2 : World} {cs : Array Value} {T : TypeId} (h : Keep (w.alloc (.cells cs T)) w2) (i : Nat) : w2.cell? ⟨w.heap.size, i, none⟩ = cs[i]? := by
  rw [h.cell (p := ⟨w.heap.size, i, none⟩) (by simp) (fun h => h), cell_of_row _ w.heap.size i cs T (0, 0) (heap_alloc_new w _)]

theorem implConCount0 (a : Option Addr) (n c : Nat) (ds : List DeclL) (D : Nat → Prop) (w : World) (h : DeclsR w D a n ds) (hf : Few ds) :
    Calls Tryz.prog 155 #[.slice a n c] w fun e w' => e = .returned (.int .i64 (conN ds)) ∧ Keep w w' := by
  refine calls_k fun Q hQ => ?_
  have hlen := h.1
  have HL := Lib.hid hlen
  have hn4 : n ≤ 4 := by have := hf.1; omega
  clear hlen
  go_enter Tryz.func155, Tryz.ntmps155
  go_wp2
  go_loopw [3, 8] (fun t i wr => ∃ k : Nat, k ≤ n ∧ i = .int .i64 k ∧ t = .int .i64 (firstN ds k) ∧ Keep w wr) (fun _ i _ => n - (intOf i).toNat)
  case atStart => exact ⟨0, Nat.zero_le _, rfl, rfl, Ext.refl _ _⟩
  case round =>
    obtain ⟨k, hk, rfl, rfl, hK⟩ := hrel
    by_cases hlt : k < n
    · have h1 := h.ext hK (fun _ _ h => h)
      obtain ⟨b, o, rfl, hd, hc⟩ := h1.2 (by omega)
      obtain ⟨c0, c1, a', m, c', c2, hmc, hcons⟩ := hc k hlt
      have HM := Lib.hid hcons.1
      have b1 := firstN_le hf (k := k) (by have := HL.out; omega)
      have b2 : m ≤ 3 := by have := hf.2 k (by have := HL.out; omega); have := HM.out; omega
      clear hc hcons h1 h
      go_wp2
      go_roundw
      case rel => exact ⟨k + 1, by omega, by go_num, by simp only [firstN, HM.out]; go_num, hK.trans ((Ext.refl _ _).alloc _)⟩
      case measure => simp [intOf]; omega
    · go_wp2
      exact fin_ hQ ⟨ret_i (by rw [conN, HL.out, show k = n by omega]), hK⟩


theorem specFirstCon (a : Option Addr) (n c : Nat) (ds : List DeclL) (D : Nat → Prop) (at_ : Nat) (w : World) (h : DeclsR w D a n ds) (hf : Few ds) (hat : at_ ≤ n) :
    Calls Tryz.prog 196 #[.slice a n c, .int .i64 at_] w fun e w' => e = .returned (.int .i64 (firstN ds at_)) ∧ w = w' := by
  refine calls_k fun Q hQ => ?_
  have hlen := h.1
  have HL := Lib.hid hlen
  have hn4 : n ≤ 4 := by have := hf.1; omega
  clear hlen
  go_enter Tryz.func196, Tryz.ntmps196
  go_wp2
  go_loop [5, 6] (fun t i => ∃ k : Nat, k ≤ at_ ∧ i = .int .i64 k ∧ t = .int .i64 (firstN ds k)) (fun _ i => at_ - (intOf i).toNat)
  case atStart => exact ⟨0, Nat.zero_le _, rfl, rfl⟩
  case round =>
    obtain ⟨k, hk, rfl, rfl⟩ := hrel
    by_cases hlt : k < at_
    · obtain ⟨b, o, rfl, hd, hc⟩ := h.2 (by omega)
      obtain ⟨c0, c1, a', m, c', c2, hmc, hcons⟩ := hc k (by omega)
      have HM := Lib.hid hcons.1
      have b1 := firstN_le hf (k := k) (by have := HL.out; omega)
      have b2 : m ≤ 3 := by have := hf.2 k (by have := HL.out; omega); have := HM.out; omega
      clear hc hcons h
      go_wp2
      go_round
      case rel => exact ⟨k + 1, by omega, by go_num, by simp only [firstN, HM.out]; go_num⟩
      case measure => simp [intOf]; omega
    · go_wp2
      exact fin_ hQ ⟨ret_i (by rw [show k = at_ by omega]), rfl⟩

set_option maxHeartbeats 1000000 in
theorem specConType0 (a : Option Addr) (n c : Nat) (ds : List DeclL) (D : Nat → Prop) (x : Int) (w : World) (h : DeclsR w D a n ds) (hf : Few ds) :
    Calls Tryz.prog 146 #[.slice a n c, .int .i64 x] w fun e w' => e = .returned (.int .i64 (conTypeL ds x)) ∧ w = w' := by
  refine calls_k fun Q hQ => ?_
  have hlen := h.1
  have HL := Lib.hid hlen
  have hn4 : n ≤ 4 := by have := hf.1; omega
  clear hlen
  go_enter Tryz.func146, Tryz.ntmps146
  go_wp2
  go_loop [5] (fun i => ∃ k : Nat, k ≤ n ∧ i = .int .i64 k ∧ Hid (∀ j, j < k → inDecl ds x j = false)) (fun i => n - (intOf i).toNat)
  case atStart => exact ⟨0, Nat.zero_le _, rfl, fun j hj => absurd hj (by omega)⟩
  case round =>
    obtain ⟨k, hk, rfl, H⟩ := hrel
    by_cases hlt : k < n
    · obtain ⟨b, o, rfl, hd, hc⟩ := h.2 (by omega)
      obtain ⟨c0, c1, a', m, c', c2, hmc, hcons⟩ := hc k (by omega)
      have HM := Lib.hid hcons.1
      have b1 := firstN_le hf (k := k) (by have := HL.out; omega)
      have b2 : m ≤ 3 := by have := hf.2 k (by have := HL.out; omega); have := HM.out; omega
      have HI : Hid (inDecl ds x k = decide ((firstN ds k : Int) ≤ x ∧ x ≤ (firstN ds k : Int) + (m : Int) - 1)) := by
        show _ = _
        simp only [inDecl, firstN, HM.out]
        congr 1
        simp only [eq_iff_iff]
        omega
      clear hc hcons
      cases hv : decide ((firstN ds k : Int) ≤ x ∧ x ≤ (firstN ds k : Int) + (m : Int) - 1)
      · go_wp2_with fail
        refine (specFirstCon _ _ _ _ _ _ _ h hf (by omega)).mono ?_
        rintro e w1 ⟨rfl, rfl⟩
        go_wp2_with (go_at_call 60; refine (specInRange _ _ _ _).mono ?_; rintro e w1 ⟨rfl, rfl⟩)
        go_round
        case rel => exact ⟨k + 1, by omega, by go_num, fun j hj => by
          rcases Nat.lt_succ_iff_lt_or_eq.1 hj with h | rfl
          · exact H.out j h
          · rw [HI.out]; exact hv⟩
        case measure => simp [intOf]; omega
      · go_wp2_with fail
        refine (specFirstCon _ _ _ _ _ _ _ h hf (by omega)).mono ?_
        rintro e w1 ⟨rfl, rfl⟩
        go_wp2_with (go_at_call 60; refine (specInRange _ _ _ _).mono ?_; rintro e w1 ⟨rfl, rfl⟩)
        exact fin_ hQ ⟨ret_i (by rw [conTypeL, conIx, firstIx_some (by have := HL.out; omega) (by rw [HI.out]; exact hv) H.out]; rfl), rfl⟩
    · go_wp2
      exact fin_ hQ ⟨ret_i (by rw [conTypeL, conIx, firstIx_none (fun j hj => H.out j (by have := HL.out; omega))]; rfl), rfl⟩
end Go.Proofs.YtkapldpmjkdmcaaGreat
/- conAt of the program: a constructor and its type. -/
namespace Go.Proofs.YtkapldpmjkdmcaaGreat
open Go.RowKit

theorem inDecl_iff {ds : List DeclL} {x : Int} {k : Nat} : inDecl ds x k = true ↔ 0 ≤ x - (firstN ds k : Int) ∧ x - (firstN ds k : Int) < ((dAt ds k).cons.length : Int) := by
  constructor
  · intro h
    have := of_decide_eq_true h
    simp only [firstN] at this
    omega
  · intro h
    refine decide_eq_true ?_
    simp only [firstN]
    omega

set_option maxHeartbeats 1000000 in
theorem implConAt_mid (a : Option Addr) (n c : Nat) (ds : List DeclL) (D : Nat → Prop) (x : Int) (w : World) (h : DeclsR w D a n ds) (hf : Few ds) (hx1 : -9223372036854775000 ≤ x) (hx2 : x ≤ 9223372036854775807) :
    Calls Tryz.prog 156 #[.slice a n c, .int .i64 x] w fun e w' => ∃ a' m c', e = .returned (.tuple #[.int .i64 (conTypeL ds x), .agg #[.slice a' m c']]) ∧ m ≤ c' ∧
      IntsL w D a' m (conFieldsL ds x) ∧ Keep w w' := by
  refine calls_k fun Q hQ => ?_
  have hlen := h.1
  have HL := Lib.hid hlen
  have hn4 : n ≤ 4 := by have := hf.1; omega
  clear hlen
  go_enter Tryz.func156, Tryz.ntmps156
  go_wp2
  go_loopw [1, 10] (fun cv i wr => ∃ k : Nat, k ≤ n ∧ i = .int .i64 k ∧ cv = .int .i64 (x - (firstN ds k : Int)) ∧ Keep (w.alloc (.cells #[.slice none 0 0] 155)) wr ∧ Hid (∀ j, j < k → inDecl ds x j = false)) (fun _ i _ => n - (intOf i).toNat)
  case atStart => exact ⟨0, Nat.zero_le _, rfl, by simp [firstN], Ext.refl _ _, fun j hj => absurd hj (by omega)⟩
  case round =>
    obtain ⟨k, hk, rfl, rfl, hK, H⟩ := hrel
    have hK0 : Keep w wr := ((Ext.refl _ w).alloc _).trans hK
    have hr0 : wr.cell? ⟨w.heap.size, 0, none⟩ = some (.slice none 0 0) := box_at hK 0
    have hr1 : wr.frozen? ⟨w.heap.size, 0, none⟩ = false := by rw [hK.frozen (p := ⟨w.heap.size, 0, none⟩) (by simp) (fun h => h)]; simp
    have hsz : w.heap.size < wr.heap.size := by have := hK.size; simp at this; omega
    have b1 := firstN_le hf (k := k) (by have := HL.out; omega)
    by_cases hlt : k < n
    · have h1 := h.ext hK0 (fun _ _ h => h)
      obtain ⟨b, o, rfl, hd, hc0⟩ := h.2 (by omega)
      obtain ⟨_, _, a', m, c', c2, hmc, hcons⟩ := hc0 k hlt
      obtain ⟨d0, d1, _, _, _, d2, _, _⟩ := hc0 k hlt
      have c0 := (hK0.cell (World.block_lt_of_cell? _ _ d0) (fun h => h)).trans d0
      have c1 := (hK0.cell (World.block_lt_of_cell? _ _ d1) (fun h => h)).trans d1
      have c3 := (hK0.cell (World.block_lt_of_cell? _ _ c2) (fun h => h)).trans c2
      have HM := Lib.hid hcons.1
      have HC := Lib.hid hcons
      have b2 : m ≤ 3 := by have := hf.2 k (by have := HL.out; omega); have := HM.out; omega
      clear hc0 h1 h d0 d1 d2 c2 hcons
      cases hv : inDecl ds x k
      · have V := Lib.hid hv
        clear hv
        by_cases g : 0 ≤ x - (firstN ds k : Int)
        · have g2 : ¬ x - (firstN ds k : Int) < (m : Int) := by
            intro g2
            have := V.out
            rw [inDecl_iff.2 ⟨g, by rw [HM.out]; exact g2⟩] at this
            cases this
          go_wp2
          go_roundw
          case rel => exact ⟨k + 1, by omega, by go_num, by simp only [firstN, HM.out]; congr 1; omega, hK.trans ((Ext.refl _ _).alloc _), fun j hj => by
            rcases Nat.lt_succ_iff_lt_or_eq.1 hj with h | rfl
            · exact H.out j h
            · exact V.out⟩
          case measure => simp [intOf]; omega
        · go_wp2
          go_roundw
          case rel => exact ⟨k + 1, by omega, by go_num, by simp only [firstN, HM.out]; congr 1; omega, hK.trans ((Ext.refl _ _).alloc _), fun j hj => by
            rcases Nat.lt_succ_iff_lt_or_eq.1 hj with h | rfl
            · exact H.out j h
            · exact V.out⟩
          case measure => simp [intOf]; omega
      · have V := Lib.hid hv
        clear hv
        have g := inDecl_iff.1 V.out
        rw [HM.out] at g
        obtain ⟨g1, g2⟩ := g
        obtain ⟨j, hj⟩ := Int.eq_ofNat_of_zero_le g1
        have hjm : j < m := by omega
        obtain ⟨b1', o1, rfl, hd1, hc1⟩ := HC.out.2 (by omega)
        obtain ⟨a2, m2, c2', x0, hmc2, hints⟩ := hc1 j hjm
        have x1 := (hK0.cell (World.block_lt_of_cell? _ _ x0) (fun h => h)).trans x0
        have HJ := Lib.hid hj
        rw [hj] at g1 g2 ⊢
        have hKa : Keep wr (wr.alloc (.cells #[.int .i64 (dAt ds k).from_, .int .i64 (dAt ds k).to_, .slice (some ⟨b1', o1, none⟩) m c'] 125)) := (Ext.refl _ _).alloc _
        have xa := (hKa.cell (World.block_lt_of_cell? _ _ x1) (fun h => h)).trans x1
        have ra := (hKa.cell (World.block_lt_of_cell? _ _ hr0) (fun h => h)).trans hr0
        have rb := (hKa.frozen (p := ⟨w.heap.size, 0, none⟩) hsz (fun h => h)).trans hr1
        clear hj hc1 x0 hKa
        go_wp2
        go_region
        all_goals go_wp2
        refine bodyPost_ret (v := .tuple #[.int .i64 ((k : Int) + 1), .agg #[.slice a2 m2 c2']]) (by simp [results, Tryz.results156, go_sem, hr0, hsz]) rfl (fin_ hQ ⟨a2, m2, c2', ?_, hmc2, ?_, ?_⟩)
        · rw [conTypeL, conIx, firstIx_some (by have := HL.out; omega) V.out H.out]; rfl
        · rw [conFieldsL, conIx, firstIx_some (by have := HL.out; omega) V.out H.out]
          show IntsL w D a2 m2 (cAt (dAt ds k).cons (x.toNat - firstN ds k))
          rw [show x.toNat - firstN ds k = j by have := HJ.out; omega]
          exact hints
        · exact ((hK0.setCell (p := ⟨w.heap.size, 0, none⟩) (.inl (Nat.le_refl _)) _).alloc _).drew
    · go_wp2
      refine bodyPost_ret (v := .tuple #[.int .i64 (-1), .agg #[.slice none 0 0]]) (by simp [results, Tryz.results156, go_sem, hr0]) rfl (fin_ hQ ⟨none, 0, 0, ?_, Nat.le_refl _, ?_, ?_⟩)
      · rw [conTypeL, conIx, firstIx_none (fun j hj => H.out j (by have := HL.out; omega))]; rfl
      · rw [conFieldsL, conIx, firstIx_none (fun j hj => H.out j (by have := HL.out; omega))]; exact ⟨rfl, fun h => absurd h (by omega)⟩
      · exact hK0.setCell (p := ⟨w.heap.size, 0, none⟩) (.inl (Nat.le_refl _)) _

theorem wrap_low {v : Int} {m k : Nat} (h1 : v < 0 ∨ 1000 - 3 * (k : Int) ≤ v) (h2 : -9223372036854775808 ≤ v) (h3 : v ≤ 9223372036854775807) (hm : m ≤ 3) (hk : k ≤ 4) :
    (wrap64 (v - (m : Int)) < 0 ∨ 1000 - 3 * ((k + 1 : Nat) : Int) ≤ wrap64 (v - (m : Int))) ∧ -9223372036854775808 ≤ wrap64 (v - (m : Int)) ∧ wrap64 (v - (m : Int)) ≤ 9223372036854775807 := by
  unfold wrap64
  omega

set_option maxHeartbeats 1000000 in
theorem implConAt_low (a : Option Addr) (n c : Nat) (ds : List DeclL) (D : Nat → Prop) (x : Int) (w : World) (h : DeclsR w D a n ds) (hf : Few ds) (hx1 : -9223372036854775808 ≤ x) (hx2 : x < -9223372036854775000) :
    Calls Tryz.prog 156 #[.slice a n c, .int .i64 x] w fun e w' => ∃ a' m c', e = .returned (.tuple #[.int .i64 (conTypeL ds x), .agg #[.slice a' m c']]) ∧ m ≤ c' ∧
      IntsL w D a' m (conFieldsL ds x) ∧ Keep w w' := by
  refine calls_k fun Q hQ => ?_
  have hlen := h.1
  have HL := Lib.hid hlen
  have hn4 : n ≤ 4 := by have := hf.1; omega
  have HX : Hid (conIx ds x = none) := firstIx_none (fun j _ => by
    cases hv : inDecl ds x j
    · rfl
    · have := inDecl_iff.1 hv; omega)
  clear hlen
  go_enter Tryz.func156, Tryz.ntmps156
  go_wp2
  go_loopw [1, 10] (fun cv i wr => ∃ (k : Nat) (v : Int), k ≤ n ∧ i = .int .i64 k ∧ cv = .int .i64 v ∧ (v < 0 ∨ 1000 - 3 * (k : Int) ≤ v) ∧ -9223372036854775808 ≤ v ∧ v ≤ 9223372036854775807 ∧ Keep (w.alloc (.cells #[.slice none 0 0] 155)) wr) (fun _ i _ => n - (intOf i).toNat)
  case atStart => exact ⟨0, x, Nat.zero_le _, rfl, rfl, by omega, by omega, by omega, Ext.refl _ _⟩
  case round =>
    obtain ⟨k, v, hk, rfl, rfl, q1, q2, q3, hK⟩ := hrel
    have hK0 : Keep w wr := ((Ext.refl _ w).alloc _).trans hK
    have hr0 : wr.cell? ⟨w.heap.size, 0, none⟩ = some (.slice none 0 0) := box_at hK 0
    have hr1 : wr.frozen? ⟨w.heap.size, 0, none⟩ = false := by rw [hK.frozen (p := ⟨w.heap.size, 0, none⟩) (by simp) (fun h => h)]; simp
    have hsz : w.heap.size < wr.heap.size := by have := hK.size; simp at this; omega
    by_cases hlt : k < n
    · obtain ⟨b, o, rfl, hd, hc0⟩ := h.2 (by omega)
      obtain ⟨d0, d1, a', m, c', d2, hmc, hcons⟩ := hc0 k hlt
      have c0 := (hK0.cell (World.block_lt_of_cell? _ _ d0) (fun h => h)).trans d0
      have c1 := (hK0.cell (World.block_lt_of_cell? _ _ d1) (fun h => h)).trans d1
      have c3 := (hK0.cell (World.block_lt_of_cell? _ _ d2) (fun h => h)).trans d2
      have HM := Lib.hid hcons.1
      have b2 : m ≤ 3 := by have := hf.2 k (by have := HL.out; omega); have := HM.out; omega
      have W1 := Lib.hid (wrap_low q1 q2 q3 b2 (by omega))
      clear hc0 h d0 d1 d2 hcons
      by_cases g : 0 ≤ v
      · have g2 : ¬ v < (m : Int) := by omega
        clear q1
        go_wp2
        go_roundw
        case rel => exact ⟨k + 1, _, by omega, by go_num, rfl, by first | exact W1.out.1 | (rw [← IntWalk.wrap64_in (v - (m : Int)) ⟨by omega, by omega⟩]; exact W1.out.1), by first | exact W1.out.2.1 | omega, by first | exact W1.out.2.2 | omega, hK.trans ((Ext.refl _ _).alloc _)⟩
        case measure => simp [intOf]; omega
      · clear q1
        go_wp2
        go_roundw
        case rel => exact ⟨k + 1, _, by omega, by go_num, rfl, W1.out.1, W1.out.2.1, W1.out.2.2, hK.trans ((Ext.refl _ _).alloc _)⟩
        case measure => simp [intOf]; omega
    · go_wp2
      refine bodyPost_ret (v := .tuple #[.int .i64 (-1), .agg #[.slice none 0 0]]) (by simp [results, Tryz.results156, go_sem, hr0]) rfl (fin_ hQ ⟨none, 0, 0, ?_, Nat.le_refl _, ?_, ?_⟩)
      · rw [conTypeL, HX.out]; rfl
      · rw [conFieldsL, HX.out]; exact ⟨rfl, fun h => absurd h (by omega)⟩
      · exact hK0.setCell (p := ⟨w.heap.size, 0, none⟩) (.inl (Nat.le_refl _)) _

theorem implConAt (a : Option Addr) (n c : Nat) (ds : List DeclL) (D : Nat → Prop) (x : Int) (w : World) (h : DeclsR w D a n ds) (hf : Few ds) (hx1 : -9223372036854775808 ≤ x) (hx2 : x ≤ 9223372036854775807) :
    Calls Tryz.prog 156 #[.slice a n c, .int .i64 x] w fun e w' => ∃ a' m c', e = .returned (.tuple #[.int .i64 (conTypeL ds x), .agg #[.slice a' m c']]) ∧ m ≤ c' ∧
      IntsL w D a' m (conFieldsL ds x) ∧ Keep w w' := by
  by_cases g : -9223372036854775000 ≤ x
  · exact implConAt_mid a n c ds D x w h hf g hx2
  · exact implConAt_low a n c ds D x w h hf hx1 (by omega)
end Go.Proofs.YtkapldpmjkdmcaaGreat
/- arrowOf of the program and of the reference; ConCount, ConType and ArrowOf of both. -/
namespace Go.Proofs.YtkapldpmjkdmcaaGreat
open Go.RowKit

theorem isArrow_off {ds : List DeclL} {f t : Int} {k : Nat} (h : (dAt ds k).cons.length ≠ 0 ∨ ((dAt ds k).from_ == f) = false ∨ ((dAt ds k).to_ == t) = false) : isArrow ds f t k = false := by
  unfold isArrow
  rcases h with h | h | h <;> simp_all
theorem isArrow_on {ds : List DeclL} {f t : Int} {k : Nat} (h : (dAt ds k).cons.length = 0) (h1 : ((dAt ds k).from_ == f) = true) (h2 : ((dAt ds k).to_ == t) = true) : isArrow ds f t k = true := by
  unfold isArrow
  simp_all

set_option maxHeartbeats 1000000 in
theorem implArrowOf0 (a : Option Addr) (n c : Nat) (ds : List DeclL) (D : Nat → Prop) (f t : Int) (w : World) (h : DeclsR w D a n ds) (hn4 : n ≤ 1048576) :
    Calls Tryz.prog 204 #[.slice a n c, .int .i64 f, .int .i64 t] w fun e w' => e = .returned (.int .i64 (arrowL ds f t)) ∧ Keep w w' := by
  refine calls_k fun Q hQ => ?_
  have hlen := h.1
  have HL := Lib.hid hlen
  clear hlen
  go_enter Tryz.func204, Tryz.ntmps204
  go_wp2
  go_loopw [11] (fun i wr => ∃ k : Nat, k ≤ n ∧ i = .int .i64 k ∧ Keep w wr ∧ Hid (∀ j, j < k → isArrow ds f t j = false)) (fun i _ => n - (intOf i).toNat)
  case atStart => exact ⟨0, Nat.zero_le _, rfl, Ext.refl _ _, fun j hj => absurd hj (by omega)⟩
  case round =>
    obtain ⟨k, hk, rfl, hK, H⟩ := hrel
    by_cases hlt : k < n
    · have h1 := h.ext hK (fun _ _ h => h)
      obtain ⟨b, o, rfl, hd, hc⟩ := h1.2 (by omega)
      obtain ⟨c0, c1, a', m, c', c2, hmc, hcons⟩ := hc k (by omega)
      have HM := Lib.hid hcons.1
      clear hc hcons h1 h
      by_cases g0 : m = 0
      · subst g0
        cases g1 : ((dAt ds k).from_ == f)
        · have V := Lib.hid (isArrow_off (ds := ds) (f := f) (t := t) (k := k) (.inr (.inl g1)))
          go_wp2
          go_roundw
          case rel => exact ⟨k + 1, by omega, by go_num, hK.trans ((Ext.refl _ _).alloc _), fun j hj => by
            rcases Nat.lt_succ_iff_lt_or_eq.1 hj with h | rfl
            · exact H.out j h
            · exact V.out⟩
          case measure => simp [intOf]; omega
        · cases g2 : ((dAt ds k).to_ == t)
          · have V := Lib.hid (isArrow_off (ds := ds) (f := f) (t := t) (k := k) (.inr (.inr g2)))
            go_wp2
            go_roundw
            case rel => exact ⟨k + 1, by omega, by go_num, hK.trans ((Ext.refl _ _).alloc _), fun j hj => by
              rcases Nat.lt_succ_iff_lt_or_eq.1 hj with h | rfl
              · exact H.out j h
              · exact V.out⟩
            case measure => simp [intOf]; omega
          · have V := Lib.hid (isArrow_on HM.out g1 g2)
            go_wp2
            exact fin_ hQ ⟨ret_i (by rw [arrowL, firstIx_some (by have := HL.out; omega) V.out H.out]; rfl), hK.trans ((Ext.refl _ _).alloc _)⟩
      · have g0' : ((m : Int) == 0) = false := by simp; omega
        have V := Lib.hid (isArrow_off (ds := ds) (f := f) (t := t) (k := k) (.inl (by rw [HM.out]; exact g0)))
        go_wp2
        go_roundw
        case rel => exact ⟨k + 1, by omega, by go_num, hK.trans ((Ext.refl _ _).alloc _), fun j hj => by
          rcases Nat.lt_succ_iff_lt_or_eq.1 hj with h | rfl
          · exact H.out j h
          · exact V.out⟩
        case measure => simp [intOf]; omega
    · go_wp2
      exact fin_ hQ ⟨ret_i (by rw [arrowL, firstIx_none (fun j hj => H.out j (by have := HL.out; omega))]; rfl), hK⟩

set_option maxHeartbeats 1000000 in
theorem specArrowOf0 (a : Option Addr) (n c : Nat) (ds : List DeclL) (D : Nat → Prop) (f t : Int) (w : World) (h : DeclsR w D a n ds) (hn4 : n ≤ 1048576) :
    Calls Tryz.prog 198 #[.slice a n c, .int .i64 f, .int .i64 t] w fun e w' => e = .returned (.int .i64 (arrowL ds f t)) ∧ w = w' := by
  refine calls_k fun Q hQ => ?_
  have hlen := h.1
  have HL := Lib.hid hlen
  clear hlen
  go_enter Tryz.func198, Tryz.ntmps198
  go_wp2
  go_loop [7] (fun i => ∃ k : Nat, k ≤ n ∧ i = .int .i64 k ∧ Hid (∀ j, j < k → isArrow ds f t j = false)) (fun i => n - (intOf i).toNat)
  case atStart => exact ⟨0, Nat.zero_le _, rfl, fun j hj => absurd hj (by omega)⟩
  case round =>
    obtain ⟨k, hk, rfl, H⟩ := hrel
    by_cases hlt : k < n
    · obtain ⟨b, o, rfl, hd, hc⟩ := h.2 (by omega)
      obtain ⟨c0, c1, a', m, c', c2, hmc, hcons⟩ := hc k (by omega)
      have HM := Lib.hid hcons.1
      clear hc hcons h
      by_cases g0 : m = 0
      · subst g0
        cases g1 : ((dAt ds k).from_ == f)
        · have V := Lib.hid (isArrow_off (ds := ds) (f := f) (t := t) (k := k) (.inr (.inl g1)))
          go_wp2
          go_round
          case rel => exact ⟨k + 1, by omega, by go_num, fun j hj => by
            rcases Nat.lt_succ_iff_lt_or_eq.1 hj with h | rfl
            · exact H.out j h
            · exact V.out⟩
          case measure => simp [intOf]; omega
        · cases g2 : ((dAt ds k).to_ == t)
          · have V := Lib.hid (isArrow_off (ds := ds) (f := f) (t := t) (k := k) (.inr (.inr g2)))
            go_wp2
            go_round
            case rel => exact ⟨k + 1, by omega, by go_num, fun j hj => by
              rcases Nat.lt_succ_iff_lt_or_eq.1 hj with h | rfl
              · exact H.out j h
              · exact V.out⟩
            case measure => simp [intOf]; omega
          · have V := Lib.hid (isArrow_on HM.out g1 g2)
            go_wp2
            exact fin_ hQ ⟨ret_i (by rw [arrowL, firstIx_some (by have := HL.out; omega) V.out H.out]; rfl), rfl⟩
      · have g0' : ((m : Int) == 0) = false := by simp; omega
        have V := Lib.hid (isArrow_off (ds := ds) (f := f) (t := t) (k := k) (.inl (by rw [HM.out]; exact g0)))
        go_wp2
        go_round
        case rel => exact ⟨k + 1, by omega, by go_num, fun j hj => by
          rcases Nat.lt_succ_iff_lt_or_eq.1 hj with h | rfl
          · exact H.out j h
          · exact V.out⟩
        case measure => simp [intOf]; omega
    · go_wp2
      exact fin_ hQ ⟨ret_i (by rw [arrowL, firstIx_none (fun j hj => H.out j (by have := HL.out; omega))]; rfl), rfl⟩

/-- What the six exported functions give. -/
def ifOk (ds : List DeclL) (v : Int) : Int := if typesOk ds = true then v else -1
end Go.Proofs.YtkapldpmjkdmcaaGreat
/- consOf of the program and of the reference: the numbers of the constructors of a type. -/
namespace Go.Proofs.YtkapldpmjkdmcaaGreat
open Go.RowKit

def upFrom (f k : Nat) : List Int := (List.range k).map fun i => ((f + i : Nat) : Int)
theorem upFrom_succ (f k : Nat) : upFrom f (k + 1) = upFrom f k ++ [((f + k : Nat) : Int)] := by simp [upFrom, List.range_succ]
theorem consL_in {ds : List DeclL} {k : Nat} (h : k < ds.length) : consL ds ((k : Int) + 1) = upFrom (firstN ds k) (dAt ds k).cons.length := by
  have e : ((k : Int) + 1).toNat - 1 = k := by omega
  simp only [consL]
  rw [if_pos (by omega), e]
  rfl
theorem consL_out {ds : List DeclL} {t : Int} (h : ¬ (1 ≤ t ∧ t ≤ (ds.length : Int))) : consL ds t = [] := if_neg h

set_option maxHeartbeats 1000000 in
theorem specConsOf0 (a : Option Addr) (n c : Nat) (ds : List DeclL) (D : Nat → Prop) (t : Int) (w : World) (h : DeclsR w D a n ds) (hf : Few ds) :
    Calls Tryz.prog 197 #[.slice a n c, .int .i64 t] w fun e w' => ∃ a' m c', e = .returned (.slice a' m c') ∧ m ≤ c' ∧ OwnInts w' (fun k => w.heap.size ≤ k) a' m (consL ds t) ∧ Keep w w' := by
  refine calls_k fun Q hQ => ?_
  have HL := Lib.hid h.1
  have hn4 : n ≤ 4 := by have := hf.1; have := h.1; omega
  have hK0 : Keep w (w.alloc (.cells #[] 3)) := (Ext.refl _ w).alloc _
  have hown0 : (w.alloc (.cells #[] 3)).ownsRow w.heap.size 3 1 (.slice (some ⟨w.heap.size, 0, none⟩) 0 0) 0 (([] : List Int).map (Value.int .i64)) := World.ownsRow_made w #[] 0 (Nat.le_refl _) (by simp [maxLen]) rfl
  by_cases ht : 1 ≤ t ∧ t ≤ (n : Int)
  · obtain ⟨k, rfl⟩ : ∃ k : Nat, t = (k : Int) + 1 := ⟨(t - 1).toNat, by omega⟩
    have hkn : k < n := by omega
    have hv : decide (1 ≤ (k : Int) + 1 ∧ (k : Int) + 1 ≤ (n : Int)) = true := decide_eq_true ht
    have h1 := h.ext hK0 (fun _ _ h => h)
    obtain ⟨b, o, rfl, hd, hc⟩ := h.2 (by omega)
    obtain ⟨_, _, a', m, c', c2, hmc, hcons⟩ := hc k hkn
    have HM := Lib.hid hcons.1
    have HC : Hid (consL ds ((k : Int) + 1) = upFrom (firstN ds k) m) := by show _ = _; rw [consL_in (by have := HL.out; omega), HM.out]
    have b2 : m ≤ 3 := by have := hf.2 k (by have := HL.out; omega); have := HM.out; omega
    have b1 := firstN_le hf (k := k) (by have := HL.out; omega)
    have HO := Lib.hid hown0
    have C2 := Lib.hid c2
    clear hc hcons ht hown0 c2
    go_enter Tryz.func197, Tryz.ntmps197
    go_wp2_with (go_at_call 60; refine (specInRange _ _ _ _).mono ?_; rintro e w1 ⟨rfl, rfl⟩)
    go_loopw [5, 6] (fun v i wr => ∃ j : Nat, j ≤ m ∧ i = .int .i64 j ∧ Hid (wr.ownsRow w.heap.size 3 1 v j ((upFrom (firstN ds k) j).map (Value.int .i64))) ∧ Keep w wr) (fun _ i _ => m - (intOf i).toNat)
    case atStart => exact ⟨0, Nat.zero_le _, rfl, HO, hK0⟩
    case round =>
      obtain ⟨j, hj, rfl, hown, hK⟩ := hrel
      have hx2 := (hK.cell (World.block_lt_of_cell? _ _ C2.out) (fun h => h)).trans C2.out
      by_cases hlt : j < m
      · have h2 := h.ext hK (fun _ _ h => h)
        have hbs : w.heap.size ≤ wr.heap.size := hK.size
        go_wp2_with (first
          | (go_at_call 196; refine (specFirstCon _ _ _ _ _ _ _ h2 hf (by omega)).mono ?_; rintro e w1 ⟨rfl, rfl⟩)
          | (at_builtin; refine wpList_appInt _ rfl (.tmp 25) (.tmp 32) rfl w.heap.size u5 j (upFrom (firstN ds k) j) rfl (hown.out.alloc _) wr.heap.size 1 ((firstN ds k : Int) + (j : Int)) rfl (by simp [go_sem]) (by omega) (by simp; omega) ?_; intro v' w' ho hg))
        go_roundw
        case rel => exact ⟨j + 1, by omega, by go_num, by
          show World.ownsRow _ _ _ _ _ _ _
          rw [upFrom_succ, Int.natCast_add]; exact ho, (hK.alloc _).grown hg (fun g hg' => .inl (hown.out.lt g hg').1)⟩
        case measure => simp [intOf]; omega
      · have HJ : Hid (j = m) := by show _ = _; omega
        go_wp2
        obtain ⟨a2, cc, rfl, hle, hoi⟩ := own_of_row hown.out
        have := HJ.out
        subst this
        exact fin_ hQ ⟨a2, j, cc, rfl, hle, by rw [HC.out]; exact hoi, hK⟩
  · have hv : decide (1 ≤ t ∧ t ≤ (n : Int)) = false := decide_eq_false ht
    have HC : Hid (consL ds t = []) := by show _ = _; exact consL_out (by rw [HL.out]; exact ht)
    clear ht
    go_enter Tryz.func197, Tryz.ntmps197
    go_wp2_with (go_at_call 60; refine (specInRange _ _ _ _).mono ?_; rintro e w1 ⟨rfl, rfl⟩)
    exact fin_ hQ ⟨_, 0, 0, rfl, Nat.le_refl _, by rw [HC.out]; exact ⟨rfl, fun h => absurd h (by omega)⟩, hK0⟩

set_option maxHeartbeats 1000000 in
theorem implConsOf0 (a : Option Addr) (n c : Nat) (ds : List DeclL) (D : Nat → Prop) (t : Int) (w : World) (h : DeclsR w D a n ds) (hnc : n ≤ c) (hf : Few ds) :
    Calls Tryz.prog 106 #[.slice a n c, .int .i64 t] w fun e w' => ∃ a' m c', e = .returned (.slice a' m c') ∧ m ≤ c' ∧ OwnInts w' (fun k => w.heap.size ≤ k) a' m (consL ds t) ∧ Keep w w' := by
  refine calls_k fun Q hQ => ?_
  have HL := Lib.hid h.1
  have hn4 : n ≤ 4 := by have := hf.1; have := h.1; omega
  by_cases ht1 : t < 1
  · have HC : Hid (consL ds t = []) := by show _ = _; exact consL_out (by omega)
    go_enter Tryz.func106, Tryz.ntmps106
    go_wp2_with fail
    exact fin_ hQ ⟨none, 0, 0, rfl, Nat.le_refl _, by rw [HC.out]; exact ⟨rfl, fun h => absurd h (by omega)⟩, Ext.refl _ _⟩
  by_cases ht2 : (n : Int) < t
  · have HC : Hid (consL ds t = []) := by show _ = _; exact consL_out (by have := HL.out; omega)
    go_enter Tryz.func106, Tryz.ntmps106
    go_wp2_with fail
    exact fin_ hQ ⟨none, 0, 0, rfl, Nat.le_refl _, by rw [HC.out]; exact ⟨rfl, fun h => absurd h (by omega)⟩, Ext.refl _ _⟩
  obtain ⟨k, rfl⟩ : ∃ k : Nat, t = (k : Int) + 1 := ⟨(t - 1).toNat, by omega⟩
  have hkn : k < n := by omega
  obtain ⟨b, o, rfl, hd, hc⟩ := h.2 (by omega)
  obtain ⟨_, _, a', m, c', c2, hmc, hcons⟩ := hc k hkn
  have HM := Lib.hid hcons.1
  have HC : Hid (consL ds ((k : Int) + 1) = upFrom (firstN ds k) m) := by show _ = _; rw [consL_in (by have := HL.out; omega), HM.out]
  have b2 : m ≤ 3 := by have := hf.2 k (by have := HL.out; omega); have := HM.out; omega
  have b1 := firstN_le hf (k := k) (by have := HL.out; omega)
  have htk : DeclsR w D (some ⟨b, o, none⟩) k (ds.take k) := ⟨by have := HL.out; simp; omega, fun _ => ⟨b, o, rfl, hd, fun i hi => by
    have := hc i (by omega)
    rwa [show dAt (ds.take k) i = dAt ds i from by simp [dAt, hi]]⟩⟩
  have hft : Few (ds.take k) := ⟨by have := hf.1; simp; omega, fun i hi => by
    have hi' : i < k := by simp at hi; omega
    rw [show dAt (ds.take k) i = dAt ds i from by simp [dAt, hi']]
    exact hf.2 i (by simp at hi; omega)⟩
  have hcn : Hid (conN (ds.take k) = firstN ds k) := by
    show _ = _
    have hlk : (ds.take k).length = k := by have := HL.out; simp; omega
    rw [conN, hlk]
    have : ∀ j, j ≤ k → firstN (ds.take k) j = firstN ds j := by
      intro j hj
      induction j with
      | zero => rfl
      | succ j ih => simp only [firstN]; rw [ih (by omega), show dAt (ds.take k) j = dAt ds j from by simp [dAt, show j < k by omega]]
    exact this k (Nat.le_refl _)
  have C2 := Lib.hid c2
  clear hc hcons c2
  go_enter Tryz.func106, Tryz.ntmps106
  go_wp2_with fail
  refine (implConCount0 _ _ _ _ _ _ htk hft).mono ?_
  rw [hcn.out]
  rintro e w1 ⟨rfl, hk1⟩
  have c3 := (hk1.cell (World.block_lt_of_cell? _ _ C2.out) (fun h => h)).trans C2.out
  go_wp2_with fail
  go_loopw [6, 28] (fun v i wr => ∃ j : Nat, j ≤ m ∧ i = .int .i64 j ∧ Hid (wr.ownsRow w.heap.size 3 1 v j ((upFrom (firstN ds k) j).map (Value.int .i64))) ∧ Keep w wr) (fun _ i _ => m - (intOf i).toNat)
  case atStart => exact ⟨0, Nat.zero_le _, rfl, World.ownsRow_nil _ _ _ _, hk1⟩
  case round =>
    obtain ⟨j, hj, rfl, hown, hK⟩ := hrel
    by_cases hlt : j < m
    · have hbs : w.heap.size ≤ wr.heap.size := hK.size
      go_wp2_with (at_builtin; refine wpList_appInt _ rfl (.tmp 31) (.tmp 35) rfl w.heap.size u6 j (upFrom (firstN ds k) j) rfl (hown.out.alloc _) wr.heap.size 1 ((firstN ds k : Int) + (j : Int)) rfl (by simp [go_sem]) (by omega) (by simp; omega) ?_; intro v' w' ho hg)
      go_roundw
      case rel => exact ⟨j + 1, by omega, by go_num, by
        show World.ownsRow _ _ _ _ _ _ _
        rw [upFrom_succ, Int.natCast_add]; exact ho, (hK.alloc _).grown hg (fun g hg' => .inl (hown.out.lt g hg').1)⟩
      case measure => simp [intOf]; omega
    · have HJ : Hid (j = m) := by show _ = _; omega
      go_wp2
      obtain ⟨a2, cc, rfl, hle, hoi⟩ := own_of_row hown.out
      have := HJ.out
      subst this
      exact fin_ hQ ⟨a2, j, cc, rfl, hle, by rw [HC.out]; exact hoi, hK⟩
end Go.Proofs.YtkapldpmjkdmcaaGreat
/- copyInts, slices.Clone of integers, conFields, ConFields and ConsOf. -/
namespace Go.Proofs.YtkapldpmjkdmcaaGreat
open Go.RowKit

theorem conTypeL_some {ds : List DeclL} {x : Int} {i : Nat} (h : conIx ds x = some i) : conTypeL ds x = (i : Int) + 1 := by rw [conTypeL, h]; rfl
theorem conTypeL_none {ds : List DeclL} {x : Int} (h : conIx ds x = none) : conTypeL ds x = -1 := by rw [conTypeL, h]; rfl

set_option maxHeartbeats 1000000 in
theorem specConFields0 (a : Option Addr) (n c : Nat) (ds : List DeclL) (D : Nat → Prop) (x : Int) (w : World) (h : DeclsR w D a n ds) (hf : Few ds) :
    Calls Tryz.prog 148 #[.slice a n c, .int .i64 x] w fun e w' => ∃ a' m c', e = .returned (.slice a' m c') ∧ m ≤ c' ∧ IntsL w' (fun k => D k ∨ w.heap.size ≤ k) a' m (conFieldsL ds x) ∧ Keep w w' := by
  refine calls_k fun Q hQ => ?_
  have HL := Lib.hid h.1
  have hn4 : n ≤ 4 := by have := hf.1; have := h.1; omega
  cases hv : conIx ds x with
  | none =>
    have V := Lib.hid (conTypeL_none hv)
    have F : Hid (conFieldsL ds x = []) := by show _ = _; rw [conFieldsL, hv]
    clear hv
    go_enter Tryz.func148, Tryz.ntmps148
    go_wp2_with (go_at_call 146; refine (specConType0 _ _ _ _ _ _ _ h hf).mono ?_; rw [V.out]; rintro e w1 ⟨rfl, rfl⟩)
    exact fin_ hQ ⟨_, 0, 0, rfl, Nat.le_refl _, by rw [F.out]; exact ⟨rfl, fun h => absurd h (by omega)⟩, (Ext.refl _ _).alloc _⟩
  | some k =>
    obtain ⟨q1, q2, _⟩ := firstIx_spec hv
    have V := Lib.hid (conTypeL_some hv)
    have F : Hid (conFieldsL ds x = cAt (dAt ds k).cons (x.toNat - firstN ds k)) := by show _ = _; rw [conFieldsL, hv]
    obtain ⟨g1, g2⟩ := inDecl_iff.1 q2
    obtain ⟨j, hj⟩ := Int.eq_ofNat_of_zero_le g1
    obtain rfl : x = (firstN ds k : Int) + (j : Int) := by omega
    have hkn : k < n := by have := HL.out; omega
    obtain ⟨b, o, rfl, hd, hc⟩ := h.2 (by omega)
    obtain ⟨_, _, a', m, c', c2, hmc, hcons⟩ := hc k hkn
    have HM := hcons.1
    obtain ⟨b1', o1, rfl, hd1, hc1⟩ := hcons.2 (by omega)
    obtain ⟨a2, m2, c2', x0, hmc2, hints⟩ := hc1 j (by omega)
    have hjm : j < m := by omega
    have b1 := firstN_le hf (k := k) (by have := HL.out; omega)
    have hcl := hf.2 k (by have := HL.out; omega)
    have b3 : m ≤ 3 := by omega
    have HI := Lib.hid hints
    clear hc hcons hc1 hints hv q2 g1 g2 hj HM hcl
    go_enter Tryz.func148, Tryz.ntmps148
    go_wp2_with (go_at_call 146; refine (specConType0 _ _ _ _ _ _ _ h hf).mono ?_; rw [V.out]; rintro e w1 ⟨rfl, rfl⟩)
    have e1 : IntKind.i64.wrap ((k : Int) + 1 - 1) = (k : Int) := by rw [show (k : Int) + 1 - 1 = (k : Int) by omega]; exact IntWalk.i64_in _ (by omega)
    have e3 : IntKind.i64.wrap (k : Int) = (k : Int) := IntWalk.i64_in _ (by omega)
    have e4 : IntKind.i64.wrap (j : Int) = (j : Int) := IntWalk.i64_in _ (by omega)
    have e2 : IntKind.i64.wrap ((firstN ds k : Int) + (j : Int) - (firstN ds k : Int)) = (j : Int) := by rw [show (firstN ds k : Int) + (j : Int) - (firstN ds k : Int) = (j : Int) by omega]; exact IntWalk.i64_in _ (by omega)
    go_quiet ((go_at_call 196; exact Calls.quiet_of_same ((specFirstCon _ _ _ _ _ _ _ (h.drewN _) hf (by omega)).mono fun _ _ q => ⟨q.1, q.2.symm⟩)))
    clear e1 e2 e3 e4
    go_wp2
    refine fin_ hQ ⟨a2, m2, c2', rfl, hmc2, ?_, (Ext.refl _ _).drewN nq⟩
    rw [F.out, show ((firstN ds k : Int) + (j : Int)).toNat - firstN ds k = j by omega]
    exact (HI.out.drewN nq).mono (fun _ h => .inl h)
end Go.Proofs.YtkapldpmjkdmcaaGreat
