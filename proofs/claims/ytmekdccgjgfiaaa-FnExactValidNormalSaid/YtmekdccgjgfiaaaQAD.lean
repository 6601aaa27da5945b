/- validDecl and validTypes of the reference. -/
import Derived.Test.YtmekdccgjgfiaaaQAC
namespace Go.Proofs.Ytmekdccgjgfiaaa
open Go.RowKit

theorem conOk_parts {n : Nat} {c : List Int} : conOk n c = true ↔ c.length ≤ 3 ∧ allT n c = true := by simp [conOk]

set_option maxHeartbeats 1000000 in
theorem specValidDecl (a : Option Addr) (n c : Nat) (ds : List DeclL) (D : Nat → Prop) (k : Nat) (w : World) (h : DeclsR w D a n ds) (hk : k < n) (hn : n ≤ 1099511627776) :
    Calls Try.prog 81 #[.slice a n c, .int .i64 k] w fun e w' => e = .returned (.bool (declOk ds k)) ∧ Keep w w' := by
  refine calls_k fun Q hQ => ?_
  obtain ⟨hlen, hcell⟩ := h
  obtain ⟨b, o, rfl, hd, hc⟩ := hcell (by omega)
  obtain ⟨c0, c1, a', m, c', c2, hmc, hcons⟩ := hc k hk
  have hml := hcons.1
  have hK : Keep w (w.alloc (.cells #[.int .i64 (dAt ds k).from_, .int .i64 (dAt ds k).to_, .slice a' m c'] 93)) := (Ext.refl _ w).alloc _
  by_cases hm : 0 < m
  · by_cases h1 : m ≤ 3
    · by_cases h2 : (dAt ds k).from_ = 0
      · by_cases h3 : (dAt ds k).to_ = 0
        · have hfin : Hid (declOk ds k = (dAt ds k).cons.all (conOk n)) := by
            show _ = _
            unfold declOk
            rw [if_pos (by omega), hlen]
            simp [h2, h3, hml, h1]
          have hcons1 := hcons.ext hK (fun _ _ h => h)
          rw [h2, h3] at hcons1 hK
          rw [h2] at c0
          rw [h3] at c1
          clear hc hcell hcons
          go_enter Try.func81, Try.ntmps81
          go_wp2
          go_loop [6] (fun i => ∃ j : Nat, j ≤ m ∧ i = .int .i64 j ∧ Hid (∀ l, l < j → conOk n (cAt (dAt ds k).cons l) = true)) (fun i => m - (intOf i).toNat)
          case atStart => exact ⟨0, Nat.zero_le _, rfl, fun j hj => absurd hj (by omega)⟩
          case round =>
            obtain ⟨j, hj, rfl, H⟩ := hrel
            obtain ⟨_, hcell⟩ := hcons1
            by_cases hlt : j < m
            · obtain ⟨b1, o1, rfl, hd1, hc1⟩ := hcell (by omega)
              obtain ⟨a2, m2, c2', x0, hmc2, hints⟩ := hc1 j hlt
              have hl2 := hints.1
              clear hc1 hcell
              by_cases g1 : m2 ≤ 3
              · cases hv : allT n (cAt (dAt ds k).cons j)
                · have V := Lib.hid hv
                  go_wp2_with (go_at_call 21; refine (specAllTypes _ _ _ _ _ _ _ _ _ hints (by omega)).mono ?_; rw [V.out]; rintro e w1 ⟨rfl, rfl⟩)
                  exact fin_ hQ ⟨ret_b (by rw [hfin.out, cAll_false (i := j) (by omega) (by simp [conOk, V.out])]), hK⟩
                · have V := Lib.hid hv
                  go_wp2_with (go_at_call 21; refine (specAllTypes _ _ _ _ _ _ _ _ _ hints (by omega)).mono ?_; rw [V.out]; rintro e w1 ⟨rfl, rfl⟩)
                  go_round
                  case rel => exact ⟨j + 1, by omega, by go_num, fun l hl => by
                    rcases Nat.lt_succ_iff_lt_or_eq.1 hl with h | rfl
                    · exact H.out l h
                    · exact conOk_parts.2 ⟨by omega, V.out⟩⟩
                  case measure => simp [intOf]; omega
              · go_wp2_with fail
                exact fin_ hQ ⟨ret_b (by rw [hfin.out, cAll_false (i := j) (by omega) (by simp [conOk]; omega)]), hK⟩
            · go_wp2
              exact fin_ hQ ⟨ret_b (by rw [hfin.out]; exact (cAll.2 (fun l hl => H.out l (by omega))).symm), hK⟩
        · have hfin : Hid (declOk ds k = false) := by
            show _ = _
            unfold declOk
            rw [if_pos (by omega)]
            simp [h3]
          have h3' : ((dAt ds k).to_ != 0) = true := by simp [h3]
          have h2' : ((dAt ds k).from_ != 0) = false := by simp [h2]
          clear hc hcell hcons h2 h3
          go_enter Try.func81, Try.ntmps81
          go_wp2
          exact fin_ hQ ⟨ret_b hfin.out.symm, hK⟩
      · have hfin : Hid (declOk ds k = false) := by
          show _ = _
          unfold declOk
          rw [if_pos (by omega)]
          simp [h2]
        have h2' : ((dAt ds k).from_ != 0) = true := by simp [h2]
        clear hc hcell hcons h2
        go_enter Try.func81, Try.ntmps81
        go_wp2
        exact fin_ hQ ⟨ret_b hfin.out.symm, hK⟩
    · have hfin : Hid (declOk ds k = false) := by
        show _ = _
        unfold declOk
        rw [if_pos (by omega)]
        simp
        omega
      clear hc hcell hcons
      go_enter Try.func81, Try.ntmps81
      go_wp2
      exact fin_ hQ ⟨ret_b hfin.out.symm, hK⟩
  · have hm0 : m = 0 := by omega
    subst hm0
    have hfin : Hid (declOk ds k = (isT n (dAt ds k).from_ && isT n (dAt ds k).to_ && (List.range k).all fun i => !sameArrow (dAt ds i) (dAt ds k))) := by
      show _ = _
      unfold declOk
      rw [if_neg (by omega), hlen]
    have hc1 : ∀ i, i < n → ∃ a2 m2 c2, (w.alloc (.cells #[.int .i64 (dAt ds k).from_, .int .i64 (dAt ds k).to_, .slice a' 0 c'] 93)).cell? ⟨b, o + i * 3, none⟩ = some (.int .i64 (dAt ds i).from_) ∧
        (w.alloc (.cells #[.int .i64 (dAt ds k).from_, .int .i64 (dAt ds k).to_, .slice a' 0 c'] 93)).cell? ⟨b, o + i * 3 + 1, none⟩ = some (.int .i64 (dAt ds i).to_) ∧
        (w.alloc (.cells #[.int .i64 (dAt ds k).from_, .int .i64 (dAt ds k).to_, .slice a' 0 c'] 93)).cell? ⟨b, o + i * 3 + 2, none⟩ = some (.slice a2 m2 c2) ∧ (dAt ds i).cons.length = m2 := by
      intro i hi
      obtain ⟨e0, e1, a2, m2, c2, e2, _, e3⟩ := hc i hi
      exact ⟨a2, m2, c2, (hK.cell (World.block_lt_of_cell? w _ e0) (fun h => h)).trans e0, (hK.cell (World.block_lt_of_cell? w _ e1) (fun h => h)).trans e1,
        (hK.cell (World.block_lt_of_cell? w _ e2) (fun h => h)).trans e2, e3.1⟩
    generalize hF : (dAt ds k).from_ = F at *
    generalize hT : (dAt ds k).to_ = T at *
    have HF := Lib.hid hF
    have HT := Lib.hid hT
    have HM := Lib.hid hml
    clear hc hcell hcons hF hT hml
    go_enter Try.func81, Try.ntmps81
    go_wp2
    go_loopw [7] (fun i wr => ∃ j q : Nat, j ≤ k ∧ i = .int .i64 j ∧ wr = (w.alloc (.cells #[.int .i64 F, .int .i64 T, .slice a' 0 c'] 93)).drewN q ∧ Hid (∀ l, l < j → sameArrow (dAt ds l) (dAt ds k) = false)) (fun i _ => k - (intOf i).toNat)
    case atStart => exact ⟨0, 0, Nat.zero_le _, rfl, rfl, fun j hj => absurd hj (by omega)⟩
    case round =>
      obtain ⟨j, q, hj, rfl, rfl, H⟩ := hrel
      by_cases hlt : j < k
      · obtain ⟨a2, m2, c2, e0, e1, e2, e3⟩ := hc1 j (by omega)
        have E3 := Lib.hid e3
        clear e3 hc1
        by_cases g0 : m2 = 0
        · subst g0
          cases g1 : ((dAt ds j).from_ == F)
          · have hs : Hid (sameArrow (dAt ds j) (dAt ds k) = false) := by
              show _ = _
              simp only [sameArrow, HF.out]
              simp only [beq_eq_false_iff_ne] at g1
              simp [g1]
            go_wp2
            go_quiet (fail)
            go_wp2
            go_roundw
            case rel => exact ⟨j + 1, q + nq, by omega, by go_num, by rfl, fun l hl => by
              rcases Nat.lt_succ_iff_lt_or_eq.1 hl with h | rfl
              · exact H.out l h
              · exact hs.out⟩
            case measure => simp [intOf]; omega
          · cases g2 : ((dAt ds j).to_ == T)
            · have hs : Hid (sameArrow (dAt ds j) (dAt ds k) = false) := by
                show _ = _
                simp only [sameArrow, HT.out]
                simp only [beq_eq_false_iff_ne] at g2
                simp [g2]
              go_wp2
              go_quiet (fail)
              go_wp2
              go_roundw
              case rel => exact ⟨j + 1, q + nq, by omega, by go_num, by rfl, fun l hl => by
                rcases Nat.lt_succ_iff_lt_or_eq.1 hl with h | rfl
                · exact H.out l h
                · exact hs.out⟩
              case measure => simp [intOf]; omega
            · have hs : Hid (sameArrow (dAt ds j) (dAt ds k) = true) := by
                show _ = _
                simp only [sameArrow, HF.out, HT.out]
                simp only [beq_iff_eq] at g1 g2
                simp [g1, g2]
                exact List.eq_nil_of_length_eq_zero E3.out
              go_wp2
              go_quiet (fail)
              go_wp2
              exact fin_ hQ ⟨ret_b (by rw [hfin.out, nAll_false hlt (by simp [hs.out])]; simp), (hK.drewN q).drewN nq⟩
        · have g0' : ((m2 : Int) == 0) = false := by simp; omega
          have hs : Hid (sameArrow (dAt ds j) (dAt ds k) = false) := by
            show _ = _
            simp only [sameArrow, E3.out]
            simp [g0]
          go_wp2
          go_quiet (fail)
          go_wp2
          go_roundw
          case rel => exact ⟨j + 1, q + nq, by omega, by go_num, by rfl, fun l hl => by
            rcases Nat.lt_succ_iff_lt_or_eq.1 hl with h | rfl
            · exact H.out l h
            · exact hs.out⟩
          case measure => simp [intOf]; omega
      · have hall : Hid ((List.range k).all (fun i => !sameArrow (dAt ds i) (dAt ds k)) = true) := by
          show _ = _
          exact nAll.2 (fun l hl => by simp [H.out l (by omega)])
        clear hc1
        cases v1 : isT n F
        · have d1 : decide (0 ≤ F ∧ F ≤ (n : Int)) = false := v1
          have V1 := Lib.hid v1
          clear v1
          go_wp2_with (go_at_call 41; refine (specInRange _ _ _ _).mono ?_; rintro e w1 ⟨rfl, rfl⟩)
          exact fin_ hQ ⟨ret_b (by rw [hfin.out, V1.out]; simp), hK.drewN q⟩
        · have d1 : decide (0 ≤ F ∧ F ≤ (n : Int)) = true := v1
          have V1 := Lib.hid v1
          clear v1
          go_wp2_with (go_at_call 41; refine (specInRange _ _ _ _).mono ?_; rintro e w1 ⟨rfl, rfl⟩)
          exact fin_ hQ ⟨ret_b (by rw [hfin.out, V1.out, hall.out]; simp [isT]), hK.drewN q⟩
end Go.Proofs.Ytmekdccgjgfiaaa
/- validTypes and ValidTypes of the reference. -/
namespace Go.Proofs.Ytmekdccgjgfiaaa
open Go.RowKit

set_option maxHeartbeats 1000000 in
theorem specValidTypes0 (a : Option Addr) (n c : Nat) (ds : List DeclL) (D : Nat → Prop) (w : World) (h : DeclsR w D a n ds) (hn : n ≤ 1099511627776) :
    Calls Try.prog 61 #[.slice a n c] w fun e w' => e = .returned (.bool (typesOk ds)) ∧ Keep w w' := by
  refine calls_k fun Q hQ => ?_
  have hlen := h.1
  by_cases h4 : n ≤ 4
  · have hfin : Hid (typesOk ds = (List.range n).all (declOk ds)) := by
      show _ = _
      simp [typesOk, hlen, h4]
    go_enter Try.func61, Try.ntmps61
    go_wp2
    go_loopw [3] (fun i wr => ∃ j : Nat, j ≤ n ∧ i = .int .i64 j ∧ Keep w wr ∧ Hid (∀ l, l < j → declOk ds l = true)) (fun i _ => n - (intOf i).toNat)
    case atStart => exact ⟨0, Nat.zero_le _, rfl, Ext.refl _ _, fun j hj => absurd hj (by omega)⟩
    case round =>
      obtain ⟨j, hj, rfl, hK, H⟩ := hrel
      by_cases hlt : j < n
      · have h1 := h.ext hK (fun _ _ h => h)
        cases hv : declOk ds j
        · have V := Lib.hid hv
          go_wp2_with (go_at_call 81; refine (specValidDecl _ _ _ _ _ _ _ h1 (by omega) (by omega)).mono ?_; rw [V.out]; rintro e w1 ⟨rfl, hk1⟩)
          exact fin_ hQ ⟨ret_b (by rw [hfin.out, nAll_false hlt V.out]), hK.trans hk1⟩
        · have V := Lib.hid hv
          go_wp2_with (go_at_call 81; refine (specValidDecl _ _ _ _ _ _ _ h1 (by omega) (by omega)).mono ?_; rw [V.out]; rintro e w1 ⟨rfl, hk1⟩)
          go_roundw
          case rel => exact ⟨j + 1, by omega, by go_num, hK.trans hk1, fun l hl => by
            rcases Nat.lt_succ_iff_lt_or_eq.1 hl with h | rfl
            · exact H.out l h
            · exact V.out⟩
          case measure => simp [intOf]; omega
      · go_wp2
        exact fin_ hQ ⟨ret_b (by rw [hfin.out]; exact (nAll.2 (fun l hl => H.out l (by omega))).symm), hK⟩
  · have hfin : Hid (typesOk ds = false) := by
      show _ = _
      simp [typesOk, hlen, h4]
    go_enter Try.func61, Try.ntmps61
    go_wp2
    exact fin_ hQ ⟨ret_b hfin.out.symm, Ext.refl _ _⟩

end Go.Proofs.Ytmekdccgjgfiaaa
