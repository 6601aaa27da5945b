/- slices.Concat of two slices of integers. -/
import Derived.Test.YtbknmljfnjlieaaShelf
import Derived.Test.YtbknmljfnjlieaaAppV
import Derived.Test.YtbknmljfnjlieaaGA
namespace Go.Proofs.Ytbknmljfnjlieaa
open Go.RowKit

theorem growNil (n : Nat) (w : World) (hn : n ≤ 4000000) :
    Calls Try.prog 156 #[.slice none 0 0, .int .i64 (n : Int)] w fun e w' => ∃ v, e = .returned v ∧ VR w' w.heap.size v [] ∧ Keep w w' := by
  rcases Nat.eq_zero_or_pos n with h0 | h0
  · subst h0
    refine (Try.slices_Grow_zero w).mono ?_
    rintro e w' ⟨rfl, rfl⟩
    exact ⟨_, rfl, World.ownsRow_nil _ _ _ _, Ext.refl _ _⟩
  · obtain ⟨i, hi, hzz⟩ := Option.map_eq_some_iff.1 (show (Try.prog.info? 3).map (fun i => (i.zero, i.size, i.bytes)) = some (some (.int .i64 0), 1, 8) by kernel_rfl)
    simp only [Prod.mk.injEq] at hzz
    obtain ⟨hz, hsize, hby⟩ := hzz
    refine (Try.slices_Grow_nil i (.int .i64 0) hi hz (by omega) n w (by omega) (by rw [hby]; omega) (by omega)).mono ?_
    rintro e w' ⟨rfl, rfl⟩
    refine ⟨_, rfl, ?_, (Ext.refl _ w).drew.trans (Keep.al _ _)⟩
    refine World.ownsRow_made (w := w.drew) _ _ (Nat.le_refl _) ?_ ?_
    · exact grownCap_le_maxLen _ _ _ _ (by simp [maxLen]; omega)
    · have h5 := grownCap_ge w (0 + n) 0 3
      simp only [Nat.zero_add] at h5
      simp [Builtin.zeroCells, Value.cells]
      omega

set_option maxHeartbeats 2000000 in
theorem concatTwo (g cc : Nat) (a : Option Addr) (n c : Nat) (xs : List Int) (D : Nat → Prop) (a' : Option Addr) (n' c' : Nat) (ys : List Int) (D' : Nat → Prop) (w : World) (h0 : w.cell? ⟨g, 0, none⟩ = some (.slice a n c)) (h1 : w.cell? ⟨g, 1, none⟩ = some (.slice a' n' c')) (hx : IntsL w D a n xs) (hy : IntsL w D' a' n' ys) (hn : n ≤ 1049576) (hn' : n' ≤ 1049576) :
    Calls Try.prog 136 #[.slice (some ⟨g, 0, none⟩) 2 cc] w fun e w' => ∃ v, e = .returned v ∧ VR w' w.heap.size v (xs ++ ys) ∧ Keep w w' := by
  refine calls_k fun Q hQ => ?_
  have HX := Lib.hid hx
  have HY := Lib.hid hy
  clear hx hy
  go_enter Try.func136, Try.ntmps136
  go_wp2_with fail
  go_loop [3, 11] (fun sv iv => (iv = .int .i64 (0 : Nat) ∧ sv = .int .i64 (0 : Nat)) ∨ (iv = .int .i64 (1 : Nat) ∧ sv = .int .i64 (n : Nat)) ∨ (iv = .int .i64 (2 : Nat) ∧ sv = .int .i64 ((n + n' : Nat) : Int))) (fun _ iv => 2 - (intOf iv).toNat)
  case atStart => exact .inl ⟨rfl, rfl⟩
  case round =>
    rcases hrel with ⟨rfl, rfl⟩ | ⟨rfl, rfl⟩ | ⟨rfl, rfl⟩
    · go_wp2_with fail
      go_round
      case rel => exact .inr (.inl ⟨by go_num, by go_num⟩)
      case measure => simp [intOf]
    · go_wp2_with fail
      go_round
      case rel => exact .inr (.inr ⟨by go_num, by go_num⟩)
      case measure => simp [intOf]
    · go_wp2_with fail
      refine (growNil (n + n') w (by omega)).mono ?_
      rintro e w1 ⟨v, rfl, hv, p1⟩
      have HV := Lib.hid hv
      have P1 := Lib.hid p1
      clear hv
      go_wp2_with fail
      have G0 := Lib.hid h0
      have G1 := Lib.hid h1
      go_loopw [6, 27] (fun v iv wr => ((iv = .int .i64 (0 : Nat) ∧ Hid (VR wr w.heap.size v [])) ∨ (iv = .int .i64 (1 : Nat) ∧ Hid (VR wr w.heap.size v xs)) ∨ (iv = .int .i64 (2 : Nat) ∧ Hid (VR wr w.heap.size v (xs ++ ys)))) ∧ Hid (Keep w wr)) (fun _ iv _ => 2 - (intOf iv).toNat)
      case atStart => exact ⟨.inl ⟨rfl, HV⟩, P1⟩
      case round =>
        obtain ⟨hr, hK⟩ := hrel
        clear h0 h1
        have k0 := (hK.out.cell (World.block_lt_of_cell? _ _ G0.out) (fun h => h)).trans G0.out
        have k1 := (hK.out.cell (World.block_lt_of_cell? _ _ G1.out) (fun h => h)).trans G1.out
        have hbs : w.heap.size ≤ wr.heap.size := hK.out.size
        rcases hr with ⟨rfl, hv⟩ | ⟨rfl, hv⟩ | ⟨rfl, hv⟩
        · have hx2 := HX.out.ext hK.out (fun _ _ h => h)
          go_wp2_with (at_builtin; refine wpList_appInts _ rfl (.tmp 31) (.tmp 32) rfl w.heap.size u6 0 [] rfl hv.out a n c xs D rfl hx2 (by omega) (by omega) ?_; intro v' w' ho hg)
          have hv2 : Hid (VR w' w.heap.size v' xs) := by have h := ho; have hl := HX.out.1; show VR _ _ _ _; rw [VR, hl]; simpa using h
          have hK2 := Lib.hid (hK.out.grown hg (fun q hq => .inl (hv.out.lt q hq).1))
          go_roundw
          case rel => exact ⟨.inr (.inl ⟨by go_num, hv2⟩), hK2⟩
          case measure => simp [intOf]
        · have hx2 := HY.out.ext hK.out (fun _ _ h => h)
          have hxl : xs.length ≤ 1049576 := by have := HX.out.1; omega
          go_wp2_with (at_builtin; refine wpList_appInts _ rfl (.tmp 31) (.tmp 32) rfl w.heap.size u6 xs.length xs rfl hv.out a' n' c' ys D' rfl hx2 (by omega) (by omega) ?_; intro v' w' ho hg)
          have hv2 : Hid (VR w' w.heap.size v' (xs ++ ys)) := by have h := ho; have hl := HY.out.1; show VR _ _ _ _; rw [VR, List.length_append, hl]; exact h
          have hK2 := Lib.hid (hK.out.grown hg (fun q hq => .inl (hv.out.lt q hq).1))
          go_roundw
          case rel => exact ⟨.inr (.inr ⟨by go_num, hv2⟩), hK2⟩
          case measure => simp [intOf]
        · go_wp2_with fail
          exact fin_ hQ ⟨_, rfl, hv.out, hK.out⟩
end Go.Proofs.Ytbknmljfnjlieaa
