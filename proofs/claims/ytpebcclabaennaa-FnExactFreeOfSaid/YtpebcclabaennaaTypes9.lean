/- copyInts, slices.Clone of integers, conFields, ConFields and ConsOf. -/
import Derived.Test.YtpebcclabaennaaTypes7
import Derived.Test.YtpebcclabaennaaTypes8
namespace Go.Proofs.Ytpebcclabaennaa
open Go.RowKit

theorem ownEmpty (w : World) : (w.alloc (.cells #[] 3)).ownsRow w.heap.size 3 1 (.slice (some ⟨w.heap.size, 0, none⟩) 0 0) 0 (([] : List Int).map (Value.int .i64)) :=
  World.ownsRow_made w #[] 0 (Nat.le_refl _) (by simp [maxLen]) rfl

theorem copyInts_any (A : Option Addr) (m c : Nat) (ys : List Int) (D : Nat → Prop) (w : World) (h : IntsL w D A m ys) (hm : m ≤ 1099511627776) :
    Calls Try.prog 149 #[.slice A m c] w fun e w' => ∃ a' c', e = .returned (.slice a' m c') ∧ m ≤ c' ∧ OwnInts w' (fun k => w.heap.size ≤ k) a' m ys ∧ Keep w w' := by
  refine calls_k fun Q hQ => ?_
  have HO := Lib.hid (ownEmpty w)
  have hK : Keep w (w.alloc (.cells #[] 3)) := (Ext.refl _ w).alloc _
  have h1 := h.ext hK (fun _ _ h => h)
  go_enter Try.func149, Try.ntmps149
  go_wp2_with (at_builtin; refine wpList_appInts _ rfl (.tmp 3) (.tmp 4) rfl w.heap.size (.slice (some ⟨w.heap.size, 0, none⟩) 0 0) 0 [] rfl HO.out A m c ys D rfl h1 (by omega) (by simp) ?_; intro v' w' ho hg)
  obtain ⟨a2, cc, rfl, hle, hoi⟩ := own_of_row ho
  simp only [Nat.zero_add, List.nil_append] at hoi hle
  have hk : Keep w w' := hK.grown hg (fun g hg' => .inl (HO.out.lt g hg').1)
  rw [Nat.zero_add]
  exact fin_ hQ ⟨a2, cc, rfl, hle, hoi, hk⟩

theorem clone_any (A : Option Addr) (m c : Nat) (ys : List Int) (D : Nat → Prop) (w : World) (h : IntsL w D A m ys) (hm : m ≤ 1099511627776) :
    Calls Try.prog 98 #[.slice A m c] w fun e w' => ∃ a' c', e = .returned (.slice a' m c') ∧ m ≤ c' ∧ OwnInts w' (fun k => w.heap.size ≤ k) a' m ys ∧ Keep w w' := by
  refine calls_k fun Q hQ => ?_
  have hnil := fun (wx : World) => Lib.run_eql_slice_nil (P := Try.prog) wx 62 3 A m c 0 0 Try.underlying62
  rcases A with _ | x
  · have hm0 : m = 0 := by
      rcases Nat.eq_zero_or_pos m with h0 | h0
      · exact h0
      · obtain ⟨b, o, h1, _⟩ := h.2 h0; cases h1
    subst hm0
    have hy := h.1
    go_enter Try.func98, Try.ntmps98
    go_wp2_with fail
    exact fin_ hQ ⟨none, 0, rfl, Nat.le_refl _, ⟨hy, fun h => absurd h (by omega)⟩, Ext.refl _ _⟩
  have HO := Lib.hid (ownEmpty w)
  have hK : Keep w (w.alloc (.cells #[] 3)) := (Ext.refl _ w).alloc _
  have h1 := h.ext hK (fun _ _ h => h)
  go_enter Try.func98, Try.ntmps98
  go_wp2_with (at_builtin; refine wpList_appInts _ rfl (.tmp 5) (.tmp 6) rfl w.heap.size (.slice (some ⟨w.heap.size, 0, none⟩) 0 0) 0 [] rfl HO.out (some x) m c ys D rfl h1 (by omega) (by simp) ?_; intro v' w' ho hg)
  obtain ⟨a2, cc, rfl, hle, hoi⟩ := own_of_row ho
  simp only [Nat.zero_add, List.nil_append] at hoi hle
  have hk : Keep w w' := hK.grown hg (fun g hg' => .inl (HO.out.lt g hg').1)
  rw [Nat.zero_add]
  exact fin_ hQ ⟨a2, cc, rfl, hle, hoi, hk⟩

theorem conTypeL_some {ds : List DeclL} {x : Int} {i : Nat} (h : conIx ds x = some i) : conTypeL ds x = (i : Int) + 1 := by rw [conTypeL, h]; rfl
theorem conTypeL_none {ds : List DeclL} {x : Int} (h : conIx ds x = none) : conTypeL ds x = -1 := by rw [conTypeL, h]; rfl

set_option maxHeartbeats 1000000 in
theorem specConFields0 (a : Option Addr) (n c : Nat) (ds : List DeclL) (D : Nat → Prop) (x : Int) (w : World) (h : DeclsR w D a n ds) (hf : Few ds) :
    Calls Try.prog 135 #[.slice a n c, .int .i64 x] w fun e w' => ∃ a' m c', e = .returned (.slice a' m c') ∧ m ≤ c' ∧ IntsL w' (fun k => D k ∨ w.heap.size ≤ k) a' m (conFieldsL ds x) ∧ Keep w w' := by
  refine calls_k fun Q hQ => ?_
  have HL := Lib.hid h.1
  have hn4 : n ≤ 4 := by have := hf.1; have := h.1; omega
  cases hv : conIx ds x with
  | none =>
    have V := Lib.hid (conTypeL_none hv)
    have F : Hid (conFieldsL ds x = []) := by show _ = _; rw [conFieldsL, hv]
    clear hv
    go_enter Try.func135, Try.ntmps135
    go_wp2_with (go_at_call 133; refine (specConType0 _ _ _ _ _ _ _ h hf).mono ?_; rw [V.out]; rintro e w1 ⟨rfl, rfl⟩)
    exact fin_ hQ ⟨_, 0, 0, rfl, Nat.le_refl _, by rw [F.out]; exact ⟨rfl, fun h => absurd h (by omega)⟩, (Ext.refl _ _).alloc _⟩
  | some k =>
    obtain ⟨q1, q2, _⟩ := firstIx_spec hv
    have V := Lib.hid (conTypeL_some hv)
    have F : Hid (conFieldsL ds x = cAt (dAt ds k).cons (x.toNat - firstN ds k)) := by show _ = _; rw [conFieldsL, hv]
    obtain ⟨g1, g2⟩ := inDecl_iff.1 q2
    obtain ⟨j, hj⟩ := Int.eq_ofNat_of_zero_le g1
    obtain rfl : x = (firstN ds k : Int) + (j : Int) := by omega
    have hkn : k < n := by have := HL.out; omega
    obtain ⟨b, o, rfl, hd, hc⟩ := h.2 (by omega)
    obtain ⟨_, _, a', m, c', c2, hmc, hcons⟩ := hc k hkn
    have HM := hcons.1
    obtain ⟨b1', o1, rfl, hd1, hc1⟩ := hcons.2 (by omega)
    obtain ⟨a2, m2, c2', x0, hmc2, hints⟩ := hc1 j (by omega)
    have hjm : j < m := by omega
    have b1 := firstN_le hf (k := k) (by have := HL.out; omega)
    have hcl := hf.2 k (by have := HL.out; omega)
    have b3 : m ≤ 3 := by omega
    have HI := Lib.hid hints
    clear hc hcons hc1 hints hv q2 g1 g2 hj HM hcl
    go_enter Try.func135, Try.ntmps135
    go_wp2_with (go_at_call 133; refine (specConType0 _ _ _ _ _ _ _ h hf).mono ?_; rw [V.out]; rintro e w1 ⟨rfl, rfl⟩)
    have e1 : IntKind.i64.wrap ((k : Int) + 1 - 1) = (k : Int) := by rw [show (k : Int) + 1 - 1 = (k : Int) by omega]; exact IntWalk.i64_in _ (by omega)
    have e3 : IntKind.i64.wrap (k : Int) = (k : Int) := IntWalk.i64_in _ (by omega)
    have e4 : IntKind.i64.wrap (j : Int) = (j : Int) := IntWalk.i64_in _ (by omega)
    have e2 : IntKind.i64.wrap ((firstN ds k : Int) + (j : Int) - (firstN ds k : Int)) = (j : Int) := by rw [show (firstN ds k : Int) + (j : Int) - (firstN ds k : Int) = (j : Int) by omega]; exact IntWalk.i64_in _ (by omega)
    go_quiet ((go_at_call 176; exact Calls.quiet_of_same ((specFirstCon _ _ _ _ _ _ _ (h.drewN _) hf (by omega)).mono fun _ _ q => ⟨q.1, q.2.symm⟩)))
    clear e1 e2 e3 e4
    go_wp2
    refine fin_ hQ ⟨a2, m2, c2', rfl, hmc2, ?_, (Ext.refl _ _).drewN nq⟩
    rw [F.out, show ((firstN ds k : Int) + (j : Int)).toNat - firstN ds k = j by omega]
    exact (HI.out.drewN nq).mono (fun _ h => .inl h)
end Go.Proofs.Ytpebcclabaennaa
