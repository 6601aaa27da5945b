/- The program's types of expressions: helpers. -/
import Derived.Test.YtaeddcnakilnlaaWTyS4
import Derived.Test.YtaeddcnakilnlaaShelf
import Derived.Test.YtaeddcnakilnlaaMGB
namespace Go.Proofs.Ytaeddcnakilnlaa
open Go.RowKit

theorem equalInts (a : Option Addr) (n c : Nat) (xs : List Int) (D : Nat → Prop) (a' : Option Addr) (n' c' : Nat) (ys : List Int) (D' : Nat → Prop) (w : World) (h : IntsL w D a n xs) (h' : IntsL w D' a' n' ys) (hn : n ≤ 4000000) (hn' : n' ≤ 4000000) :
    Calls Try.prog 164 #[.slice a n c, .slice a' n' c'] w fun e w' => e = .returned (.bool (decide (xs = ys))) ∧ Keep w w' := by
  have h1 := h.1
  have h2 := h'.1
  by_cases he : n = n'
  · rcases Nat.eq_zero_or_pos n with h0 | h0
    · subst he
      subst h0
      refine (Try.slices_Equal_int_empty a a' c 0 c' w (by omega)).mono ?_
      rintro e w' ⟨rfl, rfl⟩
      have e1 : xs = [] := List.eq_nil_of_length_eq_zero h1
      have e2 : ys = [] := List.eq_nil_of_length_eq_zero h2
      exact ⟨by simp [e1, e2], Ext.refl _ _⟩
    · obtain ⟨b1, o1, rfl, _, hc1⟩ := h.2 h0
      obtain ⟨b2, o2, rfl, _, hc2⟩ := h'.2 (by omega)
      refine (Try.slices_Equal_int b1 o1 n c b2 o2 n' c' xs ys w (by omega) (by omega) (by omega) (by omega) (fun j hj => hc1 j (by omega)) (fun j hj => hc2 j (by omega))).mono ?_
      rintro e w' ⟨rfl, q, rfl⟩
      refine ⟨?_, (Ext.refl _ w).drewN q⟩
      rw [List.take_of_length_le (by omega), List.take_of_length_le (by omega)]
      by_cases hxy : xs = ys <;> simp [hxy]
  · refine (Try.slices_Equal_int_lens a a' n c n' c' w he).mono ?_
    rintro e w' ⟨rfl, rfl⟩
    exact ⟨by rw [decide_eq_false (fun h => he (by rw [← h1, ← h2, h]))], Ext.refl _ _⟩

set_option maxHeartbeats 4000000 in
theorem implArrowAt (a : Option Addr) (n c : Nat) (ds : List DeclL) (D : Nat → Prop) (t : Int) (w : World) (h : DeclsR w D a n ds) (hn : n ≤ 1049576) :
    Calls Try.prog 145 #[.slice a n c, .int .i64 t] w fun e w' => ∃ f g a3 n3 c3, e = .returned (.tuple #[.agg #[.int .i64 f, .int .i64 g, .slice a3 n3 c3], .bool (isArr ds t)]) ∧ (isArr ds t = true → f = (dAt ds (t.toNat - 1)).from_ ∧ g = (dAt ds (t.toNat - 1)).to_) ∧ Keep w w' := by
  refine calls_k fun Q hQ => ?_
  have K0 := Keep.al w (.cells #[.int .i64 0, .int .i64 0, .slice none 0 0] 138)
  have HL := Lib.hid h.1
  by_cases ht1 : t < 1
  · have V : Hid (isArr ds t = false) := by show _ = _; rw [isArr, decide_eq_false (by omega)]; rfl
    go_enter Try.func145, Try.ntmps145
    go_wp2_with fail
    refine bodyPost_ret (v := .tuple #[.agg #[.int .i64 0, .int .i64 0, .slice none 0 0], .bool false]) (by simp [results, Try.results145, go_sem]) rfl (fin_ hQ ⟨0, 0, none, 0, 0, by rw [V.out], (fun h => by rw [V.out] at h; cases h), ?_⟩)
    exact Keep.al w _
  by_cases ht2 : (n : Int) < t
  · have V : Hid (isArr ds t = false) := by show _ = _; rw [isArr, decide_eq_false (by have := HL.out; omega)]; rfl
    go_enter Try.func145, Try.ntmps145
    go_wp2_with fail
    refine bodyPost_ret (v := .tuple #[.agg #[.int .i64 0, .int .i64 0, .slice none 0 0], .bool false]) (by simp [results, Try.results145, go_sem]) rfl (fin_ hQ ⟨0, 0, none, 0, 0, by rw [V.out], (fun h => by rw [V.out] at h; cases h), ?_⟩)
    exact Keep.al w _
  obtain ⟨k, rfl⟩ : ∃ k : Nat, t = (k : Int) + 1 := ⟨(t - 1).toNat, by omega⟩
  have hk : k < n := by omega
  obtain ⟨b, o, rfl, _, hc⟩ := h.2 (by omega)
  obtain ⟨d0, d1, a', m, c', d2, _, hcons⟩ := hc k hk
  have HK : Hid (((k : Int) + 1).toNat - 1 = k) := by show _ = _; omega
  have V0 : Hid (isArr ds ((k : Int) + 1) = decide (m = 0)) := by
    show _ = _
    rw [isArr, decide_eq_true (by have := HL.out; omega), Bool.true_and, HK.out, hcons.1]
  have g0 := (K0.cell (World.block_lt_of_cell? w _ d0) (fun h => h)).trans d0
  have g1 := (K0.cell (World.block_lt_of_cell? w _ d1) (fun h => h)).trans d1
  have g2 := (K0.cell (World.block_lt_of_cell? w _ d2) (fun h => h)).trans d2
  clear hc hcons d0 d1 d2 ht1 ht2
  rcases Nat.eq_zero_or_pos m with h0 | h0
  · subst h0
    go_enter Try.func145, Try.ntmps145
    go_wp2_with fail
    refine bodyPost_ret (v := .tuple #[.agg #[.int .i64 (dAt ds k).from_, .int .i64 (dAt ds k).to_, .slice a' 0 c'], .bool true]) (by simp [results, Try.results145, go_sem]) rfl (fin_ hQ ⟨_, _, a', 0, c', by rw [V0.out]; rfl, fun _ => by rw [HK.out]; exact ⟨rfl, rfl⟩, ?_⟩)
    exact Keep.al w _
  · have V : Hid (isArr ds ((k : Int) + 1) = false) := V0.out.trans (decide_eq_false (by omega))
    go_enter Try.func145, Try.ntmps145
    go_wp2_with fail
    refine bodyPost_ret (v := .tuple #[.agg #[.int .i64 0, .int .i64 0, .slice none 0 0], .bool false]) (by simp [results, Try.results145, go_sem]) rfl (fin_ hQ ⟨0, 0, none, 0, 0, by rw [V.out], (fun h => by rw [V.out] at h; cases h), ?_⟩)
    exact Keep.al w _

theorem implFieldsOf (a : Option Addr) (n c : Nat) (ds : List DeclL) (D : Nat → Prop) (x : Int) (w : World) (h : DeclsR w D a n ds) (hf : Few ds) (hx1 : -9223372036854775808 ≤ x) (hx2 : x ≤ 9223372036854775807) :
    Calls Try.prog 119 #[.slice a n c, .int .i64 x] w fun e w' => ∃ a' m c', e = .returned (.slice a' m c') ∧ m ≤ c' ∧ IntsL w' (fun k => D k ∨ w.heap.size ≤ k) a' m (conFieldsL ds x) ∧ Keep w w' := by
  refine calls_k fun Q hQ => ?_
  go_enter Try.func119, Try.ntmps119
  go_wp2_with fail
  refine (implConAt _ _ _ ds _ _ _ h hf hx1 hx2).mono ?_
  rintro e w1 ⟨a', m, c', rfl, hmc, hi, p1⟩
  go_wp2_with fail
  exact fin_ hQ ⟨a', m, c', rfl, hmc, (hi.ext (p1.trans (Keep.al w1 _)) (fun _ _ h => h)).mono (fun k hk => .inl hk), p1.trans (Keep.al w1 _)⟩

/-- What simpleType returns. -/
def SimR (ds : List DeclL) (sg : List SigL) (op num : Int) (tys : List Int) (w : World) (e : Ending) (w' : World) : Prop :=
  ∃ t ok, e = .returned (.tuple #[.int .i64 t, .bool ok]) ∧ ok = decide (0 ≤ simpleL ds sg op num tys) ∧ (ok = true → t = simpleL ds sg op num tys) ∧ Keep w w'
/-- Declarations and signatures that can be read. -/
def SR (w : World) (D : Nat → Prop) (ds : List DeclL) (sg : List SigL) (a0 : Option Addr) (n0 c0 : Nat) (a1 : Option Addr) (n1 c1 : Nat) : Prop :=
  Rd w D (encDecls ds) (.slice a0 n0 c0) ∧ Rd w D (encSigs sg) (.slice a1 n1 c1)
theorem SR.ext {S D : Nat → Prop} {w w' : World} {ds : List DeclL} {sg : List SigL} {a0 : Option Addr} {n0 c0 : Nat} {a1 : Option Addr} {n1 c1 : Nat} (h : SR w D ds sg a0 n0 c0 a1 n1 c1) (k : Ext S w w') (hs : ∀ q, D q → ¬ S q) : SR w' D ds sg a0 n0 c0 a1 n1 c1 := ⟨h.1.ext k hs, h.2.ext k hs⟩
theorem SR.k {D : Nat → Prop} {w w' : World} {ds : List DeclL} {sg : List SigL} {a0 : Option Addr} {n0 c0 : Nat} {a1 : Option Addr} {n1 c1 : Nat} (h : SR w D ds sg a0 n0 c0 a1 n1 c1) (k : Keep w w') : SR w' D ds sg a0 n0 c0 a1 n1 c1 := h.ext k (fun _ _ h => h)
end Go.Proofs.Ytaeddcnakilnlaa
