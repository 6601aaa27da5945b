/- What the laws on types draw: declarations, and integers. -/
import Derived.Test.YtcfndpgeanbkjaaGenDecl2
import Derived.Test.YtcfndpgeanbkjaaBytes
namespace Go.Proofs.Ytcfndpgeanbkjaa
open Go.RowKit

/-- What is drawn: declarations that can be read. -/
def Drawn (w w' : World) (v : Value) : Prop := ∃ a n c ds, v = .slice a n c ∧ n ≤ c ∧ n ≤ 6 ∧ Rd w' (fun _ => True) (encDecls ds) (.slice a n c) ∧ Keep w w'

theorem AccR.drawn {w0 w w' : World} {g base : Nat} {D : Nat → Prop} {T : TypeId} {v : Value} {ds : List DeclL} (h : AccR w' base D T 3 v (ds.map rowD)) (hl : ds.length ≤ 6) (h0 : Keep w0 w) (hx : Ext (· = g) w w') (hg : w0.heap.size ≤ g) : Drawn w0 w' v := by
  obtain ⟨a, c, rfl, hc, _, hr⟩ := h.read (by omega)
  rw [List.length_map] at hc hr ⊢
  exact ⟨a, _, c, ds, rfl, hc, hl, Rd.mono hr (fun _ _ => trivial), h0.then_ hx (fun q hq e => by omega)⟩
theorem DrawValidTypes_any (a : Option Addr) (len cap : Nat) (z : Nat → Int) (w : World) (h : Byt w a len z) (hlc : len ≤ cap) (hl : len ≤ 1048576) :
    Calls Try.prog 21 #[.slice a len cap] w fun e w' => ∃ v, e = .returned v ∧ Drawn w w' v := by
  refine calls_k fun Q hQ => ?_
  go_enter Try.func21, Try.ntmps21
  go_wp2_with fail
  refine (newReaderX a len cap z w h hlc hl).mono ?_
  rintro e w1 ⟨g, hg, rfl, hr, k1⟩
  go_wp2_with fail
  refine (anyDecls_any _ g _ w1 hr (Nat.le_refl _) (by omega)).mono ?_
  rintro e w2 ⟨v, ds, p', hl6, _, rfl, hA, _, _, x2⟩
  go_wp2_with fail
  exact fin_ hQ ⟨v, rfl, hA.drawn hl6 k1 x2 hg⟩
theorem DrawConCount_any (a : Option Addr) (len cap : Nat) (z : Nat → Int) (w : World) (h : Byt w a len z) (hlc : len ≤ cap) (hl : len ≤ 1048576) :
    Calls Try.prog 25 #[.slice a len cap] w fun e w' => ∃ v, e = .returned v ∧ Drawn w w' v := by
  refine calls_k fun Q hQ => ?_
  go_enter Try.func25, Try.ntmps25
  go_wp2_with fail
  refine (newReaderX a len cap z w h hlc hl).mono ?_
  rintro e w1 ⟨g, hg, rfl, hr, k1⟩
  go_wp2_with fail
  refine (anyDecls_any _ g _ w1 hr (Nat.le_refl _) (by omega)).mono ?_
  rintro e w2 ⟨v, ds, p', hl6, _, rfl, hA, _, _, x2⟩
  go_wp2_with fail
  exact fin_ hQ ⟨v, rfl, hA.drawn hl6 k1 x2 hg⟩
theorem AccR.after {w w' : World} {g base : Nat} {D : Nat → Prop} {T : TypeId} {v : Value} {rows : List (List Dat)} (h : AccR w base D T 3 v rows) (hx : Ext (· = g) w w') (h1 : ¬ D g) (h2 : g < base) : AccR w' base D T 3 v rows :=
  h.ext hx (fun q _ hq e => by rcases hq with hq | hq
                               · exact h1 (e ▸ hq)
                               · omega)
set_option maxHeartbeats 1000000 in
theorem DrawConType_any (a : Option Addr) (len cap : Nat) (z : Nat → Int) (w : World) (h : Byt w a len z) (hlc : len ≤ cap) (hl : len ≤ 1048576) :
    Calls Try.prog 29 #[.slice a len cap] w fun e w' => ∃ (v : Value) (x : Int), e = .returned (.tuple #[v, .int .i64 x]) ∧ -1 ≤ x ∧ x ≤ 12 ∧ Drawn w w' v := by
  refine calls_k fun Q hQ => ?_
  go_enter Try.func29, Try.ntmps29
  go_wp2_with fail
  refine (newReaderX a len cap z w h hlc hl).mono ?_
  rintro e w1 ⟨g, hg, rfl, hr, k1⟩
  go_wp2_with fail
  refine (anyDecls_any _ g _ w1 hr (Nat.le_refl _) (by omega)).mono ?_
  rintro e w2 ⟨v, ds, p', hl6, _, rfl, hA, hr2, hp2, x2⟩
  have hgB := hr.gB
  go_wp2_with fail
  refine (pickX _ g _ _ _ hr2 (by omega) (by omega)).mono ?_
  rintro e w3 ⟨k3, rfl, hk3, _, hr3, x3⟩
  obtain ⟨hk30, hk31⟩ := hk3 (by omega)
  clear hk3
  go_wp2_with fail
  refine (pickX _ g _ _ _ hr3 (by omega) (by omega)).mono ?_
  rintro e w4 ⟨k4, rfl, hk4, _, hr4, x4⟩
  obtain ⟨hk40, hk41⟩ := hk4 (by omega)
  clear hk4
  go_wp2_with fail
  refine (oneL _ g _ [k3, k4, 4, -1, 12] 5 _ _ _ _ hr4 (by omega) rfl rfl (by omega) (by omega)).mono ?_
  rintro e w5 ⟨v5, hv5, rfl, hr5, x5⟩
  have hv : -1 ≤ v5 ∧ v5 ≤ 12 := by simp at hv5; omega
  clear hv5
  go_wp2_with fail
  exact fin_ hQ ⟨v, v5, rfl, hv.1, hv.2, (hA.after ((x3.trans x4).trans x5) (by omega) (by omega)).drawn hl6 k1 (((x2.trans x3).trans x4).trans x5) hg⟩
theorem DrawConFields_any (a : Option Addr) (len cap : Nat) (z : Nat → Int) (w : World) (h : Byt w a len z) (hlc : len ≤ cap) (hl : len ≤ 1048576) :
    Calls Try.prog 41 #[.slice a len cap] w fun e w' => ∃ (v : Value) (x : Int), e = .returned (.tuple #[v, .int .i64 x]) ∧ -1 ≤ x ∧ x ≤ 12 ∧ Drawn w w' v := by
  refine calls_k fun Q hQ => ?_
  go_enter Try.func41, Try.ntmps41
  go_wp2_with fail
  refine (DrawConType_any a len cap z w h hlc hl).mono ?_
  rintro e w1 ⟨v, x, rfl, h1, h2, h3⟩
  go_wp2_with fail
  exact fin_ hQ ⟨v, x, rfl, h1, h2, h3⟩
set_option maxHeartbeats 1000000 in
theorem DrawConsOf_any (a : Option Addr) (len cap : Nat) (z : Nat → Int) (w : World) (h : Byt w a len z) (hlc : len ≤ cap) (hl : len ≤ 1048576) :
    Calls Try.prog 34 #[.slice a len cap] w fun e w' => ∃ (v : Value) (x : Int), e = .returned (.tuple #[v, .int .i64 x]) ∧ -1 ≤ x ∧ x ≤ 5 ∧ Drawn w w' v := by
  refine calls_k fun Q hQ => ?_
  go_enter Try.func34, Try.ntmps34
  go_wp2_with fail
  refine (newReaderX a len cap z w h hlc hl).mono ?_
  rintro e w1 ⟨g, hg, rfl, hr, k1⟩
  go_wp2_with fail
  refine (anyDecls_any _ g _ w1 hr (Nat.le_refl _) (by omega)).mono ?_
  rintro e w2 ⟨v, ds, p', hl6, _, rfl, hA, hr2, hp2, x2⟩
  have hgB := hr.gB
  go_wp2_with fail
  refine (oneL _ g _ [1, 3, 4, 2, 0, -1, 5] 7 _ _ _ _ hr2 (by omega) rfl rfl (by omega) (by omega)).mono ?_
  rintro e w5 ⟨v5, hv5, rfl, hr5, x5⟩
  have hv : -1 ≤ v5 ∧ v5 ≤ 5 := by simp at hv5; omega
  clear hv5
  go_wp2_with fail
  exact fin_ hQ ⟨v, v5, rfl, hv.1, hv.2, (hA.after x5 (by omega) (by omega)).drawn hl6 k1 (x2.trans x5) hg⟩
set_option maxHeartbeats 1000000 in
theorem DrawArrowOf_any (a : Option Addr) (len cap : Nat) (z : Nat → Int) (w : World) (h : Byt w a len z) (hlc : len ≤ cap) (hl : len ≤ 1048576) :
    Calls Try.prog 32 #[.slice a len cap] w fun e w' => ∃ (v : Value) (x y : Int), e = .returned (.tuple #[v, .int .i64 x, .int .i64 y]) ∧ Drawn w w' v := by
  refine calls_k fun Q hQ => ?_
  go_enter Try.func32, Try.ntmps32
  go_wp2_with fail
  refine (newReaderX a len cap z w h hlc hl).mono ?_
  rintro e w1 ⟨g, hg, rfl, hr, k1⟩
  go_wp2_with fail
  refine (anyDecls_any _ g _ w1 hr (Nat.le_refl _) (by omega)).mono ?_
  rintro e w2 ⟨v, ds, p', hl6, _, rfl, hA, hr2, hp2, x2⟩
  have hgB := hr.gB
  go_wp2_with fail
  refine (oneL _ g _ [0, 0, 1, 2, -1] 5 _ _ _ _ hr2 (by omega) rfl rfl (by omega) (by omega)).mono ?_
  rintro e w4 ⟨v4, hv4, rfl, hr4, x4⟩
  go_wp2_with fail
  refine (oneL _ g _ [0, 0, 1, 5] 4 _ _ _ _ hr4 (by omega) rfl rfl (by omega) (by omega)).mono ?_
  rintro e w5 ⟨v5, hv5, rfl, hr5, x5⟩
  clear hv5 hv4
  go_wp2_with fail
  go_ret3
  exact fin_ hQ ⟨v, v4, v5, rfl, (hA.after (x4.trans x5) (by omega) (by omega)).drawn hl6 k1 ((x2.trans x4).trans x5) hg⟩
end Go.Proofs.Ytcfndpgeanbkjaa
