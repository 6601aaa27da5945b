/- DrawPrim returns three integers for every code. -/
import Derived.Test.YtdjihncfoghbgaaReader
import Derived.Test.YtdjihncfoghbgaaPrim
namespace Go.Proofs.Ytdjihncfoghbgaa
open Go.RowKit

set_option maxHeartbeats 800000 in
theorem drawPrim_any (a : Option Addr) (len cap : Nat) (z : Nat → Int) (w : World) (h : Byt w a len z) (hlc : len ≤ cap) (hl : len ≤ 1048576) :
    Calls Try.prog 10 #[.slice a len cap] w fun e w' => ∃ op x y : Int, e = .returned (.tuple #[.int .i64 op, .int .i64 x, .int .i64 y]) ∧ -1000 ≤ x ∧ x ≤ 1000 ∧ -1000 ≤ y ∧ y ≤ 1000 ∧ Keep w w' := by
  refine calls_k fun Q hQ => ?_
  go_enter Try.func10, Try.ntmps10
  go_wp2_with fail
  refine (newReader_any a len cap z w h hlc hl).mono ?_
  rintro e w1 ⟨g, hgw, rfl, r1, x1⟩
  go_wp2_with fail
  refine (pick_any g _ _ _ r1 (by omega) (by omega)).mono ?_
  rintro e w2 ⟨v1, rfl, hv1, _, r2, x2⟩
  have hv1 := hv1 (by omega)
  go_wp2_with fail
  refine (pick_any g _ _ _ r2 (by omega) (by omega)).mono ?_
  rintro e w3 ⟨v2, rfl, hv2, _, r3, x3⟩
  have hv2 := hv2 (by omega)
  go_wp2_with fail
  refine (one_lit g _ [v1 - 1000, v2 - 30, 999, -999, 1000, 0] _ _ _ _ _ r3 (by omega) rfl rfl (by simp) (by simp)).mono ?_
  rintro e w4 ⟨a1, ha1, rfl, r4, x4⟩
  go_wp2_with fail
  refine (pick_any g _ _ _ r4 (by omega) (by omega)).mono ?_
  rintro e w5 ⟨v3, rfl, hv3, _, r5, x5⟩
  have hv3 := hv3 (by omega)
  go_wp2_with fail
  refine (pick_any g _ _ _ r5 (by omega) (by omega)).mono ?_
  rintro e w6 ⟨v4, rfl, hv4, _, r6, x6⟩
  have hv4 := hv4 (by omega)
  go_wp2_with fail
  refine (one_lit g _ [v3 - 1000, v4 - 30, 999, -999, -1000, 1] _ _ _ _ _ r6 (by omega) rfl rfl (by simp) (by simp)).mono ?_
  rintro e w7 ⟨a2, ha2, rfl, r7, x7⟩
  go_wp2_with fail
  refine (one_lit g _ [1, 2, 3, 4, 5, 0] _ _ _ _ _ r7 (by omega) rfl rfl (by simp) (by simp)).mono ?_
  rintro e w8 ⟨a3, ha3, rfl, r8, x8⟩
  go_wp2_with fail
  go_ret3
  simp only [List.mem_cons, List.not_mem_nil, or_false] at ha1 ha2
  have hx : Ext (· = g) w w8 := ((((((x1.to.trans x2).trans x3).trans x4).trans x5).trans x6).trans x7).trans x8
  exact fin_ hQ ⟨a3, a1, a2, rfl, by omega, by omega, by omega, by omega, hx.mono fun k hk e => by omega⟩
end Go.Proofs.Ytdjihncfoghbgaa
