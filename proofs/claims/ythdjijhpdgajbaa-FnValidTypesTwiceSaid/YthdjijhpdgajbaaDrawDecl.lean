/- What the laws on types draw: declarations, and integers. -/
import Derived.Test.YthdjijhpdgajbaaGenDecl2
import Derived.Test.YthdjijhpdgajbaaBytes
namespace Go.Proofs.Ythdjijhpdgajbaa
open Go.RowKit

/-- What is drawn: declarations that can be read. -/
def Drawn (w w' : World) (v : Value) : Prop := ∃ a n c ds, v = .slice a n c ∧ n ≤ c ∧ n ≤ 6 ∧ Rd w' (fun _ => True) (encDecls ds) (.slice a n c) ∧ Keep w w'

theorem AccR.drawn {w0 w w' : World} {g base : Nat} {D : Nat → Prop} {T : TypeId} {v : Value} {ds : List DeclL} (h : AccR w' base D T 3 v (ds.map rowD)) (hl : ds.length ≤ 6) (h0 : Keep w0 w) (hx : Ext (· = g) w w') (hg : w0.heap.size ≤ g) : Drawn w0 w' v := by
  obtain ⟨a, c, rfl, hc, _, hr⟩ := h.read (by omega)
  rw [List.length_map] at hc hr ⊢
  exact ⟨a, _, c, ds, rfl, hc, hl, Rd.mono hr (fun _ _ => trivial), h0.then_ hx (fun q hq e => by omega)⟩
theorem DrawValidTypes_any (a : Option Addr) (len cap : Nat) (z : Nat → Int) (w : World) (h : Byt w a len z) (hlc : len ≤ cap) (hl : len ≤ 1048576) :
    Calls Try.prog 7 #[.slice a len cap] w fun e w' => ∃ v, e = .returned v ∧ Drawn w w' v := by
  refine calls_k fun Q hQ => ?_
  go_enter Try.func7, Try.ntmps7
  go_wp2_with fail
  refine (newReaderX a len cap z w h hlc hl).mono ?_
  rintro e w1 ⟨g, hg, rfl, hr, k1⟩
  go_wp2_with fail
  refine (anyDecls_any _ g _ w1 hr (Nat.le_refl _) (by omega)).mono ?_
  rintro e w2 ⟨v, ds, p', hl6, _, rfl, hA, _, _, x2⟩
  go_wp2_with fail
  exact fin_ hQ ⟨v, rfl, hA.drawn hl6 k1 x2 hg⟩
theorem AccR.after {w w' : World} {g base : Nat} {D : Nat → Prop} {T : TypeId} {v : Value} {rows : List (List Dat)} (h : AccR w base D T 3 v rows) (hx : Ext (· = g) w w') (h1 : ¬ D g) (h2 : g < base) : AccR w' base D T 3 v rows :=
  h.ext hx (fun q _ hq e => by rcases hq with hq | hq
                               · exact h1 (e ▸ hq)
                               · omega)
end Go.Proofs.Ythdjijhpdgajbaa
