/- The program's types of expressions: all operations; the signatures of a program. -/
import Derived.Test.YtbknmljfnjlieaaTyI8
import Derived.Test.YtbknmljfnjlieaaTyI9
import Derived.Test.YtbknmljfnjlieaaWalkM
import Derived.Test.YtbknmljfnjlieaaSigs3
namespace Go.Proofs.Ytbknmljfnjlieaa
open Go.RowKit

section
variable (ds : List DeclL) (sg : List SigL) (hok : sigsOk ds sg = true)
include hok
theorem implTypeOf_n (N : Nat) : ∀ e : ExprL, nE e < N → allE fitN e → TyI ds sg e := by
  induction N with
  | zero => intro e h; omega
  | succ N ih =>
  intro e hN ha
  obtain ⟨op, num, es⟩ := e
  have IH : ∀ j, j < es.length → TyI ds sg (eAt es j) := fun j hj => ih _ (by have := nE_le es hj; rw [nE] at hN; omega) (allEs_at ha.2 hj)
  by_cases h12 : op = 12
  · subst h12; exact implTy_12 ds sg hok num ha.1 es IH
  by_cases h13 : op = 13
  · subst h13; exact implTy_13 ds sg hok num ha.1 es IH
  by_cases h7 : op = 7
  · subst h7; exact implTy_7 ds sg hok num ha.1 es IH
  by_cases h8 : op = 8
  · subst h8; exact implTy_8 ds sg hok num ha.1 es IH
  exact implTy_other ds sg hok op ⟨h12, h13, h7, h8⟩ num ha.1 es IH
theorem implTypeOf0 (e : ExprL) (ha : allE fitN e) : TyI ds sg e := implTypeOf_n ds sg hok _ e (Nat.lt_succ_self _) ha
end
end Go.Proofs.Ytbknmljfnjlieaa
