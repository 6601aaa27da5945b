/- Cells that stay. -/
import Derived.Test.YtmekdccgjgfiaaaQAA
namespace Go.Proofs.Ytmekdccgjgfiaaa
open Go.RowKit

theorem Ext.cq {S : Nat → Prop} {w w' : World} (k : Ext S w w') {p : Addr} {v : Value} (h : w.cell? p = some v) (hp : ¬ S p.block) : w'.cell? p = some v := (k.cell (World.block_lt_of_cell? _ _ h) hp).trans h
theorem at_put2 {w : World} {s : Nat} {v0 v1 v : Value} {p : Addr} (h : w.cell? p = some v) (hp : p.block ≠ s) : ((w.setCell ⟨s, 0, none⟩ v0).setCell ⟨s, 1, none⟩ v1).cell? p = some v :=
  (Ext.setCell (S := fun q => q = s) (Ext.setCell (S := fun q => q = s) (Ext.refl _ w) (p := ⟨s, 0, none⟩) (.inr rfl) v0) (p := ⟨s, 1, none⟩) (.inr rfl) v1).cq h hp
end Go.Proofs.Ytmekdccgjgfiaaa
