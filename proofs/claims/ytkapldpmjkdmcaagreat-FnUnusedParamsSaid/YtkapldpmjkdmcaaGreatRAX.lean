/- The generator of programs: someBody, someExpr. -/
import Derived.Test.YtkapldpmjkdmcaaGreatRAW
namespace Go.Proofs.YtkapldpmjkdmcaaGreat
open Go.RowKit

theorem OwnP.k {lo : Nat} {w w2 : World} {ds : List DeclL} {fs : List FuncL} {a0 : Option Addr} {n0 c0 sF n cc : Nat} (h : OwnP lo w ds fs a0 n0 c0 sF n cc) (K : Keep w w2) : OwnP lo w2 ds fs a0 n0 c0 sF n cc := ⟨h.f.keep K, h.d.k K, h.s⟩
theorem OwnP.g {lo g : Nat} {w w2 : World} {ds : List DeclL} {fs : List FuncL} {a0 : Option Addr} {n0 c0 sF n cc : Nat} (h : OwnP lo w ds fs a0 n0 c0 sF n cc) (X : Ext (· = g) w w2) (hg : g < lo) : OwnP lo w2 ds fs a0 n0 c0 sF n cc :=
  ⟨h.f.ext X (fun k _ hk e => by have h1 := h.s; have h2 : k = g := e; rcases hk with h | h <;> omega), h.d.ext X (fun k hk e => by have h2 : k = g := e; omega), h.s⟩
theorem at_set2 {w : World} {s : Nat} {v0 v1 v : Value} {p : Addr} (h : w.cell? p = some v) (hp : p.block ≠ s) : ((w.setCell ⟨s, 0, none⟩ v0).setCell ⟨s, 1, none⟩ v1).cell? p = some v :=
  Ext.cl ((ext1 w s 0 v0).trans (ext1 _ s 1 v1)) h hp
end Go.Proofs.YtkapldpmjkdmcaaGreat
