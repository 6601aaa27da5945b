/- Declarations that can be read in memory: integers, constructors, declarations; what keeps them readable. -/
import Derived.Test.YthdjijhpdgajbaaBase
namespace Go.Proofs.Ythdjijhpdgajbaa
open Go.RowKit

def iAt (xs : List Int) (i : Nat) : Int := xs.getD i 0
def cAt (cs : List (List Int)) (i : Nat) : List Int := cs.getD i []

/-- A slice of integers that reads as xs; what it reads lies in blocks of D. -/
def IntsL (w : World) (D : Nat → Prop) (a : Option Addr) (n : Nat) (xs : List Int) : Prop :=
  xs.length = n ∧ (0 < n → ∃ b o, a = some ⟨b, o, none⟩ ∧ D b ∧ ∀ i, i < n → w.cell? ⟨b, o + i, none⟩ = some (.int .i64 (iAt xs i)))

/-- A slice of constructors that reads as the lists of their fields. -/
def ConsR (w : World) (D : Nat → Prop) (a : Option Addr) (n : Nat) (cs : List (List Int)) : Prop :=
  cs.length = n ∧ (0 < n → ∃ b o, a = some ⟨b, o, none⟩ ∧ D b ∧ ∀ i, i < n → ∃ a' m c, w.cell? ⟨b, o + i, none⟩ = some (.slice a' m c) ∧ m ≤ c ∧ IntsL w D a' m (cAt cs i))

structure DeclL where
  from_ : Int
  to_ : Int
  cons : List (List Int)
instance : Inhabited DeclL := ⟨⟨0, 0, []⟩⟩

def dAt (ds : List DeclL) (i : Nat) : DeclL := ds.getD i default

/-- A slice of declarations. -/
def DeclsR (w : World) (D : Nat → Prop) (a : Option Addr) (n : Nat) (ds : List DeclL) : Prop :=
  ds.length = n ∧ (0 < n → ∃ b o, a = some ⟨b, o, none⟩ ∧ D b ∧ ∀ i, i < n →
    w.cell? ⟨b, o + i * 3, none⟩ = some (.int .i64 (dAt ds i).from_) ∧ w.cell? ⟨b, o + i * 3 + 1, none⟩ = some (.int .i64 (dAt ds i).to_) ∧
    ∃ a' m c, w.cell? ⟨b, o + i * 3 + 2, none⟩ = some (.slice a' m c) ∧ m ≤ c ∧ ConsR w D a' m (dAt ds i).cons)

section
variable {S D D' : Nat → Prop} {w w' : World}
theorem IntsL.ext {a : Option Addr} {n : Nat} {xs : List Int} (h : IntsL w D a n xs) (hx : Ext S w w') (hs : ∀ k, D k → ¬ S k) : IntsL w' D a n xs := by
  refine ⟨h.1, fun hn => ?_⟩
  obtain ⟨b, o, rfl, hd, hc⟩ := h.2 hn
  refine ⟨b, o, rfl, hd, fun i hi => ?_⟩
  have hb := World.block_lt_of_cell? w _ (hc i hi)
  exact (hx.cell hb (hs _ hd)).trans (hc i hi)
theorem IntsL.mono {a : Option Addr} {n : Nat} {xs : List Int} (h : IntsL w D a n xs) (hs : ∀ k, D k → D' k) : IntsL w D' a n xs := by
  refine ⟨h.1, fun hn => ?_⟩
  obtain ⟨b, o, rfl, hd, hc⟩ := h.2 hn
  exact ⟨b, o, rfl, hs _ hd, hc⟩
theorem ConsR.ext {a : Option Addr} {n : Nat} {cs : List (List Int)} (h : ConsR w D a n cs) (hx : Ext S w w') (hs : ∀ k, D k → ¬ S k) : ConsR w' D a n cs := by
  refine ⟨h.1, fun hn => ?_⟩
  obtain ⟨b, o, rfl, hd, hc⟩ := h.2 hn
  refine ⟨b, o, rfl, hd, fun i hi => ?_⟩
  obtain ⟨a', m, c, h1, h2, h3⟩ := hc i hi
  have hb := World.block_lt_of_cell? w _ h1
  exact ⟨a', m, c, (hx.cell hb (hs _ hd)).trans h1, h2, h3.ext hx hs⟩
theorem ConsR.mono {a : Option Addr} {n : Nat} {cs : List (List Int)} (h : ConsR w D a n cs) (hs : ∀ k, D k → D' k) : ConsR w D' a n cs := by
  refine ⟨h.1, fun hn => ?_⟩
  obtain ⟨b, o, rfl, hd, hc⟩ := h.2 hn
  refine ⟨b, o, rfl, hs _ hd, fun i hi => ?_⟩
  obtain ⟨a', m, c, h1, h2, h3⟩ := hc i hi
  exact ⟨a', m, c, h1, h2, h3.mono hs⟩
theorem DeclsR.ext {a : Option Addr} {n : Nat} {ds : List DeclL} (h : DeclsR w D a n ds) (hx : Ext S w w') (hs : ∀ k, D k → ¬ S k) : DeclsR w' D a n ds := by
  refine ⟨h.1, fun hn => ?_⟩
  obtain ⟨b, o, rfl, hd, hc⟩ := h.2 hn
  refine ⟨b, o, rfl, hd, fun i hi => ?_⟩
  obtain ⟨h1, h2, a', m, c, h3, h4, h5⟩ := hc i hi
  have hb1 := World.block_lt_of_cell? w _ h1
  have hb2 := World.block_lt_of_cell? w _ h2
  have hb3 := World.block_lt_of_cell? w _ h3
  exact ⟨(hx.cell hb1 (hs _ hd)).trans h1, (hx.cell hb2 (hs _ hd)).trans h2,
    a', m, c, (hx.cell hb3 (hs _ hd)).trans h3, h4, h5.ext hx hs⟩
theorem DeclsR.mono {a : Option Addr} {n : Nat} {ds : List DeclL} (h : DeclsR w D a n ds) (hs : ∀ k, D k → D' k) : DeclsR w D' a n ds := by
  refine ⟨h.1, fun hn => ?_⟩
  obtain ⟨b, o, rfl, hd, hc⟩ := h.2 hn
  refine ⟨b, o, rfl, hs _ hd, fun i hi => ?_⟩
  obtain ⟨h1, h2, a', m, c, h3, h4, h5⟩ := hc i hi
  exact ⟨h1, h2, a', m, c, h3, h4, h5.mono hs⟩
theorem IntsL.drewN {a : Option Addr} {n : Nat} {xs : List Int} (h : IntsL w D a n xs) (q : Nat) : IntsL (w.drewN q) D a n xs := h
theorem ConsR.drewN {a : Option Addr} {n : Nat} {cs : List (List Int)} (h : ConsR w D a n cs) (q : Nat) : ConsR (w.drewN q) D a n cs := h.ext ((Ext.refl (fun _ => False) w).drewN q) (fun _ _ h => h)
theorem DeclsR.drewN {a : Option Addr} {n : Nat} {ds : List DeclL} (h : DeclsR w D a n ds) (q : Nat) : DeclsR (w.drewN q) D a n ds := h.ext ((Ext.refl (fun _ => False) w).drewN q) (fun _ _ h => h)
end
end Go.Proofs.Ythdjijhpdgajbaa
