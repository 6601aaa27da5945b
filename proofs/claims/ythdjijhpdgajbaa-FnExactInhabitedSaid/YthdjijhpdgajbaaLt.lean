/- What can be read lies in blocks that are there. -/
import Derived.Test.YthdjijhpdgajbaaOwn
namespace Go.Proofs.Ythdjijhpdgajbaa
open Go.RowKit
section
variable {D : Nat → Prop} {w w' : World} {a : Option Addr} {n : Nat}
theorem OwnInts.lt {xs : List Int} (h : OwnInts w D a n xs) : OwnInts w (fun k => D k ∧ k < w.heap.size) a n xs := by
  refine ⟨h.1, fun hn => ?_⟩
  obtain ⟨b, N, f, rfl, hd, hN, hr, hc⟩ := h.2 hn
  exact ⟨b, N, f, rfl, ⟨hd, hr.lt⟩, hN, hr, hc⟩
theorem OwnCons.lt {cs : List (List Int)} (h : OwnCons w D a n cs) : OwnCons w (fun k => D k ∧ k < w.heap.size) a n cs := by
  refine ⟨h.1, fun hn => ?_⟩
  obtain ⟨b, N, f, rfl, hd, hN, hr, hc⟩ := h.2 hn
  refine ⟨b, N, f, rfl, ⟨hd, hr.lt⟩, hN, hr, fun i hi => ?_⟩
  obtain ⟨a', m, c, h1, h2, h3⟩ := hc i hi
  exact ⟨a', m, c, h1, h2, h3.lt⟩
theorem OwnDecls.lt {ds : List DeclL} (h : OwnDecls w D a n ds) : OwnDecls w (fun k => D k ∧ k < w.heap.size) a n ds := by
  refine ⟨h.1, fun hn => ?_⟩
  obtain ⟨b, N, f, rfl, hd, hN, hr, hc⟩ := h.2 hn
  refine ⟨b, N, f, rfl, ⟨hd, hr.lt⟩, hN, hr, fun i hi => ?_⟩
  obtain ⟨h0, h1, a', m, c, h2, h3, h4⟩ := hc i hi
  exact ⟨h0, h1, a', m, c, h2, h3, h4.lt⟩
theorem IntsL.lt {xs : List Int} (h : IntsL w D a n xs) : IntsL w (fun k => D k ∧ k < w.heap.size) a n xs := by
  refine ⟨h.1, fun hn => ?_⟩
  obtain ⟨b, o, rfl, hd, hc⟩ := h.2 hn
  exact ⟨b, o, rfl, ⟨hd, World.block_lt_of_cell? w _ (hc 0 hn)⟩, hc⟩
theorem ConsR.lt {cs : List (List Int)} (h : ConsR w D a n cs) : ConsR w (fun k => D k ∧ k < w.heap.size) a n cs := by
  refine ⟨h.1, fun hn => ?_⟩
  obtain ⟨b, o, rfl, hd, hc⟩ := h.2 hn
  obtain ⟨_, _, _, hc0, _⟩ := hc 0 hn
  refine ⟨b, o, rfl, ⟨hd, World.block_lt_of_cell? w _ hc0⟩, fun i hi => ?_⟩
  obtain ⟨a', m, c, h1, h2, h3⟩ := hc i hi
  exact ⟨a', m, c, h1, h2, h3.lt⟩
theorem DeclsR.lt {ds : List DeclL} (h : DeclsR w D a n ds) : DeclsR w (fun k => D k ∧ k < w.heap.size) a n ds := by
  refine ⟨h.1, fun hn => ?_⟩
  obtain ⟨b, o, rfl, hd, hc⟩ := h.2 hn
  have hc0 := (hc 0 hn).1
  refine ⟨b, o, rfl, ⟨hd, World.block_lt_of_cell? w _ hc0⟩, fun i hi => ?_⟩
  obtain ⟨h0, h1, a', m, c, h2, h3, h4⟩ := hc i hi
  exact ⟨h0, h1, a', m, c, h2, h3, h4.lt⟩
end
end Go.Proofs.Ythdjijhpdgajbaa
