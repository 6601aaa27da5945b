/- normalize and Normalize of the reference. -/
import Derived.Test.YtkapldpmjkdmcaaGreatTAT
import Derived.Test.YtkapldpmjkdmcaaGreatTAQ
namespace Go.Proofs.YtkapldpmjkdmcaaGreat
open Go.RowKit

theorem decl_fields {ds : List DeclL} (h : typesOk ds = true) (j k : Nat) : (cAt (dAt ds j).cons k).length ≤ 1000 := by
  by_cases hj : j < ds.length
  · by_cases hk : k < (dAt ds j).cons.length
    · have hd := typesOk_decl h hj
      unfold declOk at hd
      rw [if_pos (by omega)] at hd
      simp only [Bool.and_eq_true] at hd
      have := cAll.1 hd.2 _ hk
      simp only [conOk, Bool.and_eq_true, decide_eq_true_eq] at this
      omega
    · rw [cAt, List.getD, List.getElem?_eq_none (by omega)]; simp
  · have e : dAt ds j = default := by rw [dAt, List.getD, List.getElem?_eq_none (by omega)]; rfl
    rw [e]
    have : (default : DeclL).cons = [] := rfl
    rw [this]; simp [cAt]
theorem lit_rout1 (w : World) (D : Nat → Prop) (T : TypeId) (f : RoutL) (a0 : Option Addr) (n0 c0 : Nat) (a1 : Option Addr) (n1 c1 : Nat) (a3 : Option Addr) (n3 c3 : Nat) (hB : D w.heap.size) (h0 : Rd w D (encInts f.params) (.slice a0 n0 c0)) (h1 : Rd w D (encInts f.lent) (.slice a1 n1 c1)) (h3 : Rd w D (encSteps f.body.steps) (.slice a3 n3 c3)) :
    Rd (w.alloc (.cells #[.slice a0 n0 c0, .slice a1 n1 c1, .int .i64 f.result, .slice a3 n3 c3, .int .i64 f.body.result] T)) D (.arr 5 [rowR f]) (.slice (some ⟨w.heap.size, 0, none⟩) 1 1) := by
  refine Rd.litD w D T 5 _ [rowR f] 1 hB (by simp) (by omega) (by omega) (by simp) (fun i hi => ?_) (fun i j hi hj => ?_)
  · obtain rfl : i = 0 := by simp at hi; exact hi
    rfl
  · obtain rfl : i = 0 := by simp at hi; exact hi
    rcases (show j = 0 ∨ j = 1 ∨ j = 2 ∨ j = 3 ∨ j = 4 by omega) with rfl | rfl | rfl | rfl | rfl
    · exact ⟨_, rfl, h0⟩
    · exact ⟨_, rfl, h1⟩
    · exact ⟨_, rfl, .num _⟩
    · exact ⟨_, rfl, h3⟩
    · exact ⟨_, rfl, .num _⟩

theorem AccR.extQ {w w' : World} {base : Nat} {D S : Nat → Prop} {T : TypeId} {s : Nat} {v : Value} {rows : List (List Dat)} (h : AccR w base D T s v rows) (hx : Ext S w w') (hs : ∀ k, k < w.heap.size → D k → ¬ S k) (ho : ∀ k, v.ownBlock = some k → ¬ S k) : AccR w' base D T s v rows := by
  obtain ⟨xs, h1, h2, h5⟩ := h
  refine ⟨xs, ⟨h1.1, ?_⟩, h2, fun i j hi hj => ?_⟩
  · rcases h1.2 with h | ⟨g, cap, cur, e, hb, hg, rest⟩
    · exact .inl h
    · have hlt : g < w.heap.size := (Array.getElem?_eq_some_iff.1 hg).1
      exact .inr ⟨g, cap, cur, e, hb, (hx.block g hlt (ho g (by rw [e]; rfl))).trans hg, rest⟩
  · obtain ⟨u, hu, ho⟩ := h5 i j hi hj
    exact ⟨u, hu, (ho.ext hx (fun k hk => hs k hk.2.2 hk.1)).mono (fun k hk => ⟨hk.1, hk.2.1, Nat.lt_of_lt_of_le hk.2.2 hx.size⟩)⟩

/-- What Normalize returns. -/
def nrmD (ds : List DeclL) (fs : List FuncL) : List DeclL := if progOk ds fs = true then ds else []
def nrmR (ds : List DeclL) (fs : List FuncL) : List RoutL := if progOk ds fs = true then fs.map (nrmF ds) else []

end Go.Proofs.YtkapldpmjkdmcaaGreat
