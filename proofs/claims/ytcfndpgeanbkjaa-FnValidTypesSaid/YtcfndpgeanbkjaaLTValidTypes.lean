/- The drawn law FnValidTypes: the walk. -/
import Derived.Test.YtcfndpgeanbkjaaLawBase
import Derived.Deep.RegionHeld3
import Derived.StillTailTactics
namespace Go.Proofs.Ytcfndpgeanbkjaa
open Go.RowKit

set_option maxHeartbeats 4000000 in
theorem fnValidTypes_walk (a : Option Addr) (len cap : Nat) (z : Nat → Int) (w : World) (h : Byt w a len z) (hlc : len ≤ cap) :
    Calls Try.prog 3 #[.slice a len cap] w fun e w' => e = .returned (.bool true) ∧ Keep w w' := by
  refine calls_k fun Q hQ => ?_
  by_cases hl : len ≤ 1048576
  · go_enter Try.func3, Try.ntmps3
    go_wp2_with fail
    refine (DrawValidTypes_any a len cap z w h hlc hl).mono ?_
    rintro e w1 ⟨v, rfl, a2, n, c, ds, rfl, hnc, hn6, hR, k1⟩
    have hD := hR.toDecls
    have HL := Lib.hid hD.1
    have hn : n ≤ 1048576 := by omega
    clear h
    cases hv : typesOk ds
    · have V := Lib.hid hv
      clear hv
      go_wp2_with fail
      refine (implValidTypes _ _ _ _ _ _ hD hnc).mono ?_
      rw [V.out]
      rintro e w2 ⟨rfl, q0⟩
      have h0 := hD.ext q0 (fun _ _ h => h)
      have p0 := k1.trans q0
      go_wp2_with fail
      refine (specValidTypes _ _ _ _ _ _ h0 (by omega)).mono ?_
      rw [V.out]
      rintro e w3 ⟨rfl, q1⟩
      have h1 := h0.ext q1 (fun _ _ h => h)
      have p1 := p0.trans q1
      go_wp2_with fail
      refine (specValidTypes _ _ _ _ _ _ h1 (by omega)).mono ?_
      rw [V.out]
      rintro e w4 ⟨rfl, q2⟩
      have h2 := h1.ext q2 (fun _ _ h => h)
      have p2 := p1.trans q2
      go_wp2_with fail
      exact fin_ hQ ⟨rfl, p2⟩
    have V := Lib.hid hv
    have hf := Few.of_ok hv
    clear hv
    have hn4 : n ≤ 4 := by have := hf.1; have := HL.out; omega
    go_wp2_with fail
    refine (implValidTypes _ _ _ _ _ _ hD hnc).mono ?_
    rw [V.out]
    rintro e w2 ⟨rfl, q0⟩
    have h0 := hD.ext q0 (fun _ _ h => h)
    have p0 := k1.trans q0
    go_wp2_with fail
    refine (specValidTypes _ _ _ _ _ _ h0 (by omega)).mono ?_
    rw [V.out]
    rintro e w3 ⟨rfl, q1⟩
    have h1 := h0.ext q1 (fun _ _ h => h)
    have p1 := p0.trans q1
    have A0 := AccR.made w3 (fun _ => True) 31 3
    have R0 := ((hR.k (q0.trans q1)).lt).k (Keep.al w3 (.cells #[] 31))
    have VA : Hid (typesOk (ds ++ [⟨0, 0, [[0]]⟩]) = decide (n < 4)) := by show _ = _; rw [valid_add V.out, HL.out]
    have kA := Keep.al w3 (.cells #[] 31)
    go_wp2_with (first
      | (at_builtin; refine wpList_appS _ rfl (.tmp 25) (.tmp 26) 23 rfl w3.heap.size 31 (.agg #[.int .i64 0, .int .i64 0, .slice none 0 0]) 3 40 Try.underlying23 (by kernel_rfl) rfl (by omega) (fun _ => True) _ _ rfl A0 _ n _ _ _ rfl R0 (fun q hq hq2 => ⟨trivial, by show some w3.heap.size ≠ some q; intro hh; injection hh with hh; omega⟩) n (by have := HL.out; simp <;> omega) (by omega) (by omega) (by simp) ?_; intro b1 e1 w4 he1 A1 xA sA)
      | (at_builtin; go_must (have c1 := lit_ints w4 w4.heap.size 3 [0] _ 1 (Nat.le_refl _) rfl rfl (by omega); have c2 := lit_cons _ w4.heap.size 28 [[0]] [_] 1 (by simp) ⟨_, _, rfl, c1, rfl⟩ rfl (by omega); have hX := lit_declsD _ (fun q => w4.heap.size ≤ q) 31 [⟨0, 0, [[0]]⟩] [_, _, _] 1 (by simp; omega) ⟨_, _, rfl, c2, rfl⟩ rfl (by omega); simp at hX; have A2 := A1.keep ((Keep.al w4 (.cells #[.int .i64 0] 3)).trans ((Keep.al _ (.cells #[.slice (some ⟨w4.heap.size, 0, none⟩) 1 1] 28)).trans (Keep.al _ (.cells #[.int .i64 0, .int .i64 0, .slice (some ⟨w4.heap.size + 1, 0, none⟩) 1 1] 31)))); have hb1 := A1.bound; simp at sA; refine wpList_appS _ rfl (.tmp 27) (.tmp 32) 23 rfl w3.heap.size 31 (.agg #[.int .i64 0, .int .i64 0, .slice none 0 0]) 3 40 Try.underlying23 (by kernel_rfl) rfl (by omega) (fun _ => True) _ _ rfl A2 _ 1 _ _ _ rfl hX (fun q hq hq2 => ⟨trivial, by intro hh; have := (hb1 q hh).2; omega⟩) (n + 1) (by have := HL.out; simp <;> omega) (by omega) (by omega) (by simp; omega) ?_; intro b2 e2 w5 he2 A3 xA2 sA2)))
    have hR3 : Rd w5 (fun _ => True) (encDecls (ds ++ [⟨0, 0, [[0]]⟩])) (.slice b2 (n + 1) e2) := by
      obtain ⟨_, _, _, _, _, hr⟩ := A3.read (by omega)
      rw [show ([] ++ ds.map rowD ++ [(⟨0, 0, [[0]]⟩ : DeclL)].map rowD) = (ds ++ [(⟨0, 0, [[0]]⟩ : DeclL)]).map rowD from by simp] at hr
      exact hr.mono (fun _ _ => trivial)
    have xE : Ext (fun q => w3.heap.size ≤ q) w3 w5 := (((Keep.to kA).trans xA).trans (((Keep.to (Keep.al _ _)).trans (Keep.to (Keep.al _ _))).trans (Keep.to (Keep.al _ _)))).trans xA2
    have kE : Keep w w5 := p1.then_ xE (fun q hq hq2 => by have := p1.size; omega)
    clear A1 A3 A0 R0 xA xA2 kA h1 h0
    cases h4 : decide (n < 4)
    · have VF : Hid (typesOk (ds ++ [⟨0, 0, [[0]]⟩]) = false) := by show _ = _; rw [VA.out]; exact h4
      have hn5 : ¬ n < 4 := of_decide_eq_false h4
      have t5 : decide ((n : Int) < 4) = false := by simp; omega
      have t6 : decide ((n : Int) ≤ 4) = true := by simp; omega
      clear hn5
      clear h4
      go_wp2_with fail
      refine (implValidTypes _ _ _ _ _ _ hR3.toDecls he2).mono ?_
      rw [VF.out]
      rintro e w6 ⟨rfl, q6⟩
      go_wp2_with fail
      exact fin_ hQ ⟨rfl, kE.trans q6⟩
    · have VF : Hid (typesOk (ds ++ [⟨0, 0, [[0]]⟩]) = true) := by show _ = _; rw [VA.out]; exact h4
      have hn5 : n < 4 := of_decide_eq_true h4
      have t5 : decide ((n : Int) < 4) = true := by simp; omega
      have t6 : decide ((n : Int) ≤ 4) = true := by simp; omega
      clear hn5
      clear h4
      go_wp2_with fail
      refine (implValidTypes _ _ _ _ _ _ hR3.toDecls he2).mono ?_
      rw [VF.out]
      rintro e w6 ⟨rfl, q6⟩
      go_wp2_with fail
      exact fin_ hQ ⟨rfl, kE.trans q6⟩
  · go_enter Try.func3, Try.ntmps3
    go_wp2_with fail
    exact fin_ hQ ⟨rfl, Ext.refl _ _⟩
end Go.Proofs.Ytcfndpgeanbkjaa
