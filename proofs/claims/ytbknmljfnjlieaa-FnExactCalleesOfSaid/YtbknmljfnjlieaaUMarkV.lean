/- The laws' own helpers: marks over values. -/
import Derived.Test.YtbknmljfnjlieaaUMark
import Derived.Test.YtbknmljfnjlieaaUHeld
namespace Go.Proofs.Ytbknmljfnjlieaa
open Go.RowKit

theorem ToS.two {lo hi : Nat} {w : World} {d0 d1 : Dat} {u0 u1 : Value} (h : ToS lo hi w [d0, d1] [u0, u1]) : ∃ E0 E1 : Nat → Prop, (∀ k, E0 k → lo ≤ k ∧ k < hi) ∧ (∀ k, E1 k → lo ≤ k ∧ k < hi) ∧ (∀ k, E0 k → ¬ E1 k) ∧ Own w E0 d0 u0 ∧ Own w E1 d1 u1 := by
  obtain ⟨E, h1, h2, _, h4⟩ := h
  obtain ⟨v0, e0, o0⟩ := h4 0 (by simp)
  obtain ⟨v1, e1, o1⟩ := h4 1 (by simp)
  injection e0 with e0
  injection e1 with e1
  subst e0 e1
  exact ⟨E 0, E 1, fun k => h1 0 k, fun k => h1 1 k, fun k hk hk' => by have := h2 0 1 k hk hk'; omega, o0, o1⟩
theorem ToS.mk2 {lo hi : Nat} {w : World} {d0 d1 : Dat} {u0 u1 : Value} {E0 E1 : Nat → Prop} (h0 : ∀ k, E0 k → lo ≤ k ∧ k < hi) (h1 : ∀ k, E1 k → lo ≤ k ∧ k < hi) (hd : ∀ k, E0 k → ¬ E1 k) (o0 : Own w E0 d0 u0) (o1 : Own w E1 d1 u1) : ToS lo hi w [d0, d1] [u0, u1] := by
  refine ⟨fun i k => (i = 0 ∧ E0 k) ∨ (i = 1 ∧ E1 k), fun i k hk => ?_, fun i i' k hk hk' => ?_, rfl, fun i hi => ?_⟩
  · rcases hk with ⟨_, hk⟩ | ⟨_, hk⟩
    · exact h0 k hk
    · exact h1 k hk
  · rcases hk with ⟨rfl, hk⟩ | ⟨rfl, hk⟩ <;> rcases hk' with ⟨rfl, hk'⟩ | ⟨rfl, hk'⟩
    · rfl
    · exact absurd hk' (hd k hk)
    · exact absurd hk (hd k hk')
    · rfl
  · rcases (show i = 0 ∨ i = 1 by simp at hi; omega) with rfl | rfl
    · exact ⟨u0, rfl, o0.mono (fun k hk => .inl ⟨rfl, hk⟩)⟩
    · exact ⟨u1, rfl, o1.mono (fun k hk => .inr ⟨rfl, hk⟩)⟩


theorem markProgram (lo hi : Nat) (w : World) (d0 d1 : Dat) (a0 : Option Addr) (n0 c0 : Nat) (a1 : Option Addr) (n1 c1 : Nat) (k : Int) (h : ToS lo hi w [d0, d1] [.slice a0 n0 c0, .slice a1 n1 c1]) (hhi : hi ≤ w.heap.size) (m0 : MkC 65 d0) (m1 : MkC 66 d1)
    (hk : 0 ≤ k) (hb : k + (cntD d0 : Int) + (cntD d1 : Int) ≤ 4611686018427387904) :
    Calls Try.prog 24 #[.agg #[.slice a0 n0 c0, .slice a1 n1 c1], .int .i64 k] w fun e w' => ∃ k' : Int, e = .returned (.int .i64 k') ∧ k' = k + (cntD d0 : Int) + (cntD d1 : Int) ∧ ToS lo hi w' [mkD d0 k, mkD d1 (k + (cntD d0 : Int))] [.slice a0 n0 c0, .slice a1 n1 c1] ∧ Ext (fun q => lo ≤ q ∧ q < hi) w w' := by
  refine calls_k fun Q hQ => ?_
  obtain ⟨E0, E1, h0, h1, hd, p0, p1⟩ := h.two
  have K0 := Keep.al w (.cells #[.slice a0 n0 c0, .slice a1 n1 c1] 36)
  have RB := Lib.hid (rowOf w #[.slice a0 n0 c0, .slice a1 n1 c1] 36)
  have o0 := Lib.hid (p0.ext K0 (fun _ _ h => h))
  have o1 := Lib.hid (p1.ext K0 (fun _ _ h => h))
  have H0 := Lib.hid h0
  have H1 := Lib.hid h1
  have HD := Lib.hid hd
  clear h p0 p1 h0 h1 hd
  go_enter Try.func24, Try.ntmps24
  go_wp2_with fail
  refine (m0 _ _ _ _ _ _ o0.out hk (by omega)).mono ?_
  rintro e w1 ⟨k1, rfl, hk1, q0, x1⟩
  have V1 := Lib.hid hk1
  have O0 := Lib.hid q0
  have O1 := Lib.hid (o1.out.ext x1 (fun q hq hq' => HD.out q hq' hq))
  have X1 := Lib.hid ((Keep.to K0).trans x1)
  have y1 : w1.cell? ⟨w.heap.size, 1, none⟩ = some (.slice a1 n1 c1) := (row_ext RB.out x1 (fun hq => by have := (H0.out _ hq).2; omega)).cell (i := 1) (by simp)
  clear hk1 q0 x1 K0
  go_wp2_with fail
  refine (m1 _ _ _ _ _ _ O1.out (by have := V1.out; omega) (by have := V1.out; omega)).mono ?_
  rintro e w2 ⟨k2, rfl, hk2, q1, x2⟩
  have V2 := Lib.hid hk2
  clear hk2
  go_wp2_with fail
  refine fin_ hQ ⟨k2, rfl, by rw [V2.out, V1.out], ?_, ((X1.out.mono (fun q _ hq => H0.out q hq)).trans (x2.mono (fun q _ hq => H1.out q hq)))⟩
  have e1 := V1.out
  subst e1
  exact ToS.mk2 H0.out H1.out HD.out (O0.out.ext x2 (fun q hq hq' => HD.out q hq hq')) q1


end Go.Proofs.Ytbknmljfnjlieaa
