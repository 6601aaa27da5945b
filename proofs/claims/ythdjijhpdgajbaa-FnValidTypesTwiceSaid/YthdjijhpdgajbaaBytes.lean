/- A law over a code of bytes: from the reading of the code to bytes that can be read. -/
import Derived.Test.YthdjijhpdgajbaaReader
import Derived.ChangeOld
import Derived.ShutString
namespace Go.Proofs.Ythdjijhpdgajbaa
open Go.RowKit

/-- What is known of a slice of integers that came in: it is nil, or it leads to a row of cells that hold integers that fit. -/
def IsRow (k : IntKind) (w : World) (a : Option Addr) (len cap : Nat) (zs : List Int) : Prop :=
  (a = none ∧ len = 0 ∧ cap = 0 ∧ zs = []) ∨
  ∃ x, a = some x ∧ len ≤ cap ∧ cap ≤ maxLen ∧ zs.length = cap ∧ (∀ i, i < zs.length → w.cell? (x.add i) = some (.int k (zs.getD i 0))) ∧ ∀ n ∈ zs, (Lit.int k n).wf = true

theorem byt_of_row {w : World} {a : Option Addr} {len cap : Nat} {zs : List Int} (h : IsRow .u8 w a len cap zs) : Byt w a len (fun i => zs.getD i 0) ∧ len ≤ cap := by
  rcases h with ⟨_, rfl, rfl, _⟩ | ⟨x, rfl, hl, _, hz, hc, hw⟩
  · exact ⟨fun h => absurd h (by omega), Nat.le_refl _⟩
  · refine ⟨fun h0 => ⟨x, rfl, ?_, fun i hi => ⟨hc i (by omega), ?_⟩⟩, hl⟩
    · have := World.block_lt_of_cell? w _ (hc 0 (by omega))
      rwa [block_add] at this
    · have hm : zs.getD i 0 ∈ zs := by
        have hi' : i < zs.length := by omega
        simp [List.getD, List.getElem?_eq_getElem hi']
      have := hw _ hm
      show 0 ≤ zs.getD i 0 ∧ zs.getD i 0 < 256
      generalize zs.getD i 0 = v at this ⊢
      simp [Lit.wf, IntKind.min, IntKind.max, IntKind.signed, IntKind.bits] at this
      omega

theorem law_bytes {P : Program} {f : FuncId} (core : ∀ (a : Option Addr) (len cap : Nat) (z : Nat → Int) (w : World), Byt w a len z → len ≤ cap →
      Calls P f #[.slice a len cap] w fun e w' => e = .returned (.bool true) ∧ Keep w w')
    {a : Option Addr} {len cap : Nat} {zs : List Int} {w : World} (h : IsRow .u8 w a len cap zs) :
    Calls P f #[.slice a len cap] w fun e w' => e = .returned (.bool true) ∧ Below w.heap.size w w' :=
  (core a len cap _ w (byt_of_row h).1 (byt_of_row h).2).mono fun _ _ ⟨he, hk⟩ => ⟨he, hk.below (Nat.le_refl _) (fun _ _ h => h)⟩
end Go.Proofs.Ythdjijhpdgajbaa
