/-
  No cell of these rows narrows 'for every input' (looked for: loops, veiled, ifaces, maps, wideKeys, modest, calm, conditions, laid).
  DERIVED. THE GIVEN ROWS OF THIS SEAT. 4 by the template 'for every input the law returns true; each argument reads behind the call as it read before'; 0 by the template 'total and deterministic' (their statements: YthdjijhpdgajbaaTotals.lean).
  GIVEN WITH THE SEED: the statements are not yours to turn. If you find one false, say at which input.
  Laid BY PROGRAM, IN A SANDBOX (cutbox-rows.mjs): the forced cells as the released guide's own fill.sh prints them over the translation f2b9252b86247f38… (all of the seat's roots in one cut). By AI agents, Wed Nov 11 2026. No macro, syntax, notation, axiom, sorry.
-/
import Derived.Test.YthdjijhpdgajbaaChecked
import GoSem.Claim
import GoSem.ClaimJoined
import GoSem.ClaimMapViews
import Derived.JoinedTies
import Derived.KernelRfl
namespace Go.Proofs.Ythdjijhpdgajbaa
/- THE CELL 'sum', in the pinned program and in every row, IS THE sha256 OF THE DUMP (.gsa) THAT YthdjijhpdgajbaaProg.lean LOADS. Nothing in Lean hashes anything: it is a label: what it is worth is what the hold of that sum in a sandbox is worth. -/
noncomputable def Try.pinned : Pinned := { name := "ythdjijhpdgajbaa", sum := "f2b9252b86247f3806d311e33dbcc919f75075abbe30b58719c82cd3630bf3a1", checked := Try.checked }
namespace Rows
def none {H : Type} : Left H := { results := [], args := [] }

/-- 'laws.FnValidTypesTwice': WHATEVER THE INPUT: true; the input reads as it did. -/
def fnValidTypesTwiceSpec : ChangeSpec := { name := "fnValidTypesTwice", fn := fun _ => fun
  | [d] => { results := [.lit (.bool true)], args := [d] }
  | _ => none }
def fnValidTypesTwiceRow : OpenClaim := { program := "ythdjijhpdgajbaa", sum := "f2b9252b86247f3806d311e33dbcc919f75075abbe30b58719c82cd3630bf3a1", func := "loop.example/refcountml/laws.FnValidTypesTwice", spec := "fnValidTypesTwice", apart := false }
def FnValidTypesTwiceSaid : Prop := fnValidTypesTwiceRow.holds Try.pinned (OpenSpec.ofChange fnValidTypesTwiceSpec)

/-- ITS FALSE NEIGHBOUR: 'it returns false'. Refute it at one input. -/
def fnValidTypesTwiceWrong : ChangeSpec := { name := "fnValidTypesTwice", fn := fun _ => fun
  | [d] => { results := [.lit (.bool false)], args := [d] }
  | _ => none }
def FnValidTypesTwiceWrongFalsely : Prop := fnValidTypesTwiceRow.holds Try.pinned (OpenSpec.ofChange fnValidTypesTwiceWrong)

/-- 'laws.FnInhabitedMore': WHATEVER THE INPUT: true; the input reads as it did. -/
def fnInhabitedMoreSpec : ChangeSpec := { name := "fnInhabitedMore", fn := fun _ => fun
  | [d] => { results := [.lit (.bool true)], args := [d] }
  | _ => none }
def fnInhabitedMoreRow : OpenClaim := { program := "ythdjijhpdgajbaa", sum := "f2b9252b86247f3806d311e33dbcc919f75075abbe30b58719c82cd3630bf3a1", func := "loop.example/refcountml/laws.FnInhabitedMore", spec := "fnInhabitedMore", unfollowed := true, recurses := true, apart := false }
def FnInhabitedMoreSaid : Prop := fnInhabitedMoreRow.holds Try.pinned (OpenSpec.ofChange fnInhabitedMoreSpec)

/-- ITS FALSE NEIGHBOUR: 'it returns false'. Refute it at one input. -/
def fnInhabitedMoreWrong : ChangeSpec := { name := "fnInhabitedMore", fn := fun _ => fun
  | [d] => { results := [.lit (.bool false)], args := [d] }
  | _ => none }
def FnInhabitedMoreWrongFalsely : Prop := fnInhabitedMoreRow.holds Try.pinned (OpenSpec.ofChange fnInhabitedMoreWrong)

/-- 'laws.FnInhabited': WHATEVER THE INPUT: true; the input reads as it did. -/
def fnInhabitedSpec : ChangeSpec := { name := "fnInhabited", fn := fun _ => fun
  | [d] => { results := [.lit (.bool true)], args := [d] }
  | _ => none }
def fnInhabitedRow : OpenClaim := { program := "ythdjijhpdgajbaa", sum := "f2b9252b86247f3806d311e33dbcc919f75075abbe30b58719c82cd3630bf3a1", func := "loop.example/refcountml/laws.FnInhabited", spec := "fnInhabited", unfollowed := true, recurses := true, apart := false }
def FnInhabitedSaid : Prop := fnInhabitedRow.holds Try.pinned (OpenSpec.ofChange fnInhabitedSpec)

/-- ITS FALSE NEIGHBOUR: 'it returns false'. Refute it at one input. -/
def fnInhabitedWrong : ChangeSpec := { name := "fnInhabited", fn := fun _ => fun
  | [d] => { results := [.lit (.bool false)], args := [d] }
  | _ => none }
def FnInhabitedWrongFalsely : Prop := fnInhabitedRow.holds Try.pinned (OpenSpec.ofChange fnInhabitedWrong)

/-- 'laws.FnExactInhabited': WHATEVER THE INPUT: true; the input reads as it did. -/
def fnExactInhabitedSpec : ChangeSpec := { name := "fnExactInhabited", fn := fun _ => fun
  | [d] => { results := [.lit (.bool true)], args := [d] }
  | _ => none }
def fnExactInhabitedRow : OpenClaim := { program := "ythdjijhpdgajbaa", sum := "f2b9252b86247f3806d311e33dbcc919f75075abbe30b58719c82cd3630bf3a1", func := "loop.example/refcountml/laws.FnExactInhabited", spec := "fnExactInhabited", unfollowed := true, recurses := true, apart := false }
def FnExactInhabitedSaid : Prop := fnExactInhabitedRow.holds Try.pinned (OpenSpec.ofChange fnExactInhabitedSpec)

/-- ITS FALSE NEIGHBOUR: 'it returns false'. Refute it at one input. -/
def fnExactInhabitedWrong : ChangeSpec := { name := "fnExactInhabited", fn := fun _ => fun
  | [d] => { results := [.lit (.bool false)], args := [d] }
  | _ => none }
def FnExactInhabitedWrongFalsely : Prop := fnExactInhabitedRow.holds Try.pinned (OpenSpec.ofChange fnExactInhabitedWrong)

/- THE SECOND FORM. 'bulk': how many values and letters a reading holds, each counted each time it is reached (what is shared counts as often as it is met; a slice's spare places count too). A statement '..UptoSaid' is the law's where the arguments, and the package variables that the reading takes, are together of bulk at most 1048576: NARROWER than '..Said'. Prove '..Said' where nothing that the law and all that it calls make is longer than what came in: it says more and counts as full. Else prove '..UptoSaid'. A law counts once. -/
mutual
def uptoBulk {H : Type} : DataW H → Nat
  | .lit (.string bytes) => bytes.length + 1
  | .lit _ => 1
  | .nil => 1
  | .ptr d => uptoBulk d + 1
  | .slice elems spare => uptoBulkAll elems + uptoBulkAll spare + 1
  | .agg parts => uptoBulkAll parts + 1
  | .iface _ d => uptoBulk d + 1
  | .map entries => uptoBulkEntries entries + 1
  | .held _ => 1
def uptoBulkAll {H : Type} : List (DataW H) → Nat
  | [] => 0
  | d :: r => uptoBulk d + uptoBulkAll r
def uptoBulkEntries {H : Type} : List (Lit × DataW H) → Nat
  | [] => 0
  | x :: r => uptoBulkEntry x + uptoBulkEntries r
def uptoBulkEntry {H : Type} : Lit × DataW H → Nat
  | (.string bytes, d) => bytes.length + uptoBulk d + 1
  | (_, d) => uptoBulk d + 1
 end
def uptoSmall : (H : Type) → List (DataW H) → Bool := fun _ ds => decide (uptoBulkAll ds ≤ 1048576)
def OpenSpec.upto (s : _root_.Go.ChangeSpec) : _root_.Go.OpenSpec := { _root_.Go.OpenSpec.ofChange s with cond := some uptoSmall }

/-- 'laws.FnValidTypesTwice', WHERE WHAT IT READS IS OF BULK AT MOST 1048576: true; the input reads as it did. -/
def fnValidTypesTwiceUptoRow : OpenClaim := { program := "ythdjijhpdgajbaa", sum := "f2b9252b86247f3806d311e33dbcc919f75075abbe30b58719c82cd3630bf3a1", func := "loop.example/refcountml/laws.FnValidTypesTwice", spec := "fnValidTypesTwice", apart := false, narrowed := true }
def FnValidTypesTwiceUptoSaid : Prop := fnValidTypesTwiceUptoRow.holds Try.pinned (OpenSpec.upto fnValidTypesTwiceSpec)

/-- 'laws.FnInhabitedMore', WHERE WHAT IT READS IS OF BULK AT MOST 1048576: true; the input reads as it did. -/
def fnInhabitedMoreUptoRow : OpenClaim := { program := "ythdjijhpdgajbaa", sum := "f2b9252b86247f3806d311e33dbcc919f75075abbe30b58719c82cd3630bf3a1", func := "loop.example/refcountml/laws.FnInhabitedMore", spec := "fnInhabitedMore", unfollowed := true, recurses := true, apart := false, narrowed := true }
def FnInhabitedMoreUptoSaid : Prop := fnInhabitedMoreUptoRow.holds Try.pinned (OpenSpec.upto fnInhabitedMoreSpec)

/-- 'laws.FnInhabited', WHERE WHAT IT READS IS OF BULK AT MOST 1048576: true; the input reads as it did. -/
def fnInhabitedUptoRow : OpenClaim := { program := "ythdjijhpdgajbaa", sum := "f2b9252b86247f3806d311e33dbcc919f75075abbe30b58719c82cd3630bf3a1", func := "loop.example/refcountml/laws.FnInhabited", spec := "fnInhabited", unfollowed := true, recurses := true, apart := false, narrowed := true }
def FnInhabitedUptoSaid : Prop := fnInhabitedUptoRow.holds Try.pinned (OpenSpec.upto fnInhabitedSpec)

/-- 'laws.FnExactInhabited', WHERE WHAT IT READS IS OF BULK AT MOST 1048576: true; the input reads as it did. -/
def fnExactInhabitedUptoRow : OpenClaim := { program := "ythdjijhpdgajbaa", sum := "f2b9252b86247f3806d311e33dbcc919f75075abbe30b58719c82cd3630bf3a1", func := "loop.example/refcountml/laws.FnExactInhabited", spec := "fnExactInhabited", unfollowed := true, recurses := true, apart := false, narrowed := true }
def FnExactInhabitedUptoSaid : Prop := fnExactInhabitedUptoRow.holds Try.pinned (OpenSpec.upto fnExactInhabitedSpec)

end Rows
end Go.Proofs.Ythdjijhpdgajbaa
