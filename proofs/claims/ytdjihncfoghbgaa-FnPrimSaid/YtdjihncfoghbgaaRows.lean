/-
  No cell of these rows narrows 'for every input' (looked for: loops, veiled, ifaces, maps, wideKeys, modest, calm, conditions, laid).
  DERIVED. THE GIVEN ROWS OF THIS SEAT. 5 by the template 'for every input the law returns true; each argument reads behind the call as it read before'; 0 by the template 'total and deterministic' (their statements: YtdjihncfoghbgaaTotals.lean).
  GIVEN WITH THE SEED: the statements are not yours to turn. If you find one false, say at which input.
  Laid BY PROGRAM, IN A SANDBOX (cutbox-rows.mjs): the forced cells as the released guide's own fill.sh prints them over the translation 5a9a19fcc0e59aaf… (all of the seat's roots in one cut). By AI agents, Wed Nov 11 2026. No macro, syntax, notation, axiom, sorry.
-/
import Derived.Test.YtdjihncfoghbgaaChecked
import GoSem.Claim
import GoSem.ClaimJoined
import GoSem.ClaimMapViews
import Derived.JoinedTies
import Derived.KernelRfl
namespace Go.Proofs.Ytdjihncfoghbgaa
/- THE CELL 'sum', in the pinned program and in every row, IS THE sha256 OF THE DUMP (.gsa) THAT YtdjihncfoghbgaaProg.lean LOADS. Nothing in Lean hashes anything: it is a label: what it is worth is what the hold of that sum in a sandbox is worth. -/
noncomputable def Try.pinned : Pinned := { name := "ytdjihncfoghbgaa", sum := "5a9a19fcc0e59aaf618b64ba8bd2f7746c2a25aaec510e540c59964b55f1e7a0", checked := Try.checked }
namespace Rows
def none {H : Type} : Left H := { results := [], args := [] }

/-- 'laws.FnExactConstants': WHATEVER THE INPUT: true; the input reads as it did. -/
def fnExactConstantsSpec : ChangeSpec := { name := "fnExactConstants", fn := fun _ => fun
  | [] => { results := [.lit (.bool true)], args := [] }
  | _ => none }
def fnExactConstantsRow : OpenClaim := { program := "ytdjihncfoghbgaa", sum := "5a9a19fcc0e59aaf618b64ba8bd2f7746c2a25aaec510e540c59964b55f1e7a0", func := "loop.example/refcountml/laws.FnExactConstants", spec := "fnExactConstants", apart := false }
def FnExactConstantsSaid : Prop := fnExactConstantsRow.holds Try.pinned (OpenSpec.ofChange fnExactConstantsSpec)

/-- ITS FALSE NEIGHBOUR: 'it returns false'. Refute it at one input. -/
def fnExactConstantsWrong : ChangeSpec := { name := "fnExactConstants", fn := fun _ => fun
  | [] => { results := [.lit (.bool false)], args := [] }
  | _ => none }
def FnExactConstantsWrongFalsely : Prop := fnExactConstantsRow.holds Try.pinned (OpenSpec.ofChange fnExactConstantsWrong)

/-- 'laws.FnExactPrim': WHATEVER THE INPUT: true; the input reads as it did. -/
def fnExactPrimSpec : ChangeSpec := { name := "fnExactPrim", fn := fun _ => fun
  | [d1, d2, d3] => { results := [.lit (.bool true)], args := [d1, d2, d3] }
  | _ => none }
def fnExactPrimRow : OpenClaim := { program := "ytdjihncfoghbgaa", sum := "5a9a19fcc0e59aaf618b64ba8bd2f7746c2a25aaec510e540c59964b55f1e7a0", func := "loop.example/refcountml/laws.FnExactPrim", spec := "fnExactPrim", apart := false }
def FnExactPrimSaid : Prop := fnExactPrimRow.holds Try.pinned (OpenSpec.ofChange fnExactPrimSpec)

/-- ITS FALSE NEIGHBOUR: 'it returns false'. Refute it at one input. -/
def fnExactPrimWrong : ChangeSpec := { name := "fnExactPrim", fn := fun _ => fun
  | [d1, d2, d3] => { results := [.lit (.bool false)], args := [d1, d2, d3] }
  | _ => none }
def FnExactPrimWrongFalsely : Prop := fnExactPrimRow.holds Try.pinned (OpenSpec.ofChange fnExactPrimWrong)

/-- 'laws.FnPrim': WHATEVER THE INPUT: true; the input reads as it did. -/
def fnPrimSpec : ChangeSpec := { name := "fnPrim", fn := fun _ => fun
  | [d] => { results := [.lit (.bool true)], args := [d] }
  | _ => none }
def fnPrimRow : OpenClaim := { program := "ytdjihncfoghbgaa", sum := "5a9a19fcc0e59aaf618b64ba8bd2f7746c2a25aaec510e540c59964b55f1e7a0", func := "loop.example/refcountml/laws.FnPrim", spec := "fnPrim", apart := false }
def FnPrimSaid : Prop := fnPrimRow.holds Try.pinned (OpenSpec.ofChange fnPrimSpec)

/-- ITS FALSE NEIGHBOUR: 'it returns false'. Refute it at one input. -/
def fnPrimWrong : ChangeSpec := { name := "fnPrim", fn := fun _ => fun
  | [d] => { results := [.lit (.bool false)], args := [d] }
  | _ => none }
def FnPrimWrongFalsely : Prop := fnPrimRow.holds Try.pinned (OpenSpec.ofChange fnPrimWrong)

/-- 'laws.FnPrimLess': WHATEVER THE INPUT: true; the input reads as it did. -/
def fnPrimLessSpec : ChangeSpec := { name := "fnPrimLess", fn := fun _ => fun
  | [d] => { results := [.lit (.bool true)], args := [d] }
  | _ => none }
def fnPrimLessRow : OpenClaim := { program := "ytdjihncfoghbgaa", sum := "5a9a19fcc0e59aaf618b64ba8bd2f7746c2a25aaec510e540c59964b55f1e7a0", func := "loop.example/refcountml/laws.FnPrimLess", spec := "fnPrimLess", apart := false }
def FnPrimLessSaid : Prop := fnPrimLessRow.holds Try.pinned (OpenSpec.ofChange fnPrimLessSpec)

/-- ITS FALSE NEIGHBOUR: 'it returns false'. Refute it at one input. -/
def fnPrimLessWrong : ChangeSpec := { name := "fnPrimLess", fn := fun _ => fun
  | [d] => { results := [.lit (.bool false)], args := [d] }
  | _ => none }
def FnPrimLessWrongFalsely : Prop := fnPrimLessRow.holds Try.pinned (OpenSpec.ofChange fnPrimLessWrong)

/-- 'laws.FnPrimSub': WHATEVER THE INPUT: true; the input reads as it did. -/
def fnPrimSubSpec : ChangeSpec := { name := "fnPrimSub", fn := fun _ => fun
  | [d] => { results := [.lit (.bool true)], args := [d] }
  | _ => none }
def fnPrimSubRow : OpenClaim := { program := "ytdjihncfoghbgaa", sum := "5a9a19fcc0e59aaf618b64ba8bd2f7746c2a25aaec510e540c59964b55f1e7a0", func := "loop.example/refcountml/laws.FnPrimSub", spec := "fnPrimSub", apart := false }
def FnPrimSubSaid : Prop := fnPrimSubRow.holds Try.pinned (OpenSpec.ofChange fnPrimSubSpec)

/-- ITS FALSE NEIGHBOUR: 'it returns false'. Refute it at one input. -/
def fnPrimSubWrong : ChangeSpec := { name := "fnPrimSub", fn := fun _ => fun
  | [d] => { results := [.lit (.bool false)], args := [d] }
  | _ => none }
def FnPrimSubWrongFalsely : Prop := fnPrimSubRow.holds Try.pinned (OpenSpec.ofChange fnPrimSubWrong)

/- THE SECOND FORM. 'bulk': how many values and letters a reading holds, each counted each time it is reached (what is shared counts as often as it is met; a slice's spare places count too). A statement '..UptoSaid' is the law's where the arguments, and the package variables that the reading takes, are together of bulk at most 1048576: NARROWER than '..Said'. Prove '..Said' where nothing that the law and all that it calls make is longer than what came in: it says more and counts as full. Else prove '..UptoSaid'. A law counts once. -/
mutual
def uptoBulk {H : Type} : DataW H → Nat
  | .lit (.string bytes) => bytes.length + 1
  | .lit _ => 1
  | .nil => 1
  | .ptr d => uptoBulk d + 1
  | .slice elems spare => uptoBulkAll elems + uptoBulkAll spare + 1
  | .agg parts => uptoBulkAll parts + 1
  | .iface _ d => uptoBulk d + 1
  | .map entries => uptoBulkEntries entries + 1
  | .held _ => 1
def uptoBulkAll {H : Type} : List (DataW H) → Nat
  | [] => 0
  | d :: r => uptoBulk d + uptoBulkAll r
def uptoBulkEntries {H : Type} : List (Lit × DataW H) → Nat
  | [] => 0
  | x :: r => uptoBulkEntry x + uptoBulkEntries r
def uptoBulkEntry {H : Type} : Lit × DataW H → Nat
  | (.string bytes, d) => bytes.length + uptoBulk d + 1
  | (_, d) => uptoBulk d + 1
 end
def uptoSmall : (H : Type) → List (DataW H) → Bool := fun _ ds => decide (uptoBulkAll ds ≤ 1048576)
def OpenSpec.upto (s : _root_.Go.ChangeSpec) : _root_.Go.OpenSpec := { _root_.Go.OpenSpec.ofChange s with cond := some uptoSmall }

/-- 'laws.FnExactConstants', WHERE WHAT IT READS IS OF BULK AT MOST 1048576: true; the input reads as it did. -/
def fnExactConstantsUptoRow : OpenClaim := { program := "ytdjihncfoghbgaa", sum := "5a9a19fcc0e59aaf618b64ba8bd2f7746c2a25aaec510e540c59964b55f1e7a0", func := "loop.example/refcountml/laws.FnExactConstants", spec := "fnExactConstants", apart := false, narrowed := true }
def FnExactConstantsUptoSaid : Prop := fnExactConstantsUptoRow.holds Try.pinned (OpenSpec.upto fnExactConstantsSpec)

/-- 'laws.FnExactPrim', WHERE WHAT IT READS IS OF BULK AT MOST 1048576: true; the input reads as it did. -/
def fnExactPrimUptoRow : OpenClaim := { program := "ytdjihncfoghbgaa", sum := "5a9a19fcc0e59aaf618b64ba8bd2f7746c2a25aaec510e540c59964b55f1e7a0", func := "loop.example/refcountml/laws.FnExactPrim", spec := "fnExactPrim", apart := false, narrowed := true }
def FnExactPrimUptoSaid : Prop := fnExactPrimUptoRow.holds Try.pinned (OpenSpec.upto fnExactPrimSpec)

/-- 'laws.FnPrim', WHERE WHAT IT READS IS OF BULK AT MOST 1048576: true; the input reads as it did. -/
def fnPrimUptoRow : OpenClaim := { program := "ytdjihncfoghbgaa", sum := "5a9a19fcc0e59aaf618b64ba8bd2f7746c2a25aaec510e540c59964b55f1e7a0", func := "loop.example/refcountml/laws.FnPrim", spec := "fnPrim", apart := false, narrowed := true }
def FnPrimUptoSaid : Prop := fnPrimUptoRow.holds Try.pinned (OpenSpec.upto fnPrimSpec)

/-- 'laws.FnPrimLess', WHERE WHAT IT READS IS OF BULK AT MOST 1048576: true; the input reads as it did. -/
def fnPrimLessUptoRow : OpenClaim := { program := "ytdjihncfoghbgaa", sum := "5a9a19fcc0e59aaf618b64ba8bd2f7746c2a25aaec510e540c59964b55f1e7a0", func := "loop.example/refcountml/laws.FnPrimLess", spec := "fnPrimLess", apart := false, narrowed := true }
def FnPrimLessUptoSaid : Prop := fnPrimLessUptoRow.holds Try.pinned (OpenSpec.upto fnPrimLessSpec)

/-- 'laws.FnPrimSub', WHERE WHAT IT READS IS OF BULK AT MOST 1048576: true; the input reads as it did. -/
def fnPrimSubUptoRow : OpenClaim := { program := "ytdjihncfoghbgaa", sum := "5a9a19fcc0e59aaf618b64ba8bd2f7746c2a25aaec510e540c59964b55f1e7a0", func := "loop.example/refcountml/laws.FnPrimSub", spec := "fnPrimSub", apart := false, narrowed := true }
def FnPrimSubUptoSaid : Prop := fnPrimSubUptoRow.holds Try.pinned (OpenSpec.upto fnPrimSubSpec)

end Rows
end Go.Proofs.Ytdjihncfoghbgaa
