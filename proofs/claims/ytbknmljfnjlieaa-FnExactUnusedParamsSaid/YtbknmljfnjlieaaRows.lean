/-
  NARROWER THAN 'FOR EVERY INPUT', by the rows' own cells (each row's printed sentence says how): FnExactTypeOf: loops · FnExactValidProgram: loops · FnExactUnusedParams: loops · FnExactCalleesOf: loops · FnExactBlockType: loops · FnExactValidNormal: loops · FnExactReachedFrom: loops.
  DERIVED. THE GIVEN ROWS OF THIS SEAT. 7 by the template 'for every input the law returns true; each argument reads behind the call as it read before'; 0 by the template 'total and deterministic' (their statements: YtbknmljfnjlieaaTotals.lean).
  GIVEN WITH THE SEED: the statements are not yours to turn. If you find one false, say at which input.
  Laid BY PROGRAM, IN A SANDBOX (cutbox-rows.mjs): the forced cells as the released guide's own fill.sh prints them over the translation 8a43245662d01fbf… (all of the seat's roots in one cut). By AI agents, Wed Nov 11 2026. No macro, syntax, notation, axiom, sorry.
-/
import Derived.Test.YtbknmljfnjlieaaChecked
import GoSem.Claim
import GoSem.ClaimJoined
import GoSem.ClaimMapViews
import Derived.JoinedTies
import Derived.KernelRfl
namespace Go.Proofs.Ytbknmljfnjlieaa
/- THE CELL 'sum', in the pinned program and in every row, IS THE sha256 OF THE DUMP (.gsa) THAT YtbknmljfnjlieaaProg.lean LOADS. Nothing in Lean hashes anything: it is a label: what it is worth is what the hold of that sum in a sandbox is worth. -/
noncomputable def Try.pinned : Pinned := { name := "ytbknmljfnjlieaa", sum := "8a43245662d01fbfa26929e66910c682a0c87edf073c76f739efc9ccff718866", checked := Try.checked }
namespace Rows
def none {H : Type} : Left H := { results := [], args := [] }

/-- 'laws.FnExactTypeOf': WHATEVER THE INPUT: true; the input reads as it did. -/
def fnExactTypeOfSpec : ChangeSpec := { name := "fnExactTypeOf", fn := fun _ => fun
  | [d1, d2, d3] => { results := [.lit (.bool true)], args := [d1, d2, d3] }
  | _ => none }
def fnExactTypeOfRow : OpenClaim := { program := "ytbknmljfnjlieaa", sum := "8a43245662d01fbfa26929e66910c682a0c87edf073c76f739efc9ccff718866", func := "loop.example/refcountml/laws.FnExactTypeOf", spec := "fnExactTypeOf", recurses := true, loops := true, apart := false }
def FnExactTypeOfSaid : Prop := fnExactTypeOfRow.holds Try.pinned (OpenSpec.ofChange fnExactTypeOfSpec)

/-- ITS FALSE NEIGHBOUR: 'it returns false'. Refute it at one input. -/
def fnExactTypeOfWrong : ChangeSpec := { name := "fnExactTypeOf", fn := fun _ => fun
  | [d1, d2, d3] => { results := [.lit (.bool false)], args := [d1, d2, d3] }
  | _ => none }
def FnExactTypeOfWrongFalsely : Prop := fnExactTypeOfRow.holds Try.pinned (OpenSpec.ofChange fnExactTypeOfWrong)

/-- 'laws.FnExactValidProgram': WHATEVER THE INPUT: true; the input reads as it did. -/
def fnExactValidProgramSpec : ChangeSpec := { name := "fnExactValidProgram", fn := fun _ => fun
  | [d] => { results := [.lit (.bool true)], args := [d] }
  | _ => none }
def fnExactValidProgramRow : OpenClaim := { program := "ytbknmljfnjlieaa", sum := "8a43245662d01fbfa26929e66910c682a0c87edf073c76f739efc9ccff718866", func := "loop.example/refcountml/laws.FnExactValidProgram", spec := "fnExactValidProgram", recurses := true, loops := true, apart := false }
def FnExactValidProgramSaid : Prop := fnExactValidProgramRow.holds Try.pinned (OpenSpec.ofChange fnExactValidProgramSpec)

/-- ITS FALSE NEIGHBOUR: 'it returns false'. Refute it at one input. -/
def fnExactValidProgramWrong : ChangeSpec := { name := "fnExactValidProgram", fn := fun _ => fun
  | [d] => { results := [.lit (.bool false)], args := [d] }
  | _ => none }
def FnExactValidProgramWrongFalsely : Prop := fnExactValidProgramRow.holds Try.pinned (OpenSpec.ofChange fnExactValidProgramWrong)

/-- 'laws.FnExactUnusedParams': WHATEVER THE INPUT: true; the input reads as it did. -/
def fnExactUnusedParamsSpec : ChangeSpec := { name := "fnExactUnusedParams", fn := fun _ => fun
  | [d1, d2] => { results := [.lit (.bool true)], args := [d1, d2] }
  | _ => none }
def fnExactUnusedParamsRow : OpenClaim := { program := "ytbknmljfnjlieaa", sum := "8a43245662d01fbfa26929e66910c682a0c87edf073c76f739efc9ccff718866", func := "loop.example/refcountml/laws.FnExactUnusedParams", spec := "fnExactUnusedParams", unfollowed := true, recurses := true, loops := true, apart := false }
def FnExactUnusedParamsSaid : Prop := fnExactUnusedParamsRow.holds Try.pinned (OpenSpec.ofChange fnExactUnusedParamsSpec)

/-- ITS FALSE NEIGHBOUR: 'it returns false'. Refute it at one input. -/
def fnExactUnusedParamsWrong : ChangeSpec := { name := "fnExactUnusedParams", fn := fun _ => fun
  | [d1, d2] => { results := [.lit (.bool false)], args := [d1, d2] }
  | _ => none }
def FnExactUnusedParamsWrongFalsely : Prop := fnExactUnusedParamsRow.holds Try.pinned (OpenSpec.ofChange fnExactUnusedParamsWrong)

/-- 'laws.FnExactCalleesOf': WHATEVER THE INPUT: true; the input reads as it did. -/
def fnExactCalleesOfSpec : ChangeSpec := { name := "fnExactCalleesOf", fn := fun _ => fun
  | [d1, d2] => { results := [.lit (.bool true)], args := [d1, d2] }
  | _ => none }
def fnExactCalleesOfRow : OpenClaim := { program := "ytbknmljfnjlieaa", sum := "8a43245662d01fbfa26929e66910c682a0c87edf073c76f739efc9ccff718866", func := "loop.example/refcountml/laws.FnExactCalleesOf", spec := "fnExactCalleesOf", unfollowed := true, recurses := true, loops := true, apart := false }
def FnExactCalleesOfSaid : Prop := fnExactCalleesOfRow.holds Try.pinned (OpenSpec.ofChange fnExactCalleesOfSpec)

/-- ITS FALSE NEIGHBOUR: 'it returns false'. Refute it at one input. -/
def fnExactCalleesOfWrong : ChangeSpec := { name := "fnExactCalleesOf", fn := fun _ => fun
  | [d1, d2] => { results := [.lit (.bool false)], args := [d1, d2] }
  | _ => none }
def FnExactCalleesOfWrongFalsely : Prop := fnExactCalleesOfRow.holds Try.pinned (OpenSpec.ofChange fnExactCalleesOfWrong)

/-- 'laws.FnExactBlockType': WHATEVER THE INPUT: true; the input reads as it did. -/
def fnExactBlockTypeSpec : ChangeSpec := { name := "fnExactBlockType", fn := fun _ => fun
  | [d1, d2, d3] => { results := [.lit (.bool true)], args := [d1, d2, d3] }
  | _ => none }
def fnExactBlockTypeRow : OpenClaim := { program := "ytbknmljfnjlieaa", sum := "8a43245662d01fbfa26929e66910c682a0c87edf073c76f739efc9ccff718866", func := "loop.example/refcountml/laws.FnExactBlockType", spec := "fnExactBlockType", recurses := true, loops := true, apart := false }
def FnExactBlockTypeSaid : Prop := fnExactBlockTypeRow.holds Try.pinned (OpenSpec.ofChange fnExactBlockTypeSpec)

/-- ITS FALSE NEIGHBOUR: 'it returns false'. Refute it at one input. -/
def fnExactBlockTypeWrong : ChangeSpec := { name := "fnExactBlockType", fn := fun _ => fun
  | [d1, d2, d3] => { results := [.lit (.bool false)], args := [d1, d2, d3] }
  | _ => none }
def FnExactBlockTypeWrongFalsely : Prop := fnExactBlockTypeRow.holds Try.pinned (OpenSpec.ofChange fnExactBlockTypeWrong)

/-- 'laws.FnExactValidNormal': WHATEVER THE INPUT: true; the input reads as it did. -/
def fnExactValidNormalSpec : ChangeSpec := { name := "fnExactValidNormal", fn := fun _ => fun
  | [d] => { results := [.lit (.bool true)], args := [d] }
  | _ => none }
def fnExactValidNormalRow : OpenClaim := { program := "ytbknmljfnjlieaa", sum := "8a43245662d01fbfa26929e66910c682a0c87edf073c76f739efc9ccff718866", func := "loop.example/refcountml/laws.FnExactValidNormal", spec := "fnExactValidNormal", recurses := true, loops := true, apart := false }
def FnExactValidNormalSaid : Prop := fnExactValidNormalRow.holds Try.pinned (OpenSpec.ofChange fnExactValidNormalSpec)

/-- ITS FALSE NEIGHBOUR: 'it returns false'. Refute it at one input. -/
def fnExactValidNormalWrong : ChangeSpec := { name := "fnExactValidNormal", fn := fun _ => fun
  | [d] => { results := [.lit (.bool false)], args := [d] }
  | _ => none }
def FnExactValidNormalWrongFalsely : Prop := fnExactValidNormalRow.holds Try.pinned (OpenSpec.ofChange fnExactValidNormalWrong)

/-- 'laws.FnExactReachedFrom': WHATEVER THE INPUT: true; the input reads as it did. -/
def fnExactReachedFromSpec : ChangeSpec := { name := "fnExactReachedFrom", fn := fun _ => fun
  | [d1, d2] => { results := [.lit (.bool true)], args := [d1, d2] }
  | _ => none }
def fnExactReachedFromRow : OpenClaim := { program := "ytbknmljfnjlieaa", sum := "8a43245662d01fbfa26929e66910c682a0c87edf073c76f739efc9ccff718866", func := "loop.example/refcountml/laws.FnExactReachedFrom", spec := "fnExactReachedFrom", unfollowed := true, recurses := true, loops := true, apart := false }
def FnExactReachedFromSaid : Prop := fnExactReachedFromRow.holds Try.pinned (OpenSpec.ofChange fnExactReachedFromSpec)

/-- ITS FALSE NEIGHBOUR: 'it returns false'. Refute it at one input. -/
def fnExactReachedFromWrong : ChangeSpec := { name := "fnExactReachedFrom", fn := fun _ => fun
  | [d1, d2] => { results := [.lit (.bool false)], args := [d1, d2] }
  | _ => none }
def FnExactReachedFromWrongFalsely : Prop := fnExactReachedFromRow.holds Try.pinned (OpenSpec.ofChange fnExactReachedFromWrong)

/- THE SECOND FORM. 'bulk': how many values and letters a reading holds, each counted each time it is reached (what is shared counts as often as it is met; a slice's spare places count too). A statement '..UptoSaid' is the law's where the arguments, and the package variables that the reading takes, are together of bulk at most 1048576: NARROWER than '..Said'. Prove '..Said' where nothing that the law and all that it calls make is longer than what came in: it says more and counts as full. Else prove '..UptoSaid'. A law counts once. -/
mutual
def uptoBulk {H : Type} : DataW H → Nat
  | .lit (.string bytes) => bytes.length + 1
  | .lit _ => 1
  | .nil => 1
  | .ptr d => uptoBulk d + 1
  | .slice elems spare => uptoBulkAll elems + uptoBulkAll spare + 1
  | .agg parts => uptoBulkAll parts + 1
  | .iface _ d => uptoBulk d + 1
  | .map entries => uptoBulkEntries entries + 1
  | .held _ => 1
def uptoBulkAll {H : Type} : List (DataW H) → Nat
  | [] => 0
  | d :: r => uptoBulk d + uptoBulkAll r
def uptoBulkEntries {H : Type} : List (Lit × DataW H) → Nat
  | [] => 0
  | x :: r => uptoBulkEntry x + uptoBulkEntries r
def uptoBulkEntry {H : Type} : Lit × DataW H → Nat
  | (.string bytes, d) => bytes.length + uptoBulk d + 1
  | (_, d) => uptoBulk d + 1
 end
def uptoSmall : (H : Type) → List (DataW H) → Bool := fun _ ds => decide (uptoBulkAll ds ≤ 1048576)
def OpenSpec.upto (s : _root_.Go.ChangeSpec) : _root_.Go.OpenSpec := { _root_.Go.OpenSpec.ofChange s with cond := some uptoSmall }

/-- 'laws.FnExactTypeOf', WHERE WHAT IT READS IS OF BULK AT MOST 1048576: true; the input reads as it did. -/
def fnExactTypeOfUptoRow : OpenClaim := { program := "ytbknmljfnjlieaa", sum := "8a43245662d01fbfa26929e66910c682a0c87edf073c76f739efc9ccff718866", func := "loop.example/refcountml/laws.FnExactTypeOf", spec := "fnExactTypeOf", recurses := true, loops := true, apart := false, narrowed := true }
def FnExactTypeOfUptoSaid : Prop := fnExactTypeOfUptoRow.holds Try.pinned (OpenSpec.upto fnExactTypeOfSpec)

/-- 'laws.FnExactValidProgram', WHERE WHAT IT READS IS OF BULK AT MOST 1048576: true; the input reads as it did. -/
def fnExactValidProgramUptoRow : OpenClaim := { program := "ytbknmljfnjlieaa", sum := "8a43245662d01fbfa26929e66910c682a0c87edf073c76f739efc9ccff718866", func := "loop.example/refcountml/laws.FnExactValidProgram", spec := "fnExactValidProgram", recurses := true, loops := true, apart := false, narrowed := true }
def FnExactValidProgramUptoSaid : Prop := fnExactValidProgramUptoRow.holds Try.pinned (OpenSpec.upto fnExactValidProgramSpec)

/-- 'laws.FnExactUnusedParams', WHERE WHAT IT READS IS OF BULK AT MOST 1048576: true; the input reads as it did. -/
def fnExactUnusedParamsUptoRow : OpenClaim := { program := "ytbknmljfnjlieaa", sum := "8a43245662d01fbfa26929e66910c682a0c87edf073c76f739efc9ccff718866", func := "loop.example/refcountml/laws.FnExactUnusedParams", spec := "fnExactUnusedParams", unfollowed := true, recurses := true, loops := true, apart := false, narrowed := true }
def FnExactUnusedParamsUptoSaid : Prop := fnExactUnusedParamsUptoRow.holds Try.pinned (OpenSpec.upto fnExactUnusedParamsSpec)

/-- 'laws.FnExactCalleesOf', WHERE WHAT IT READS IS OF BULK AT MOST 1048576: true; the input reads as it did. -/
def fnExactCalleesOfUptoRow : OpenClaim := { program := "ytbknmljfnjlieaa", sum := "8a43245662d01fbfa26929e66910c682a0c87edf073c76f739efc9ccff718866", func := "loop.example/refcountml/laws.FnExactCalleesOf", spec := "fnExactCalleesOf", unfollowed := true, recurses := true, loops := true, apart := false, narrowed := true }
def FnExactCalleesOfUptoSaid : Prop := fnExactCalleesOfUptoRow.holds Try.pinned (OpenSpec.upto fnExactCalleesOfSpec)

/-- 'laws.FnExactBlockType', WHERE WHAT IT READS IS OF BULK AT MOST 1048576: true; the input reads as it did. -/
def fnExactBlockTypeUptoRow : OpenClaim := { program := "ytbknmljfnjlieaa", sum := "8a43245662d01fbfa26929e66910c682a0c87edf073c76f739efc9ccff718866", func := "loop.example/refcountml/laws.FnExactBlockType", spec := "fnExactBlockType", recurses := true, loops := true, apart := false, narrowed := true }
def FnExactBlockTypeUptoSaid : Prop := fnExactBlockTypeUptoRow.holds Try.pinned (OpenSpec.upto fnExactBlockTypeSpec)

/-- 'laws.FnExactValidNormal', WHERE WHAT IT READS IS OF BULK AT MOST 1048576: true; the input reads as it did. -/
def fnExactValidNormalUptoRow : OpenClaim := { program := "ytbknmljfnjlieaa", sum := "8a43245662d01fbfa26929e66910c682a0c87edf073c76f739efc9ccff718866", func := "loop.example/refcountml/laws.FnExactValidNormal", spec := "fnExactValidNormal", recurses := true, loops := true, apart := false, narrowed := true }
def FnExactValidNormalUptoSaid : Prop := fnExactValidNormalUptoRow.holds Try.pinned (OpenSpec.upto fnExactValidNormalSpec)

/-- 'laws.FnExactReachedFrom', WHERE WHAT IT READS IS OF BULK AT MOST 1048576: true; the input reads as it did. -/
def fnExactReachedFromUptoRow : OpenClaim := { program := "ytbknmljfnjlieaa", sum := "8a43245662d01fbfa26929e66910c682a0c87edf073c76f739efc9ccff718866", func := "loop.example/refcountml/laws.FnExactReachedFrom", spec := "fnExactReachedFrom", unfollowed := true, recurses := true, loops := true, apart := false, narrowed := true }
def FnExactReachedFromUptoSaid : Prop := fnExactReachedFromUptoRow.holds Try.pinned (OpenSpec.upto fnExactReachedFromSpec)

end Rows
end Go.Proofs.Ytbknmljfnjlieaa
