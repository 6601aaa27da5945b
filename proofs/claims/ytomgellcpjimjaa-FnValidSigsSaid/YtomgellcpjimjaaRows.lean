/-
  No cell of these rows narrows 'for every input' (looked for: loops, veiled, ifaces, maps, wideKeys, modest, calm, conditions, laid).
  DERIVED. THE GIVEN ROWS OF THIS SEAT. 17 by the template 'for every input the law returns true; each argument reads behind the call as it read before'; 0 by the template 'total and deterministic' (their statements: YtomgellcpjimjaaTotals.lean).
  GIVEN WITH THE SEED: the statements are not yours to turn. If you find one false, say at which input.
  Laid BY PROGRAM, IN A SANDBOX (cutbox-rows.mjs): the forced cells as the released guide's own fill.sh prints them over the translation 0eeeb47d22823f99… (all of the seat's roots in one cut). By AI agents, Wed Nov 11 2026. No macro, syntax, notation, axiom, sorry.
-/
import Derived.Test.YtomgellcpjimjaaChecked
import GoSem.Claim
import GoSem.ClaimJoined
import GoSem.ClaimMapViews
import Derived.JoinedTies
import Derived.KernelRfl
namespace Go.Proofs.Ytomgellcpjimjaa
/- THE CELL 'sum', in the pinned program and in every row, IS THE sha256 OF THE DUMP (.gsa) THAT YtomgellcpjimjaaProg.lean LOADS. Nothing in Lean hashes anything: it is a label: what it is worth is what the hold of that sum in a sandbox is worth. -/
noncomputable def Try.pinned : Pinned := { name := "ytomgellcpjimjaa", sum := "0eeeb47d22823f996456fedbff12034ee40d4a1b49ca5b741620f7c3e14c57d8", checked := Try.checked }
namespace Rows
def none {H : Type} : Left H := { results := [], args := [] }

/-- 'laws.FnNodesOf': WHATEVER THE INPUT: true; the input reads as it did. -/
def fnNodesOfSpec : ChangeSpec := { name := "fnNodesOf", fn := fun _ => fun
  | [d] => { results := [.lit (.bool true)], args := [d] }
  | _ => none }
def fnNodesOfRow : OpenClaim := { program := "ytomgellcpjimjaa", sum := "0eeeb47d22823f996456fedbff12034ee40d4a1b49ca5b741620f7c3e14c57d8", func := "loop.example/refcountml/laws.FnNodesOf", spec := "fnNodesOf", recurses := true, apart := false }
def FnNodesOfSaid : Prop := fnNodesOfRow.holds Try.pinned (OpenSpec.ofChange fnNodesOfSpec)

/-- ITS FALSE NEIGHBOUR: 'it returns false'. Refute it at one input. -/
def fnNodesOfWrong : ChangeSpec := { name := "fnNodesOf", fn := fun _ => fun
  | [d] => { results := [.lit (.bool false)], args := [d] }
  | _ => none }
def FnNodesOfWrongFalsely : Prop := fnNodesOfRow.holds Try.pinned (OpenSpec.ofChange fnNodesOfWrong)

/-- 'laws.FnNodesOfTwo': WHATEVER THE INPUT: true; the input reads as it did. -/
def fnNodesOfTwoSpec : ChangeSpec := { name := "fnNodesOfTwo", fn := fun _ => fun
  | [d] => { results := [.lit (.bool true)], args := [d] }
  | _ => none }
def fnNodesOfTwoRow : OpenClaim := { program := "ytomgellcpjimjaa", sum := "0eeeb47d22823f996456fedbff12034ee40d4a1b49ca5b741620f7c3e14c57d8", func := "loop.example/refcountml/laws.FnNodesOfTwo", spec := "fnNodesOfTwo", recurses := true, apart := false }
def FnNodesOfTwoSaid : Prop := fnNodesOfTwoRow.holds Try.pinned (OpenSpec.ofChange fnNodesOfTwoSpec)

/-- ITS FALSE NEIGHBOUR: 'it returns false'. Refute it at one input. -/
def fnNodesOfTwoWrong : ChangeSpec := { name := "fnNodesOfTwo", fn := fun _ => fun
  | [d] => { results := [.lit (.bool false)], args := [d] }
  | _ => none }
def FnNodesOfTwoWrongFalsely : Prop := fnNodesOfTwoRow.holds Try.pinned (OpenSpec.ofChange fnNodesOfTwoWrong)

/-- 'laws.FnMentionsOf': WHATEVER THE INPUT: true; the input reads as it did. -/
def fnMentionsOfSpec : ChangeSpec := { name := "fnMentionsOf", fn := fun _ => fun
  | [d] => { results := [.lit (.bool true)], args := [d] }
  | _ => none }
def fnMentionsOfRow : OpenClaim := { program := "ytomgellcpjimjaa", sum := "0eeeb47d22823f996456fedbff12034ee40d4a1b49ca5b741620f7c3e14c57d8", func := "loop.example/refcountml/laws.FnMentionsOf", spec := "fnMentionsOf", unfollowed := true, recurses := true, apart := false }
def FnMentionsOfSaid : Prop := fnMentionsOfRow.holds Try.pinned (OpenSpec.ofChange fnMentionsOfSpec)

/-- ITS FALSE NEIGHBOUR: 'it returns false'. Refute it at one input. -/
def fnMentionsOfWrong : ChangeSpec := { name := "fnMentionsOf", fn := fun _ => fun
  | [d] => { results := [.lit (.bool false)], args := [d] }
  | _ => none }
def FnMentionsOfWrongFalsely : Prop := fnMentionsOfRow.holds Try.pinned (OpenSpec.ofChange fnMentionsOfWrong)

/-- 'laws.FnShift': WHATEVER THE INPUT: true; the input reads as it did. -/
def fnShiftSpec : ChangeSpec := { name := "fnShift", fn := fun _ => fun
  | [d] => { results := [.lit (.bool true)], args := [d] }
  | _ => none }
def fnShiftRow : OpenClaim := { program := "ytomgellcpjimjaa", sum := "0eeeb47d22823f996456fedbff12034ee40d4a1b49ca5b741620f7c3e14c57d8", func := "loop.example/refcountml/laws.FnShift", spec := "fnShift", unfollowed := true, recurses := true, apart := false }
def FnShiftSaid : Prop := fnShiftRow.holds Try.pinned (OpenSpec.ofChange fnShiftSpec)

/-- ITS FALSE NEIGHBOUR: 'it returns false'. Refute it at one input. -/
def fnShiftWrong : ChangeSpec := { name := "fnShift", fn := fun _ => fun
  | [d] => { results := [.lit (.bool false)], args := [d] }
  | _ => none }
def FnShiftWrongFalsely : Prop := fnShiftRow.holds Try.pinned (OpenSpec.ofChange fnShiftWrong)

/-- 'laws.FnShiftTwice': WHATEVER THE INPUT: true; the input reads as it did. -/
def fnShiftTwiceSpec : ChangeSpec := { name := "fnShiftTwice", fn := fun _ => fun
  | [d] => { results := [.lit (.bool true)], args := [d] }
  | _ => none }
def fnShiftTwiceRow : OpenClaim := { program := "ytomgellcpjimjaa", sum := "0eeeb47d22823f996456fedbff12034ee40d4a1b49ca5b741620f7c3e14c57d8", func := "loop.example/refcountml/laws.FnShiftTwice", spec := "fnShiftTwice", unfollowed := true, recurses := true, apart := false }
def FnShiftTwiceSaid : Prop := fnShiftTwiceRow.holds Try.pinned (OpenSpec.ofChange fnShiftTwiceSpec)

/-- ITS FALSE NEIGHBOUR: 'it returns false'. Refute it at one input. -/
def fnShiftTwiceWrong : ChangeSpec := { name := "fnShiftTwice", fn := fun _ => fun
  | [d] => { results := [.lit (.bool false)], args := [d] }
  | _ => none }
def FnShiftTwiceWrongFalsely : Prop := fnShiftTwiceRow.holds Try.pinned (OpenSpec.ofChange fnShiftTwiceWrong)

/-- 'laws.FnShiftMentions': WHATEVER THE INPUT: true; the input reads as it did. -/
def fnShiftMentionsSpec : ChangeSpec := { name := "fnShiftMentions", fn := fun _ => fun
  | [d] => { results := [.lit (.bool true)], args := [d] }
  | _ => none }
def fnShiftMentionsRow : OpenClaim := { program := "ytomgellcpjimjaa", sum := "0eeeb47d22823f996456fedbff12034ee40d4a1b49ca5b741620f7c3e14c57d8", func := "loop.example/refcountml/laws.FnShiftMentions", spec := "fnShiftMentions", unfollowed := true, recurses := true, apart := false }
def FnShiftMentionsSaid : Prop := fnShiftMentionsRow.holds Try.pinned (OpenSpec.ofChange fnShiftMentionsSpec)

/-- ITS FALSE NEIGHBOUR: 'it returns false'. Refute it at one input. -/
def fnShiftMentionsWrong : ChangeSpec := { name := "fnShiftMentions", fn := fun _ => fun
  | [d] => { results := [.lit (.bool false)], args := [d] }
  | _ => none }
def FnShiftMentionsWrongFalsely : Prop := fnShiftMentionsRow.holds Try.pinned (OpenSpec.ofChange fnShiftMentionsWrong)

/-- 'laws.FnValidSigs': WHATEVER THE INPUT: true; the input reads as it did. -/
def fnValidSigsSpec : ChangeSpec := { name := "fnValidSigs", fn := fun _ => fun
  | [d] => { results := [.lit (.bool true)], args := [d] }
  | _ => none }
def fnValidSigsRow : OpenClaim := { program := "ytomgellcpjimjaa", sum := "0eeeb47d22823f996456fedbff12034ee40d4a1b49ca5b741620f7c3e14c57d8", func := "loop.example/refcountml/laws.FnValidSigs", spec := "fnValidSigs", recurses := true, apart := false }
def FnValidSigsSaid : Prop := fnValidSigsRow.holds Try.pinned (OpenSpec.ofChange fnValidSigsSpec)

/-- ITS FALSE NEIGHBOUR: 'it returns false'. Refute it at one input. -/
def fnValidSigsWrong : ChangeSpec := { name := "fnValidSigs", fn := fun _ => fun
  | [d] => { results := [.lit (.bool false)], args := [d] }
  | _ => none }
def FnValidSigsWrongFalsely : Prop := fnValidSigsRow.holds Try.pinned (OpenSpec.ofChange fnValidSigsWrong)

/-- 'laws.FnFreeOfLess': WHATEVER THE INPUT: true; the input reads as it did. -/
def fnFreeOfLessSpec : ChangeSpec := { name := "fnFreeOfLess", fn := fun _ => fun
  | [d] => { results := [.lit (.bool true)], args := [d] }
  | _ => none }
def fnFreeOfLessRow : OpenClaim := { program := "ytomgellcpjimjaa", sum := "0eeeb47d22823f996456fedbff12034ee40d4a1b49ca5b741620f7c3e14c57d8", func := "loop.example/refcountml/laws.FnFreeOfLess", spec := "fnFreeOfLess", unfollowed := true, recurses := true, apart := false }
def FnFreeOfLessSaid : Prop := fnFreeOfLessRow.holds Try.pinned (OpenSpec.ofChange fnFreeOfLessSpec)

/-- ITS FALSE NEIGHBOUR: 'it returns false'. Refute it at one input. -/
def fnFreeOfLessWrong : ChangeSpec := { name := "fnFreeOfLess", fn := fun _ => fun
  | [d] => { results := [.lit (.bool false)], args := [d] }
  | _ => none }
def FnFreeOfLessWrongFalsely : Prop := fnFreeOfLessRow.holds Try.pinned (OpenSpec.ofChange fnFreeOfLessWrong)

/-- 'laws.FnFreeOf': WHATEVER THE INPUT: true; the input reads as it did. -/
def fnFreeOfSpec : ChangeSpec := { name := "fnFreeOf", fn := fun _ => fun
  | [d] => { results := [.lit (.bool true)], args := [d] }
  | _ => none }
def fnFreeOfRow : OpenClaim := { program := "ytomgellcpjimjaa", sum := "0eeeb47d22823f996456fedbff12034ee40d4a1b49ca5b741620f7c3e14c57d8", func := "loop.example/refcountml/laws.FnFreeOf", spec := "fnFreeOf", unfollowed := true, recurses := true, apart := false }
def FnFreeOfSaid : Prop := fnFreeOfRow.holds Try.pinned (OpenSpec.ofChange fnFreeOfSpec)

/-- ITS FALSE NEIGHBOUR: 'it returns false'. Refute it at one input. -/
def fnFreeOfWrong : ChangeSpec := { name := "fnFreeOf", fn := fun _ => fun
  | [d] => { results := [.lit (.bool false)], args := [d] }
  | _ => none }
def FnFreeOfWrongFalsely : Prop := fnFreeOfRow.holds Try.pinned (OpenSpec.ofChange fnFreeOfWrong)

/-- 'laws.FnTypeOfLet': WHATEVER THE INPUT: true; the input reads as it did. -/
def fnTypeOfLetSpec : ChangeSpec := { name := "fnTypeOfLet", fn := fun _ => fun
  | [d] => { results := [.lit (.bool true)], args := [d] }
  | _ => none }
def fnTypeOfLetRow : OpenClaim := { program := "ytomgellcpjimjaa", sum := "0eeeb47d22823f996456fedbff12034ee40d4a1b49ca5b741620f7c3e14c57d8", func := "loop.example/refcountml/laws.FnTypeOfLet", spec := "fnTypeOfLet", recurses := true, apart := false }
def FnTypeOfLetSaid : Prop := fnTypeOfLetRow.holds Try.pinned (OpenSpec.ofChange fnTypeOfLetSpec)

/-- ITS FALSE NEIGHBOUR: 'it returns false'. Refute it at one input. -/
def fnTypeOfLetWrong : ChangeSpec := { name := "fnTypeOfLet", fn := fun _ => fun
  | [d] => { results := [.lit (.bool false)], args := [d] }
  | _ => none }
def FnTypeOfLetWrongFalsely : Prop := fnTypeOfLetRow.holds Try.pinned (OpenSpec.ofChange fnTypeOfLetWrong)

/-- 'laws.FnValidProgram': WHATEVER THE INPUT: true; the input reads as it did. -/
def fnValidProgramSpec : ChangeSpec := { name := "fnValidProgram", fn := fun _ => fun
  | [d] => { results := [.lit (.bool true)], args := [d] }
  | _ => none }
def fnValidProgramRow : OpenClaim := { program := "ytomgellcpjimjaa", sum := "0eeeb47d22823f996456fedbff12034ee40d4a1b49ca5b741620f7c3e14c57d8", func := "loop.example/refcountml/laws.FnValidProgram", spec := "fnValidProgram", recurses := true, apart := false }
def FnValidProgramSaid : Prop := fnValidProgramRow.holds Try.pinned (OpenSpec.ofChange fnValidProgramSpec)

/-- ITS FALSE NEIGHBOUR: 'it returns false'. Refute it at one input. -/
def fnValidProgramWrong : ChangeSpec := { name := "fnValidProgram", fn := fun _ => fun
  | [d] => { results := [.lit (.bool false)], args := [d] }
  | _ => none }
def FnValidProgramWrongFalsely : Prop := fnValidProgramRow.holds Try.pinned (OpenSpec.ofChange fnValidProgramWrong)

/-- 'laws.FnTypeOfIf': WHATEVER THE INPUT: true; the input reads as it did. -/
def fnTypeOfIfSpec : ChangeSpec := { name := "fnTypeOfIf", fn := fun _ => fun
  | [d] => { results := [.lit (.bool true)], args := [d] }
  | _ => none }
def fnTypeOfIfRow : OpenClaim := { program := "ytomgellcpjimjaa", sum := "0eeeb47d22823f996456fedbff12034ee40d4a1b49ca5b741620f7c3e14c57d8", func := "loop.example/refcountml/laws.FnTypeOfIf", spec := "fnTypeOfIf", recurses := true, apart := false }
def FnTypeOfIfSaid : Prop := fnTypeOfIfRow.holds Try.pinned (OpenSpec.ofChange fnTypeOfIfSpec)

/-- ITS FALSE NEIGHBOUR: 'it returns false'. Refute it at one input. -/
def fnTypeOfIfWrong : ChangeSpec := { name := "fnTypeOfIf", fn := fun _ => fun
  | [d] => { results := [.lit (.bool false)], args := [d] }
  | _ => none }
def FnTypeOfIfWrongFalsely : Prop := fnTypeOfIfRow.holds Try.pinned (OpenSpec.ofChange fnTypeOfIfWrong)

/-- 'laws.FnTypeOf': WHATEVER THE INPUT: true; the input reads as it did. -/
def fnTypeOfSpec : ChangeSpec := { name := "fnTypeOf", fn := fun _ => fun
  | [d] => { results := [.lit (.bool true)], args := [d] }
  | _ => none }
def fnTypeOfRow : OpenClaim := { program := "ytomgellcpjimjaa", sum := "0eeeb47d22823f996456fedbff12034ee40d4a1b49ca5b741620f7c3e14c57d8", func := "loop.example/refcountml/laws.FnTypeOf", spec := "fnTypeOf", unfollowed := true, recurses := true, apart := false }
def FnTypeOfSaid : Prop := fnTypeOfRow.holds Try.pinned (OpenSpec.ofChange fnTypeOfSpec)

/-- ITS FALSE NEIGHBOUR: 'it returns false'. Refute it at one input. -/
def fnTypeOfWrong : ChangeSpec := { name := "fnTypeOf", fn := fun _ => fun
  | [d] => { results := [.lit (.bool false)], args := [d] }
  | _ => none }
def FnTypeOfWrongFalsely : Prop := fnTypeOfRow.holds Try.pinned (OpenSpec.ofChange fnTypeOfWrong)

/-- 'laws.FnValidProgramLet': WHATEVER THE INPUT: true; the input reads as it did. -/
def fnValidProgramLetSpec : ChangeSpec := { name := "fnValidProgramLet", fn := fun _ => fun
  | [d] => { results := [.lit (.bool true)], args := [d] }
  | _ => none }
def fnValidProgramLetRow : OpenClaim := { program := "ytomgellcpjimjaa", sum := "0eeeb47d22823f996456fedbff12034ee40d4a1b49ca5b741620f7c3e14c57d8", func := "loop.example/refcountml/laws.FnValidProgramLet", spec := "fnValidProgramLet", unfollowed := true, recurses := true, apart := false }
def FnValidProgramLetSaid : Prop := fnValidProgramLetRow.holds Try.pinned (OpenSpec.ofChange fnValidProgramLetSpec)

/-- ITS FALSE NEIGHBOUR: 'it returns false'. Refute it at one input. -/
def fnValidProgramLetWrong : ChangeSpec := { name := "fnValidProgramLet", fn := fun _ => fun
  | [d] => { results := [.lit (.bool false)], args := [d] }
  | _ => none }
def FnValidProgramLetWrongFalsely : Prop := fnValidProgramLetRow.holds Try.pinned (OpenSpec.ofChange fnValidProgramLetWrong)

/-- 'laws.FnCalleesOf': WHATEVER THE INPUT: true; the input reads as it did. -/
def fnCalleesOfSpec : ChangeSpec := { name := "fnCalleesOf", fn := fun _ => fun
  | [d] => { results := [.lit (.bool true)], args := [d] }
  | _ => none }
def fnCalleesOfRow : OpenClaim := { program := "ytomgellcpjimjaa", sum := "0eeeb47d22823f996456fedbff12034ee40d4a1b49ca5b741620f7c3e14c57d8", func := "loop.example/refcountml/laws.FnCalleesOf", spec := "fnCalleesOf", unfollowed := true, recurses := true, apart := false }
def FnCalleesOfSaid : Prop := fnCalleesOfRow.holds Try.pinned (OpenSpec.ofChange fnCalleesOfSpec)

/-- ITS FALSE NEIGHBOUR: 'it returns false'. Refute it at one input. -/
def fnCalleesOfWrong : ChangeSpec := { name := "fnCalleesOf", fn := fun _ => fun
  | [d] => { results := [.lit (.bool false)], args := [d] }
  | _ => none }
def FnCalleesOfWrongFalsely : Prop := fnCalleesOfRow.holds Try.pinned (OpenSpec.ofChange fnCalleesOfWrong)

/-- 'laws.FnReachedFromAll': WHATEVER THE INPUT: true; the input reads as it did. -/
def fnReachedFromAllSpec : ChangeSpec := { name := "fnReachedFromAll", fn := fun _ => fun
  | [d] => { results := [.lit (.bool true)], args := [d] }
  | _ => none }
def fnReachedFromAllRow : OpenClaim := { program := "ytomgellcpjimjaa", sum := "0eeeb47d22823f996456fedbff12034ee40d4a1b49ca5b741620f7c3e14c57d8", func := "loop.example/refcountml/laws.FnReachedFromAll", spec := "fnReachedFromAll", unfollowed := true, recurses := true, apart := false }
def FnReachedFromAllSaid : Prop := fnReachedFromAllRow.holds Try.pinned (OpenSpec.ofChange fnReachedFromAllSpec)

/-- ITS FALSE NEIGHBOUR: 'it returns false'. Refute it at one input. -/
def fnReachedFromAllWrong : ChangeSpec := { name := "fnReachedFromAll", fn := fun _ => fun
  | [d] => { results := [.lit (.bool false)], args := [d] }
  | _ => none }
def FnReachedFromAllWrongFalsely : Prop := fnReachedFromAllRow.holds Try.pinned (OpenSpec.ofChange fnReachedFromAllWrong)

/-- 'laws.FnReachedFrom': WHATEVER THE INPUT: true; the input reads as it did. -/
def fnReachedFromSpec : ChangeSpec := { name := "fnReachedFrom", fn := fun _ => fun
  | [d] => { results := [.lit (.bool true)], args := [d] }
  | _ => none }
def fnReachedFromRow : OpenClaim := { program := "ytomgellcpjimjaa", sum := "0eeeb47d22823f996456fedbff12034ee40d4a1b49ca5b741620f7c3e14c57d8", func := "loop.example/refcountml/laws.FnReachedFrom", spec := "fnReachedFrom", unfollowed := true, recurses := true, apart := false }
def FnReachedFromSaid : Prop := fnReachedFromRow.holds Try.pinned (OpenSpec.ofChange fnReachedFromSpec)

/-- ITS FALSE NEIGHBOUR: 'it returns false'. Refute it at one input. -/
def fnReachedFromWrong : ChangeSpec := { name := "fnReachedFrom", fn := fun _ => fun
  | [d] => { results := [.lit (.bool false)], args := [d] }
  | _ => none }
def FnReachedFromWrongFalsely : Prop := fnReachedFromRow.holds Try.pinned (OpenSpec.ofChange fnReachedFromWrong)

/- THE SECOND FORM. 'bulk': how many values and letters a reading holds, each counted each time it is reached (what is shared counts as often as it is met; a slice's spare places count too). A statement '..UptoSaid' is the law's where the arguments, and the package variables that the reading takes, are together of bulk at most 1048576: NARROWER than '..Said'. Prove '..Said' where nothing that the law and all that it calls make is longer than what came in: it says more and counts as full. Else prove '..UptoSaid'. A law counts once. -/
mutual
def uptoBulk {H : Type} : DataW H → Nat
  | .lit (.string bytes) => bytes.length + 1
  | .lit _ => 1
  | .nil => 1
  | .ptr d => uptoBulk d + 1
  | .slice elems spare => uptoBulkAll elems + uptoBulkAll spare + 1
  | .agg parts => uptoBulkAll parts + 1
  | .iface _ d => uptoBulk d + 1
  | .map entries => uptoBulkEntries entries + 1
  | .held _ => 1
def uptoBulkAll {H : Type} : List (DataW H) → Nat
  | [] => 0
  | d :: r => uptoBulk d + uptoBulkAll r
def uptoBulkEntries {H : Type} : List (Lit × DataW H) → Nat
  | [] => 0
  | x :: r => uptoBulkEntry x + uptoBulkEntries r
def uptoBulkEntry {H : Type} : Lit × DataW H → Nat
  | (.string bytes, d) => bytes.length + uptoBulk d + 1
  | (_, d) => uptoBulk d + 1
 end
def uptoSmall : (H : Type) → List (DataW H) → Bool := fun _ ds => decide (uptoBulkAll ds ≤ 1048576)
def OpenSpec.upto (s : _root_.Go.ChangeSpec) : _root_.Go.OpenSpec := { _root_.Go.OpenSpec.ofChange s with cond := some uptoSmall }

/-- 'laws.FnNodesOf', WHERE WHAT IT READS IS OF BULK AT MOST 1048576: true; the input reads as it did. -/
def fnNodesOfUptoRow : OpenClaim := { program := "ytomgellcpjimjaa", sum := "0eeeb47d22823f996456fedbff12034ee40d4a1b49ca5b741620f7c3e14c57d8", func := "loop.example/refcountml/laws.FnNodesOf", spec := "fnNodesOf", recurses := true, apart := false, narrowed := true }
def FnNodesOfUptoSaid : Prop := fnNodesOfUptoRow.holds Try.pinned (OpenSpec.upto fnNodesOfSpec)

/-- 'laws.FnNodesOfTwo', WHERE WHAT IT READS IS OF BULK AT MOST 1048576: true; the input reads as it did. -/
def fnNodesOfTwoUptoRow : OpenClaim := { program := "ytomgellcpjimjaa", sum := "0eeeb47d22823f996456fedbff12034ee40d4a1b49ca5b741620f7c3e14c57d8", func := "loop.example/refcountml/laws.FnNodesOfTwo", spec := "fnNodesOfTwo", recurses := true, apart := false, narrowed := true }
def FnNodesOfTwoUptoSaid : Prop := fnNodesOfTwoUptoRow.holds Try.pinned (OpenSpec.upto fnNodesOfTwoSpec)

/-- 'laws.FnMentionsOf', WHERE WHAT IT READS IS OF BULK AT MOST 1048576: true; the input reads as it did. -/
def fnMentionsOfUptoRow : OpenClaim := { program := "ytomgellcpjimjaa", sum := "0eeeb47d22823f996456fedbff12034ee40d4a1b49ca5b741620f7c3e14c57d8", func := "loop.example/refcountml/laws.FnMentionsOf", spec := "fnMentionsOf", unfollowed := true, recurses := true, apart := false, narrowed := true }
def FnMentionsOfUptoSaid : Prop := fnMentionsOfUptoRow.holds Try.pinned (OpenSpec.upto fnMentionsOfSpec)

/-- 'laws.FnShift', WHERE WHAT IT READS IS OF BULK AT MOST 1048576: true; the input reads as it did. -/
def fnShiftUptoRow : OpenClaim := { program := "ytomgellcpjimjaa", sum := "0eeeb47d22823f996456fedbff12034ee40d4a1b49ca5b741620f7c3e14c57d8", func := "loop.example/refcountml/laws.FnShift", spec := "fnShift", unfollowed := true, recurses := true, apart := false, narrowed := true }
def FnShiftUptoSaid : Prop := fnShiftUptoRow.holds Try.pinned (OpenSpec.upto fnShiftSpec)

/-- 'laws.FnShiftTwice', WHERE WHAT IT READS IS OF BULK AT MOST 1048576: true; the input reads as it did. -/
def fnShiftTwiceUptoRow : OpenClaim := { program := "ytomgellcpjimjaa", sum := "0eeeb47d22823f996456fedbff12034ee40d4a1b49ca5b741620f7c3e14c57d8", func := "loop.example/refcountml/laws.FnShiftTwice", spec := "fnShiftTwice", unfollowed := true, recurses := true, apart := false, narrowed := true }
def FnShiftTwiceUptoSaid : Prop := fnShiftTwiceUptoRow.holds Try.pinned (OpenSpec.upto fnShiftTwiceSpec)

/-- 'laws.FnShiftMentions', WHERE WHAT IT READS IS OF BULK AT MOST 1048576: true; the input reads as it did. -/
def fnShiftMentionsUptoRow : OpenClaim := { program := "ytomgellcpjimjaa", sum := "0eeeb47d22823f996456fedbff12034ee40d4a1b49ca5b741620f7c3e14c57d8", func := "loop.example/refcountml/laws.FnShiftMentions", spec := "fnShiftMentions", unfollowed := true, recurses := true, apart := false, narrowed := true }
def FnShiftMentionsUptoSaid : Prop := fnShiftMentionsUptoRow.holds Try.pinned (OpenSpec.upto fnShiftMentionsSpec)

/-- 'laws.FnValidSigs', WHERE WHAT IT READS IS OF BULK AT MOST 1048576: true; the input reads as it did. -/
def fnValidSigsUptoRow : OpenClaim := { program := "ytomgellcpjimjaa", sum := "0eeeb47d22823f996456fedbff12034ee40d4a1b49ca5b741620f7c3e14c57d8", func := "loop.example/refcountml/laws.FnValidSigs", spec := "fnValidSigs", recurses := true, apart := false, narrowed := true }
def FnValidSigsUptoSaid : Prop := fnValidSigsUptoRow.holds Try.pinned (OpenSpec.upto fnValidSigsSpec)

/-- 'laws.FnFreeOfLess', WHERE WHAT IT READS IS OF BULK AT MOST 1048576: true; the input reads as it did. -/
def fnFreeOfLessUptoRow : OpenClaim := { program := "ytomgellcpjimjaa", sum := "0eeeb47d22823f996456fedbff12034ee40d4a1b49ca5b741620f7c3e14c57d8", func := "loop.example/refcountml/laws.FnFreeOfLess", spec := "fnFreeOfLess", unfollowed := true, recurses := true, apart := false, narrowed := true }
def FnFreeOfLessUptoSaid : Prop := fnFreeOfLessUptoRow.holds Try.pinned (OpenSpec.upto fnFreeOfLessSpec)

/-- 'laws.FnFreeOf', WHERE WHAT IT READS IS OF BULK AT MOST 1048576: true; the input reads as it did. -/
def fnFreeOfUptoRow : OpenClaim := { program := "ytomgellcpjimjaa", sum := "0eeeb47d22823f996456fedbff12034ee40d4a1b49ca5b741620f7c3e14c57d8", func := "loop.example/refcountml/laws.FnFreeOf", spec := "fnFreeOf", unfollowed := true, recurses := true, apart := false, narrowed := true }
def FnFreeOfUptoSaid : Prop := fnFreeOfUptoRow.holds Try.pinned (OpenSpec.upto fnFreeOfSpec)

/-- 'laws.FnTypeOfLet', WHERE WHAT IT READS IS OF BULK AT MOST 1048576: true; the input reads as it did. -/
def fnTypeOfLetUptoRow : OpenClaim := { program := "ytomgellcpjimjaa", sum := "0eeeb47d22823f996456fedbff12034ee40d4a1b49ca5b741620f7c3e14c57d8", func := "loop.example/refcountml/laws.FnTypeOfLet", spec := "fnTypeOfLet", recurses := true, apart := false, narrowed := true }
def FnTypeOfLetUptoSaid : Prop := fnTypeOfLetUptoRow.holds Try.pinned (OpenSpec.upto fnTypeOfLetSpec)

/-- 'laws.FnValidProgram', WHERE WHAT IT READS IS OF BULK AT MOST 1048576: true; the input reads as it did. -/
def fnValidProgramUptoRow : OpenClaim := { program := "ytomgellcpjimjaa", sum := "0eeeb47d22823f996456fedbff12034ee40d4a1b49ca5b741620f7c3e14c57d8", func := "loop.example/refcountml/laws.FnValidProgram", spec := "fnValidProgram", recurses := true, apart := false, narrowed := true }
def FnValidProgramUptoSaid : Prop := fnValidProgramUptoRow.holds Try.pinned (OpenSpec.upto fnValidProgramSpec)

/-- 'laws.FnTypeOfIf', WHERE WHAT IT READS IS OF BULK AT MOST 1048576: true; the input reads as it did. -/
def fnTypeOfIfUptoRow : OpenClaim := { program := "ytomgellcpjimjaa", sum := "0eeeb47d22823f996456fedbff12034ee40d4a1b49ca5b741620f7c3e14c57d8", func := "loop.example/refcountml/laws.FnTypeOfIf", spec := "fnTypeOfIf", recurses := true, apart := false, narrowed := true }
def FnTypeOfIfUptoSaid : Prop := fnTypeOfIfUptoRow.holds Try.pinned (OpenSpec.upto fnTypeOfIfSpec)

/-- 'laws.FnTypeOf', WHERE WHAT IT READS IS OF BULK AT MOST 1048576: true; the input reads as it did. -/
def fnTypeOfUptoRow : OpenClaim := { program := "ytomgellcpjimjaa", sum := "0eeeb47d22823f996456fedbff12034ee40d4a1b49ca5b741620f7c3e14c57d8", func := "loop.example/refcountml/laws.FnTypeOf", spec := "fnTypeOf", unfollowed := true, recurses := true, apart := false, narrowed := true }
def FnTypeOfUptoSaid : Prop := fnTypeOfUptoRow.holds Try.pinned (OpenSpec.upto fnTypeOfSpec)

/-- 'laws.FnValidProgramLet', WHERE WHAT IT READS IS OF BULK AT MOST 1048576: true; the input reads as it did. -/
def fnValidProgramLetUptoRow : OpenClaim := { program := "ytomgellcpjimjaa", sum := "0eeeb47d22823f996456fedbff12034ee40d4a1b49ca5b741620f7c3e14c57d8", func := "loop.example/refcountml/laws.FnValidProgramLet", spec := "fnValidProgramLet", unfollowed := true, recurses := true, apart := false, narrowed := true }
def FnValidProgramLetUptoSaid : Prop := fnValidProgramLetUptoRow.holds Try.pinned (OpenSpec.upto fnValidProgramLetSpec)

/-- 'laws.FnCalleesOf', WHERE WHAT IT READS IS OF BULK AT MOST 1048576: true; the input reads as it did. -/
def fnCalleesOfUptoRow : OpenClaim := { program := "ytomgellcpjimjaa", sum := "0eeeb47d22823f996456fedbff12034ee40d4a1b49ca5b741620f7c3e14c57d8", func := "loop.example/refcountml/laws.FnCalleesOf", spec := "fnCalleesOf", unfollowed := true, recurses := true, apart := false, narrowed := true }
def FnCalleesOfUptoSaid : Prop := fnCalleesOfUptoRow.holds Try.pinned (OpenSpec.upto fnCalleesOfSpec)

/-- 'laws.FnReachedFromAll', WHERE WHAT IT READS IS OF BULK AT MOST 1048576: true; the input reads as it did. -/
def fnReachedFromAllUptoRow : OpenClaim := { program := "ytomgellcpjimjaa", sum := "0eeeb47d22823f996456fedbff12034ee40d4a1b49ca5b741620f7c3e14c57d8", func := "loop.example/refcountml/laws.FnReachedFromAll", spec := "fnReachedFromAll", unfollowed := true, recurses := true, apart := false, narrowed := true }
def FnReachedFromAllUptoSaid : Prop := fnReachedFromAllUptoRow.holds Try.pinned (OpenSpec.upto fnReachedFromAllSpec)

/-- 'laws.FnReachedFrom', WHERE WHAT IT READS IS OF BULK AT MOST 1048576: true; the input reads as it did. -/
def fnReachedFromUptoRow : OpenClaim := { program := "ytomgellcpjimjaa", sum := "0eeeb47d22823f996456fedbff12034ee40d4a1b49ca5b741620f7c3e14c57d8", func := "loop.example/refcountml/laws.FnReachedFrom", spec := "fnReachedFrom", unfollowed := true, recurses := true, apart := false, narrowed := true }
def FnReachedFromUptoSaid : Prop := fnReachedFromUptoRow.holds Try.pinned (OpenSpec.upto fnReachedFromSpec)

end Rows
end Go.Proofs.Ytomgellcpjimjaa
