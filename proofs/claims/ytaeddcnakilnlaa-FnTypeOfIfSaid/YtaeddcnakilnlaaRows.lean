/-
  NARROWER THAN 'FOR EVERY INPUT', by the rows' own cells (each row's printed sentence says how): FnExactBlockType: loops · FnExactValidNormal: loops.
  DERIVED. THE GIVEN ROWS OF THIS SEAT. 10 by the template 'for every input the law returns true; each argument reads behind the call as it read before'; 0 by the template 'total and deterministic' (their statements: YtaeddcnakilnlaaTotals.lean).
  GIVEN WITH THE SEED: the statements are not yours to turn. If you find one false, say at which input.
  Laid BY PROGRAM, IN A SANDBOX (cutbox-rows.mjs): the forced cells as the released guide's own fill.sh prints them over the translation d0fe665b44af2c41… (all of the seat's roots in one cut). By AI agents, Wed Nov 11 2026. No macro, syntax, notation, axiom, sorry.
-/
import Derived.Test.YtaeddcnakilnlaaChecked
import GoSem.Claim
import GoSem.ClaimJoined
import GoSem.ClaimMapViews
import Derived.JoinedTies
import Derived.KernelRfl
namespace Go.Proofs.Ytaeddcnakilnlaa
/- THE CELL 'sum', in the pinned program and in every row, IS THE sha256 OF THE DUMP (.gsa) THAT YtaeddcnakilnlaaProg.lean LOADS. Nothing in Lean hashes anything: it is a label: what it is worth is what the hold of that sum in a sandbox is worth. -/
noncomputable def Try.pinned : Pinned := { name := "ytaeddcnakilnlaa", sum := "d0fe665b44af2c41d59af768342c3c5ed9e41e109c62596eb8f61427d77265d3", checked := Try.checked }
namespace Rows
def none {H : Type} : Left H := { results := [], args := [] }

/-- 'laws.FnExactBlockType': WHATEVER THE INPUT: true; the input reads as it did. -/
def fnExactBlockTypeSpec : ChangeSpec := { name := "fnExactBlockType", fn := fun _ => fun
  | [d1, d2, d3] => { results := [.lit (.bool true)], args := [d1, d2, d3] }
  | _ => none }
def fnExactBlockTypeRow : OpenClaim := { program := "ytaeddcnakilnlaa", sum := "d0fe665b44af2c41d59af768342c3c5ed9e41e109c62596eb8f61427d77265d3", func := "loop.example/refcountml/laws.FnExactBlockType", spec := "fnExactBlockType", recurses := true, loops := true, apart := false }
def FnExactBlockTypeSaid : Prop := fnExactBlockTypeRow.holds Try.pinned (OpenSpec.ofChange fnExactBlockTypeSpec)

/-- ITS FALSE NEIGHBOUR: 'it returns false'. Refute it at one input. -/
def fnExactBlockTypeWrong : ChangeSpec := { name := "fnExactBlockType", fn := fun _ => fun
  | [d1, d2, d3] => { results := [.lit (.bool false)], args := [d1, d2, d3] }
  | _ => none }
def FnExactBlockTypeWrongFalsely : Prop := fnExactBlockTypeRow.holds Try.pinned (OpenSpec.ofChange fnExactBlockTypeWrong)

/-- 'laws.FnTypeOfLet': WHATEVER THE INPUT: true; the input reads as it did. -/
def fnTypeOfLetSpec : ChangeSpec := { name := "fnTypeOfLet", fn := fun _ => fun
  | [d] => { results := [.lit (.bool true)], args := [d] }
  | _ => none }
def fnTypeOfLetRow : OpenClaim := { program := "ytaeddcnakilnlaa", sum := "d0fe665b44af2c41d59af768342c3c5ed9e41e109c62596eb8f61427d77265d3", func := "loop.example/refcountml/laws.FnTypeOfLet", spec := "fnTypeOfLet", recurses := true, apart := false }
def FnTypeOfLetSaid : Prop := fnTypeOfLetRow.holds Try.pinned (OpenSpec.ofChange fnTypeOfLetSpec)

/-- ITS FALSE NEIGHBOUR: 'it returns false'. Refute it at one input. -/
def fnTypeOfLetWrong : ChangeSpec := { name := "fnTypeOfLet", fn := fun _ => fun
  | [d] => { results := [.lit (.bool false)], args := [d] }
  | _ => none }
def FnTypeOfLetWrongFalsely : Prop := fnTypeOfLetRow.holds Try.pinned (OpenSpec.ofChange fnTypeOfLetWrong)

/-- 'laws.FnValidProgram': WHATEVER THE INPUT: true; the input reads as it did. -/
def fnValidProgramSpec : ChangeSpec := { name := "fnValidProgram", fn := fun _ => fun
  | [d] => { results := [.lit (.bool true)], args := [d] }
  | _ => none }
def fnValidProgramRow : OpenClaim := { program := "ytaeddcnakilnlaa", sum := "d0fe665b44af2c41d59af768342c3c5ed9e41e109c62596eb8f61427d77265d3", func := "loop.example/refcountml/laws.FnValidProgram", spec := "fnValidProgram", recurses := true, apart := false }
def FnValidProgramSaid : Prop := fnValidProgramRow.holds Try.pinned (OpenSpec.ofChange fnValidProgramSpec)

/-- ITS FALSE NEIGHBOUR: 'it returns false'. Refute it at one input. -/
def fnValidProgramWrong : ChangeSpec := { name := "fnValidProgram", fn := fun _ => fun
  | [d] => { results := [.lit (.bool false)], args := [d] }
  | _ => none }
def FnValidProgramWrongFalsely : Prop := fnValidProgramRow.holds Try.pinned (OpenSpec.ofChange fnValidProgramWrong)

/-- 'laws.FnTypeOfIf': WHATEVER THE INPUT: true; the input reads as it did. -/
def fnTypeOfIfSpec : ChangeSpec := { name := "fnTypeOfIf", fn := fun _ => fun
  | [d] => { results := [.lit (.bool true)], args := [d] }
  | _ => none }
def fnTypeOfIfRow : OpenClaim := { program := "ytaeddcnakilnlaa", sum := "d0fe665b44af2c41d59af768342c3c5ed9e41e109c62596eb8f61427d77265d3", func := "loop.example/refcountml/laws.FnTypeOfIf", spec := "fnTypeOfIf", recurses := true, apart := false }
def FnTypeOfIfSaid : Prop := fnTypeOfIfRow.holds Try.pinned (OpenSpec.ofChange fnTypeOfIfSpec)

/-- ITS FALSE NEIGHBOUR: 'it returns false'. Refute it at one input. -/
def fnTypeOfIfWrong : ChangeSpec := { name := "fnTypeOfIf", fn := fun _ => fun
  | [d] => { results := [.lit (.bool false)], args := [d] }
  | _ => none }
def FnTypeOfIfWrongFalsely : Prop := fnTypeOfIfRow.holds Try.pinned (OpenSpec.ofChange fnTypeOfIfWrong)

/-- 'laws.FnExactValidNormal': WHATEVER THE INPUT: true; the input reads as it did. -/
def fnExactValidNormalSpec : ChangeSpec := { name := "fnExactValidNormal", fn := fun _ => fun
  | [d] => { results := [.lit (.bool true)], args := [d] }
  | _ => none }
def fnExactValidNormalRow : OpenClaim := { program := "ytaeddcnakilnlaa", sum := "d0fe665b44af2c41d59af768342c3c5ed9e41e109c62596eb8f61427d77265d3", func := "loop.example/refcountml/laws.FnExactValidNormal", spec := "fnExactValidNormal", recurses := true, loops := true, apart := false }
def FnExactValidNormalSaid : Prop := fnExactValidNormalRow.holds Try.pinned (OpenSpec.ofChange fnExactValidNormalSpec)

/-- ITS FALSE NEIGHBOUR: 'it returns false'. Refute it at one input. -/
def fnExactValidNormalWrong : ChangeSpec := { name := "fnExactValidNormal", fn := fun _ => fun
  | [d] => { results := [.lit (.bool false)], args := [d] }
  | _ => none }
def FnExactValidNormalWrongFalsely : Prop := fnExactValidNormalRow.holds Try.pinned (OpenSpec.ofChange fnExactValidNormalWrong)

/-- 'laws.FnTypeOf': WHATEVER THE INPUT: true; the input reads as it did. -/
def fnTypeOfSpec : ChangeSpec := { name := "fnTypeOf", fn := fun _ => fun
  | [d] => { results := [.lit (.bool true)], args := [d] }
  | _ => none }
def fnTypeOfRow : OpenClaim := { program := "ytaeddcnakilnlaa", sum := "d0fe665b44af2c41d59af768342c3c5ed9e41e109c62596eb8f61427d77265d3", func := "loop.example/refcountml/laws.FnTypeOf", spec := "fnTypeOf", unfollowed := true, recurses := true, apart := false }
def FnTypeOfSaid : Prop := fnTypeOfRow.holds Try.pinned (OpenSpec.ofChange fnTypeOfSpec)

/-- ITS FALSE NEIGHBOUR: 'it returns false'. Refute it at one input. -/
def fnTypeOfWrong : ChangeSpec := { name := "fnTypeOf", fn := fun _ => fun
  | [d] => { results := [.lit (.bool false)], args := [d] }
  | _ => none }
def FnTypeOfWrongFalsely : Prop := fnTypeOfRow.holds Try.pinned (OpenSpec.ofChange fnTypeOfWrong)

/-- 'laws.FnValidProgramLet': WHATEVER THE INPUT: true; the input reads as it did. -/
def fnValidProgramLetSpec : ChangeSpec := { name := "fnValidProgramLet", fn := fun _ => fun
  | [d] => { results := [.lit (.bool true)], args := [d] }
  | _ => none }
def fnValidProgramLetRow : OpenClaim := { program := "ytaeddcnakilnlaa", sum := "d0fe665b44af2c41d59af768342c3c5ed9e41e109c62596eb8f61427d77265d3", func := "loop.example/refcountml/laws.FnValidProgramLet", spec := "fnValidProgramLet", unfollowed := true, recurses := true, apart := false }
def FnValidProgramLetSaid : Prop := fnValidProgramLetRow.holds Try.pinned (OpenSpec.ofChange fnValidProgramLetSpec)

/-- ITS FALSE NEIGHBOUR: 'it returns false'. Refute it at one input. -/
def fnValidProgramLetWrong : ChangeSpec := { name := "fnValidProgramLet", fn := fun _ => fun
  | [d] => { results := [.lit (.bool false)], args := [d] }
  | _ => none }
def FnValidProgramLetWrongFalsely : Prop := fnValidProgramLetRow.holds Try.pinned (OpenSpec.ofChange fnValidProgramLetWrong)

/-- 'laws.FnCalleesOf': WHATEVER THE INPUT: true; the input reads as it did. -/
def fnCalleesOfSpec : ChangeSpec := { name := "fnCalleesOf", fn := fun _ => fun
  | [d] => { results := [.lit (.bool true)], args := [d] }
  | _ => none }
def fnCalleesOfRow : OpenClaim := { program := "ytaeddcnakilnlaa", sum := "d0fe665b44af2c41d59af768342c3c5ed9e41e109c62596eb8f61427d77265d3", func := "loop.example/refcountml/laws.FnCalleesOf", spec := "fnCalleesOf", unfollowed := true, recurses := true, apart := false }
def FnCalleesOfSaid : Prop := fnCalleesOfRow.holds Try.pinned (OpenSpec.ofChange fnCalleesOfSpec)

/-- ITS FALSE NEIGHBOUR: 'it returns false'. Refute it at one input. -/
def fnCalleesOfWrong : ChangeSpec := { name := "fnCalleesOf", fn := fun _ => fun
  | [d] => { results := [.lit (.bool false)], args := [d] }
  | _ => none }
def FnCalleesOfWrongFalsely : Prop := fnCalleesOfRow.holds Try.pinned (OpenSpec.ofChange fnCalleesOfWrong)

/-- 'laws.FnReachedFromAll': WHATEVER THE INPUT: true; the input reads as it did. -/
def fnReachedFromAllSpec : ChangeSpec := { name := "fnReachedFromAll", fn := fun _ => fun
  | [d] => { results := [.lit (.bool true)], args := [d] }
  | _ => none }
def fnReachedFromAllRow : OpenClaim := { program := "ytaeddcnakilnlaa", sum := "d0fe665b44af2c41d59af768342c3c5ed9e41e109c62596eb8f61427d77265d3", func := "loop.example/refcountml/laws.FnReachedFromAll", spec := "fnReachedFromAll", unfollowed := true, recurses := true, apart := false }
def FnReachedFromAllSaid : Prop := fnReachedFromAllRow.holds Try.pinned (OpenSpec.ofChange fnReachedFromAllSpec)

/-- ITS FALSE NEIGHBOUR: 'it returns false'. Refute it at one input. -/
def fnReachedFromAllWrong : ChangeSpec := { name := "fnReachedFromAll", fn := fun _ => fun
  | [d] => { results := [.lit (.bool false)], args := [d] }
  | _ => none }
def FnReachedFromAllWrongFalsely : Prop := fnReachedFromAllRow.holds Try.pinned (OpenSpec.ofChange fnReachedFromAllWrong)

/-- 'laws.FnReachedFrom': WHATEVER THE INPUT: true; the input reads as it did. -/
def fnReachedFromSpec : ChangeSpec := { name := "fnReachedFrom", fn := fun _ => fun
  | [d] => { results := [.lit (.bool true)], args := [d] }
  | _ => none }
def fnReachedFromRow : OpenClaim := { program := "ytaeddcnakilnlaa", sum := "d0fe665b44af2c41d59af768342c3c5ed9e41e109c62596eb8f61427d77265d3", func := "loop.example/refcountml/laws.FnReachedFrom", spec := "fnReachedFrom", unfollowed := true, recurses := true, apart := false }
def FnReachedFromSaid : Prop := fnReachedFromRow.holds Try.pinned (OpenSpec.ofChange fnReachedFromSpec)

/-- ITS FALSE NEIGHBOUR: 'it returns false'. Refute it at one input. -/
def fnReachedFromWrong : ChangeSpec := { name := "fnReachedFrom", fn := fun _ => fun
  | [d] => { results := [.lit (.bool false)], args := [d] }
  | _ => none }
def FnReachedFromWrongFalsely : Prop := fnReachedFromRow.holds Try.pinned (OpenSpec.ofChange fnReachedFromWrong)

/- THE SECOND FORM. 'bulk': how many values and letters a reading holds, each counted each time it is reached (what is shared counts as often as it is met; a slice's spare places count too). A statement '..UptoSaid' is the law's where the arguments, and the package variables that the reading takes, are together of bulk at most 1048576: NARROWER than '..Said'. Prove '..Said' where nothing that the law and all that it calls make is longer than what came in: it says more and counts as full. Else prove '..UptoSaid'. A law counts once. -/
mutual
def uptoBulk {H : Type} : DataW H → Nat
  | .lit (.string bytes) => bytes.length + 1
  | .lit _ => 1
  | .nil => 1
  | .ptr d => uptoBulk d + 1
  | .slice elems spare => uptoBulkAll elems + uptoBulkAll spare + 1
  | .agg parts => uptoBulkAll parts + 1
  | .iface _ d => uptoBulk d + 1
  | .map entries => uptoBulkEntries entries + 1
  | .held _ => 1
def uptoBulkAll {H : Type} : List (DataW H) → Nat
  | [] => 0
  | d :: r => uptoBulk d + uptoBulkAll r
def uptoBulkEntries {H : Type} : List (Lit × DataW H) → Nat
  | [] => 0
  | x :: r => uptoBulkEntry x + uptoBulkEntries r
def uptoBulkEntry {H : Type} : Lit × DataW H → Nat
  | (.string bytes, d) => bytes.length + uptoBulk d + 1
  | (_, d) => uptoBulk d + 1
 end
def uptoSmall : (H : Type) → List (DataW H) → Bool := fun _ ds => decide (uptoBulkAll ds ≤ 1048576)
def OpenSpec.upto (s : _root_.Go.ChangeSpec) : _root_.Go.OpenSpec := { _root_.Go.OpenSpec.ofChange s with cond := some uptoSmall }

/-- 'laws.FnExactBlockType', WHERE WHAT IT READS IS OF BULK AT MOST 1048576: true; the input reads as it did. -/
def fnExactBlockTypeUptoRow : OpenClaim := { program := "ytaeddcnakilnlaa", sum := "d0fe665b44af2c41d59af768342c3c5ed9e41e109c62596eb8f61427d77265d3", func := "loop.example/refcountml/laws.FnExactBlockType", spec := "fnExactBlockType", recurses := true, loops := true, apart := false, narrowed := true }
def FnExactBlockTypeUptoSaid : Prop := fnExactBlockTypeUptoRow.holds Try.pinned (OpenSpec.upto fnExactBlockTypeSpec)

/-- 'laws.FnTypeOfLet', WHERE WHAT IT READS IS OF BULK AT MOST 1048576: true; the input reads as it did. -/
def fnTypeOfLetUptoRow : OpenClaim := { program := "ytaeddcnakilnlaa", sum := "d0fe665b44af2c41d59af768342c3c5ed9e41e109c62596eb8f61427d77265d3", func := "loop.example/refcountml/laws.FnTypeOfLet", spec := "fnTypeOfLet", recurses := true, apart := false, narrowed := true }
def FnTypeOfLetUptoSaid : Prop := fnTypeOfLetUptoRow.holds Try.pinned (OpenSpec.upto fnTypeOfLetSpec)

/-- 'laws.FnValidProgram', WHERE WHAT IT READS IS OF BULK AT MOST 1048576: true; the input reads as it did. -/
def fnValidProgramUptoRow : OpenClaim := { program := "ytaeddcnakilnlaa", sum := "d0fe665b44af2c41d59af768342c3c5ed9e41e109c62596eb8f61427d77265d3", func := "loop.example/refcountml/laws.FnValidProgram", spec := "fnValidProgram", recurses := true, apart := false, narrowed := true }
def FnValidProgramUptoSaid : Prop := fnValidProgramUptoRow.holds Try.pinned (OpenSpec.upto fnValidProgramSpec)

/-- 'laws.FnTypeOfIf', WHERE WHAT IT READS IS OF BULK AT MOST 1048576: true; the input reads as it did. -/
def fnTypeOfIfUptoRow : OpenClaim := { program := "ytaeddcnakilnlaa", sum := "d0fe665b44af2c41d59af768342c3c5ed9e41e109c62596eb8f61427d77265d3", func := "loop.example/refcountml/laws.FnTypeOfIf", spec := "fnTypeOfIf", recurses := true, apart := false, narrowed := true }
def FnTypeOfIfUptoSaid : Prop := fnTypeOfIfUptoRow.holds Try.pinned (OpenSpec.upto fnTypeOfIfSpec)

/-- 'laws.FnExactValidNormal', WHERE WHAT IT READS IS OF BULK AT MOST 1048576: true; the input reads as it did. -/
def fnExactValidNormalUptoRow : OpenClaim := { program := "ytaeddcnakilnlaa", sum := "d0fe665b44af2c41d59af768342c3c5ed9e41e109c62596eb8f61427d77265d3", func := "loop.example/refcountml/laws.FnExactValidNormal", spec := "fnExactValidNormal", recurses := true, loops := true, apart := false, narrowed := true }
def FnExactValidNormalUptoSaid : Prop := fnExactValidNormalUptoRow.holds Try.pinned (OpenSpec.upto fnExactValidNormalSpec)

/-- 'laws.FnTypeOf', WHERE WHAT IT READS IS OF BULK AT MOST 1048576: true; the input reads as it did. -/
def fnTypeOfUptoRow : OpenClaim := { program := "ytaeddcnakilnlaa", sum := "d0fe665b44af2c41d59af768342c3c5ed9e41e109c62596eb8f61427d77265d3", func := "loop.example/refcountml/laws.FnTypeOf", spec := "fnTypeOf", unfollowed := true, recurses := true, apart := false, narrowed := true }
def FnTypeOfUptoSaid : Prop := fnTypeOfUptoRow.holds Try.pinned (OpenSpec.upto fnTypeOfSpec)

/-- 'laws.FnValidProgramLet', WHERE WHAT IT READS IS OF BULK AT MOST 1048576: true; the input reads as it did. -/
def fnValidProgramLetUptoRow : OpenClaim := { program := "ytaeddcnakilnlaa", sum := "d0fe665b44af2c41d59af768342c3c5ed9e41e109c62596eb8f61427d77265d3", func := "loop.example/refcountml/laws.FnValidProgramLet", spec := "fnValidProgramLet", unfollowed := true, recurses := true, apart := false, narrowed := true }
def FnValidProgramLetUptoSaid : Prop := fnValidProgramLetUptoRow.holds Try.pinned (OpenSpec.upto fnValidProgramLetSpec)

/-- 'laws.FnCalleesOf', WHERE WHAT IT READS IS OF BULK AT MOST 1048576: true; the input reads as it did. -/
def fnCalleesOfUptoRow : OpenClaim := { program := "ytaeddcnakilnlaa", sum := "d0fe665b44af2c41d59af768342c3c5ed9e41e109c62596eb8f61427d77265d3", func := "loop.example/refcountml/laws.FnCalleesOf", spec := "fnCalleesOf", unfollowed := true, recurses := true, apart := false, narrowed := true }
def FnCalleesOfUptoSaid : Prop := fnCalleesOfUptoRow.holds Try.pinned (OpenSpec.upto fnCalleesOfSpec)

/-- 'laws.FnReachedFromAll', WHERE WHAT IT READS IS OF BULK AT MOST 1048576: true; the input reads as it did. -/
def fnReachedFromAllUptoRow : OpenClaim := { program := "ytaeddcnakilnlaa", sum := "d0fe665b44af2c41d59af768342c3c5ed9e41e109c62596eb8f61427d77265d3", func := "loop.example/refcountml/laws.FnReachedFromAll", spec := "fnReachedFromAll", unfollowed := true, recurses := true, apart := false, narrowed := true }
def FnReachedFromAllUptoSaid : Prop := fnReachedFromAllUptoRow.holds Try.pinned (OpenSpec.upto fnReachedFromAllSpec)

/-- 'laws.FnReachedFrom', WHERE WHAT IT READS IS OF BULK AT MOST 1048576: true; the input reads as it did. -/
def fnReachedFromUptoRow : OpenClaim := { program := "ytaeddcnakilnlaa", sum := "d0fe665b44af2c41d59af768342c3c5ed9e41e109c62596eb8f61427d77265d3", func := "loop.example/refcountml/laws.FnReachedFrom", spec := "fnReachedFrom", unfollowed := true, recurses := true, apart := false, narrowed := true }
def FnReachedFromUptoSaid : Prop := fnReachedFromUptoRow.holds Try.pinned (OpenSpec.upto fnReachedFromSpec)

end Rows
end Go.Proofs.Ytaeddcnakilnlaa
