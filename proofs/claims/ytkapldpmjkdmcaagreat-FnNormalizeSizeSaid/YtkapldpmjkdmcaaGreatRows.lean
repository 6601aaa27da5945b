/-
  NARROWER THAN 'FOR EVERY INPUT', by the rows' own cells (each row's printed sentence says how): FnExactPlainOf: loops · FnExactNormalize: loops.
  DERIVED. THE GIVEN ROWS OF THIS SEAT. 4 by the template 'for every input the law returns true; each argument reads behind the call as it read before'; 0 by the template 'total and deterministic' (their statements: YtkapldpmjkdmcaaGreatTotals.lean).
  GIVEN WITH THE SEED: the statements are not yours to turn. If you find one false, say at which input.
  Laid BY PROGRAM, IN A SANDBOX (cutbox-rows.mjs): the forced cells as the released guide's own fill.sh prints them over the translation 12240bb7f0c573fd… (all of the seat's roots in one cut). By AI agents, Wed Nov 11 2026. No macro, syntax, notation, axiom, sorry.
-/
import Derived.Test.YtkapldpmjkdmcaaGreatChecked
import GoSem.Claim
import GoSem.ClaimJoined
import GoSem.ClaimMapViews
import Derived.JoinedTies
import Derived.KernelRfl
namespace Go.Proofs.YtkapldpmjkdmcaaGreat
/- THE CELL 'sum', in the pinned program and in every row, IS THE sha256 OF THE DUMP (.gsa) THAT YtkapldpmjkdmcaaGreatProg.lean LOADS. Nothing in Lean hashes anything: it is a label: what it is worth is what the hold of that sum in a sandbox is worth. -/
noncomputable def Tryz.pinned : Pinned := { name := "ytkapldpmjkdmcaagreat", sum := "12240bb7f0c573fddf043e844fdd17dbd262709f21c1a1e56971871fcab2b776", checked := Tryz.checked }
namespace Rows
def none {H : Type} : Left H := { results := [], args := [] }

/-- 'laws.FnExactPlainOf': WHATEVER THE INPUT: true; the input reads as it did. -/
def fnExactPlainOfSpec : ChangeSpec := { name := "fnExactPlainOf", fn := fun _ => fun
  | [d] => { results := [.lit (.bool true)], args := [d] }
  | _ => none }
def fnExactPlainOfRow : OpenClaim := { program := "ytkapldpmjkdmcaagreat", sum := "12240bb7f0c573fddf043e844fdd17dbd262709f21c1a1e56971871fcab2b776", func := "loop.example/refcountml/laws.FnExactPlainOf", spec := "fnExactPlainOf", unfollowed := true, recurses := true, loops := true, apart := false }
def FnExactPlainOfSaid : Prop := fnExactPlainOfRow.holds Tryz.pinned (OpenSpec.ofChange fnExactPlainOfSpec)

/-- ITS FALSE NEIGHBOUR: 'it returns false'. Refute it at one input. -/
def fnExactPlainOfWrong : ChangeSpec := { name := "fnExactPlainOf", fn := fun _ => fun
  | [d] => { results := [.lit (.bool false)], args := [d] }
  | _ => none }
def FnExactPlainOfWrongFalsely : Prop := fnExactPlainOfRow.holds Tryz.pinned (OpenSpec.ofChange fnExactPlainOfWrong)

/-- 'laws.FnExactNormalize': WHATEVER THE INPUT: true; the input reads as it did. -/
def fnExactNormalizeSpec : ChangeSpec := { name := "fnExactNormalize", fn := fun _ => fun
  | [d] => { results := [.lit (.bool true)], args := [d] }
  | _ => none }
def fnExactNormalizeRow : OpenClaim := { program := "ytkapldpmjkdmcaagreat", sum := "12240bb7f0c573fddf043e844fdd17dbd262709f21c1a1e56971871fcab2b776", func := "loop.example/refcountml/laws.FnExactNormalize", spec := "fnExactNormalize", recurses := true, loops := true, apart := false }
def FnExactNormalizeSaid : Prop := fnExactNormalizeRow.holds Tryz.pinned (OpenSpec.ofChange fnExactNormalizeSpec)

/-- ITS FALSE NEIGHBOUR: 'it returns false'. Refute it at one input. -/
def fnExactNormalizeWrong : ChangeSpec := { name := "fnExactNormalize", fn := fun _ => fun
  | [d] => { results := [.lit (.bool false)], args := [d] }
  | _ => none }
def FnExactNormalizeWrongFalsely : Prop := fnExactNormalizeRow.holds Tryz.pinned (OpenSpec.ofChange fnExactNormalizeWrong)

/-- 'laws.FnUnusedParams': WHATEVER THE INPUT: true; the input reads as it did. -/
def fnUnusedParamsSpec : ChangeSpec := { name := "fnUnusedParams", fn := fun _ => fun
  | [d] => { results := [.lit (.bool true)], args := [d] }
  | _ => none }
def fnUnusedParamsRow : OpenClaim := { program := "ytkapldpmjkdmcaagreat", sum := "12240bb7f0c573fddf043e844fdd17dbd262709f21c1a1e56971871fcab2b776", func := "loop.example/refcountml/laws.FnUnusedParams", spec := "fnUnusedParams", unfollowed := true, recurses := true, apart := false }
def FnUnusedParamsSaid : Prop := fnUnusedParamsRow.holds Tryz.pinned (OpenSpec.ofChange fnUnusedParamsSpec)

/-- ITS FALSE NEIGHBOUR: 'it returns false'. Refute it at one input. -/
def fnUnusedParamsWrong : ChangeSpec := { name := "fnUnusedParams", fn := fun _ => fun
  | [d] => { results := [.lit (.bool false)], args := [d] }
  | _ => none }
def FnUnusedParamsWrongFalsely : Prop := fnUnusedParamsRow.holds Tryz.pinned (OpenSpec.ofChange fnUnusedParamsWrong)

/-- 'laws.FnNormalizeSize': WHATEVER THE INPUT: true; the input reads as it did. -/
def fnNormalizeSizeSpec : ChangeSpec := { name := "fnNormalizeSize", fn := fun _ => fun
  | [d] => { results := [.lit (.bool true)], args := [d] }
  | _ => none }
def fnNormalizeSizeRow : OpenClaim := { program := "ytkapldpmjkdmcaagreat", sum := "12240bb7f0c573fddf043e844fdd17dbd262709f21c1a1e56971871fcab2b776", func := "loop.example/refcountml/laws.FnNormalizeSize", spec := "fnNormalizeSize", recurses := true, apart := false }
def FnNormalizeSizeSaid : Prop := fnNormalizeSizeRow.holds Tryz.pinned (OpenSpec.ofChange fnNormalizeSizeSpec)

/-- ITS FALSE NEIGHBOUR: 'it returns false'. Refute it at one input. -/
def fnNormalizeSizeWrong : ChangeSpec := { name := "fnNormalizeSize", fn := fun _ => fun
  | [d] => { results := [.lit (.bool false)], args := [d] }
  | _ => none }
def FnNormalizeSizeWrongFalsely : Prop := fnNormalizeSizeRow.holds Tryz.pinned (OpenSpec.ofChange fnNormalizeSizeWrong)

/- THE SECOND FORM. 'bulk': how many values and letters a reading holds, each counted each time it is reached (what is shared counts as often as it is met; a slice's spare places count too). A statement '..UptoSaid' is the law's where the arguments, and the package variables that the reading takes, are together of bulk at most 1048576: NARROWER than '..Said'. Prove '..Said' where nothing that the law and all that it calls make is longer than what came in: it says more and counts as full. Else prove '..UptoSaid'. A law counts once. -/
mutual
def uptoBulk {H : Type} : DataW H → Nat
  | .lit (.string bytes) => bytes.length + 1
  | .lit _ => 1
  | .nil => 1
  | .ptr d => uptoBulk d + 1
  | .slice elems spare => uptoBulkAll elems + uptoBulkAll spare + 1
  | .agg parts => uptoBulkAll parts + 1
  | .iface _ d => uptoBulk d + 1
  | .map entries => uptoBulkEntries entries + 1
  | .held _ => 1
def uptoBulkAll {H : Type} : List (DataW H) → Nat
  | [] => 0
  | d :: r => uptoBulk d + uptoBulkAll r
def uptoBulkEntries {H : Type} : List (Lit × DataW H) → Nat
  | [] => 0
  | x :: r => uptoBulkEntry x + uptoBulkEntries r
def uptoBulkEntry {H : Type} : Lit × DataW H → Nat
  | (.string bytes, d) => bytes.length + uptoBulk d + 1
  | (_, d) => uptoBulk d + 1
 end
def uptoSmall : (H : Type) → List (DataW H) → Bool := fun _ ds => decide (uptoBulkAll ds ≤ 1048576)
def OpenSpec.upto (s : _root_.Go.ChangeSpec) : _root_.Go.OpenSpec := { _root_.Go.OpenSpec.ofChange s with cond := some uptoSmall }

/-- 'laws.FnExactPlainOf', WHERE WHAT IT READS IS OF BULK AT MOST 1048576: true; the input reads as it did. -/
def fnExactPlainOfUptoRow : OpenClaim := { program := "ytkapldpmjkdmcaagreat", sum := "12240bb7f0c573fddf043e844fdd17dbd262709f21c1a1e56971871fcab2b776", func := "loop.example/refcountml/laws.FnExactPlainOf", spec := "fnExactPlainOf", unfollowed := true, recurses := true, loops := true, apart := false, narrowed := true }
def FnExactPlainOfUptoSaid : Prop := fnExactPlainOfUptoRow.holds Tryz.pinned (OpenSpec.upto fnExactPlainOfSpec)

/-- 'laws.FnExactNormalize', WHERE WHAT IT READS IS OF BULK AT MOST 1048576: true; the input reads as it did. -/
def fnExactNormalizeUptoRow : OpenClaim := { program := "ytkapldpmjkdmcaagreat", sum := "12240bb7f0c573fddf043e844fdd17dbd262709f21c1a1e56971871fcab2b776", func := "loop.example/refcountml/laws.FnExactNormalize", spec := "fnExactNormalize", recurses := true, loops := true, apart := false, narrowed := true }
def FnExactNormalizeUptoSaid : Prop := fnExactNormalizeUptoRow.holds Tryz.pinned (OpenSpec.upto fnExactNormalizeSpec)

/-- 'laws.FnUnusedParams', WHERE WHAT IT READS IS OF BULK AT MOST 1048576: true; the input reads as it did. -/
def fnUnusedParamsUptoRow : OpenClaim := { program := "ytkapldpmjkdmcaagreat", sum := "12240bb7f0c573fddf043e844fdd17dbd262709f21c1a1e56971871fcab2b776", func := "loop.example/refcountml/laws.FnUnusedParams", spec := "fnUnusedParams", unfollowed := true, recurses := true, apart := false, narrowed := true }
def FnUnusedParamsUptoSaid : Prop := fnUnusedParamsUptoRow.holds Tryz.pinned (OpenSpec.upto fnUnusedParamsSpec)

/-- 'laws.FnNormalizeSize', WHERE WHAT IT READS IS OF BULK AT MOST 1048576: true; the input reads as it did. -/
def fnNormalizeSizeUptoRow : OpenClaim := { program := "ytkapldpmjkdmcaagreat", sum := "12240bb7f0c573fddf043e844fdd17dbd262709f21c1a1e56971871fcab2b776", func := "loop.example/refcountml/laws.FnNormalizeSize", spec := "fnNormalizeSize", recurses := true, apart := false, narrowed := true }
def FnNormalizeSizeUptoSaid : Prop := fnNormalizeSizeUptoRow.holds Tryz.pinned (OpenSpec.upto fnNormalizeSizeSpec)

end Rows
end Go.Proofs.YtkapldpmjkdmcaaGreat
