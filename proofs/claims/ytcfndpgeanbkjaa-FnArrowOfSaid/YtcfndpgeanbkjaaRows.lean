/-
  No cell of these rows narrows 'for every input' (looked for: loops, veiled, ifaces, maps, wideKeys, modest, calm, conditions, laid).
  DERIVED. THE GIVEN ROWS OF THIS SEAT. 18 by the template 'for every input the law returns true; each argument reads behind the call as it read before'; 0 by the template 'total and deterministic' (their statements: YtcfndpgeanbkjaaTotals.lean).
  GIVEN WITH THE SEED: the statements are not yours to turn. If you find one false, say at which input.
  Laid BY PROGRAM, IN A SANDBOX (cutbox-rows.mjs): the forced cells as the released guide's own fill.sh prints them over the translation fd7be24f32d241ac… (all of the seat's roots in one cut). By AI agents, Wed Nov 11 2026. No macro, syntax, notation, axiom, sorry.
-/
import Derived.Test.YtcfndpgeanbkjaaChecked
import GoSem.Claim
import GoSem.ClaimJoined
import GoSem.ClaimMapViews
import Derived.JoinedTies
import Derived.KernelRfl
namespace Go.Proofs.Ytcfndpgeanbkjaa
/- THE CELL 'sum', in the pinned program and in every row, IS THE sha256 OF THE DUMP (.gsa) THAT YtcfndpgeanbkjaaProg.lean LOADS. Nothing in Lean hashes anything: it is a label: what it is worth is what the hold of that sum in a sandbox is worth. -/
noncomputable def Try.pinned : Pinned := { name := "ytcfndpgeanbkjaa", sum := "fd7be24f32d241ac9b744b0b2cab6dc5cc044d13381be02707e3a462de656299", checked := Try.checked }
namespace Rows
def none {H : Type} : Left H := { results := [], args := [] }

/-- 'laws.FnValidTypes': WHATEVER THE INPUT: true; the input reads as it did. -/
def fnValidTypesSpec : ChangeSpec := { name := "fnValidTypes", fn := fun _ => fun
  | [d] => { results := [.lit (.bool true)], args := [d] }
  | _ => none }
def fnValidTypesRow : OpenClaim := { program := "ytcfndpgeanbkjaa", sum := "fd7be24f32d241ac9b744b0b2cab6dc5cc044d13381be02707e3a462de656299", func := "loop.example/refcountml/laws.FnValidTypes", spec := "fnValidTypes", apart := false }
def FnValidTypesSaid : Prop := fnValidTypesRow.holds Try.pinned (OpenSpec.ofChange fnValidTypesSpec)

/-- ITS FALSE NEIGHBOUR: 'it returns false'. Refute it at one input. -/
def fnValidTypesWrong : ChangeSpec := { name := "fnValidTypes", fn := fun _ => fun
  | [d] => { results := [.lit (.bool false)], args := [d] }
  | _ => none }
def FnValidTypesWrongFalsely : Prop := fnValidTypesRow.holds Try.pinned (OpenSpec.ofChange fnValidTypesWrong)

/-- 'laws.FnValidTypesTwice': WHATEVER THE INPUT: true; the input reads as it did. -/
def fnValidTypesTwiceSpec : ChangeSpec := { name := "fnValidTypesTwice", fn := fun _ => fun
  | [d] => { results := [.lit (.bool true)], args := [d] }
  | _ => none }
def fnValidTypesTwiceRow : OpenClaim := { program := "ytcfndpgeanbkjaa", sum := "fd7be24f32d241ac9b744b0b2cab6dc5cc044d13381be02707e3a462de656299", func := "loop.example/refcountml/laws.FnValidTypesTwice", spec := "fnValidTypesTwice", apart := false }
def FnValidTypesTwiceSaid : Prop := fnValidTypesTwiceRow.holds Try.pinned (OpenSpec.ofChange fnValidTypesTwiceSpec)

/-- ITS FALSE NEIGHBOUR: 'it returns false'. Refute it at one input. -/
def fnValidTypesTwiceWrong : ChangeSpec := { name := "fnValidTypesTwice", fn := fun _ => fun
  | [d] => { results := [.lit (.bool false)], args := [d] }
  | _ => none }
def FnValidTypesTwiceWrongFalsely : Prop := fnValidTypesTwiceRow.holds Try.pinned (OpenSpec.ofChange fnValidTypesTwiceWrong)

/-- 'laws.FnArrowOfAll': WHATEVER THE INPUT: true; the input reads as it did. -/
def fnArrowOfAllSpec : ChangeSpec := { name := "fnArrowOfAll", fn := fun _ => fun
  | [d] => { results := [.lit (.bool true)], args := [d] }
  | _ => none }
def fnArrowOfAllRow : OpenClaim := { program := "ytcfndpgeanbkjaa", sum := "fd7be24f32d241ac9b744b0b2cab6dc5cc044d13381be02707e3a462de656299", func := "loop.example/refcountml/laws.FnArrowOfAll", spec := "fnArrowOfAll", apart := false }
def FnArrowOfAllSaid : Prop := fnArrowOfAllRow.holds Try.pinned (OpenSpec.ofChange fnArrowOfAllSpec)

/-- ITS FALSE NEIGHBOUR: 'it returns false'. Refute it at one input. -/
def fnArrowOfAllWrong : ChangeSpec := { name := "fnArrowOfAll", fn := fun _ => fun
  | [d] => { results := [.lit (.bool false)], args := [d] }
  | _ => none }
def FnArrowOfAllWrongFalsely : Prop := fnArrowOfAllRow.holds Try.pinned (OpenSpec.ofChange fnArrowOfAllWrong)

/-- 'laws.FnConCount': WHATEVER THE INPUT: true; the input reads as it did. -/
def fnConCountSpec : ChangeSpec := { name := "fnConCount", fn := fun _ => fun
  | [d] => { results := [.lit (.bool true)], args := [d] }
  | _ => none }
def fnConCountRow : OpenClaim := { program := "ytcfndpgeanbkjaa", sum := "fd7be24f32d241ac9b744b0b2cab6dc5cc044d13381be02707e3a462de656299", func := "loop.example/refcountml/laws.FnConCount", spec := "fnConCount", apart := false }
def FnConCountSaid : Prop := fnConCountRow.holds Try.pinned (OpenSpec.ofChange fnConCountSpec)

/-- ITS FALSE NEIGHBOUR: 'it returns false'. Refute it at one input. -/
def fnConCountWrong : ChangeSpec := { name := "fnConCount", fn := fun _ => fun
  | [d] => { results := [.lit (.bool false)], args := [d] }
  | _ => none }
def FnConCountWrongFalsely : Prop := fnConCountRow.holds Try.pinned (OpenSpec.ofChange fnConCountWrong)

/-- 'laws.FnConTypeOrder': WHATEVER THE INPUT: true; the input reads as it did. -/
def fnConTypeOrderSpec : ChangeSpec := { name := "fnConTypeOrder", fn := fun _ => fun
  | [d] => { results := [.lit (.bool true)], args := [d] }
  | _ => none }
def fnConTypeOrderRow : OpenClaim := { program := "ytcfndpgeanbkjaa", sum := "fd7be24f32d241ac9b744b0b2cab6dc5cc044d13381be02707e3a462de656299", func := "loop.example/refcountml/laws.FnConTypeOrder", spec := "fnConTypeOrder", apart := false }
def FnConTypeOrderSaid : Prop := fnConTypeOrderRow.holds Try.pinned (OpenSpec.ofChange fnConTypeOrderSpec)

/-- ITS FALSE NEIGHBOUR: 'it returns false'. Refute it at one input. -/
def fnConTypeOrderWrong : ChangeSpec := { name := "fnConTypeOrder", fn := fun _ => fun
  | [d] => { results := [.lit (.bool false)], args := [d] }
  | _ => none }
def FnConTypeOrderWrongFalsely : Prop := fnConTypeOrderRow.holds Try.pinned (OpenSpec.ofChange fnConTypeOrderWrong)

/-- 'laws.FnArrowOf': WHATEVER THE INPUT: true; the input reads as it did. -/
def fnArrowOfSpec : ChangeSpec := { name := "fnArrowOf", fn := fun _ => fun
  | [d] => { results := [.lit (.bool true)], args := [d] }
  | _ => none }
def fnArrowOfRow : OpenClaim := { program := "ytcfndpgeanbkjaa", sum := "fd7be24f32d241ac9b744b0b2cab6dc5cc044d13381be02707e3a462de656299", func := "loop.example/refcountml/laws.FnArrowOf", spec := "fnArrowOf", apart := false }
def FnArrowOfSaid : Prop := fnArrowOfRow.holds Try.pinned (OpenSpec.ofChange fnArrowOfSpec)

/-- ITS FALSE NEIGHBOUR: 'it returns false'. Refute it at one input. -/
def fnArrowOfWrong : ChangeSpec := { name := "fnArrowOf", fn := fun _ => fun
  | [d] => { results := [.lit (.bool false)], args := [d] }
  | _ => none }
def FnArrowOfWrongFalsely : Prop := fnArrowOfRow.holds Try.pinned (OpenSpec.ofChange fnArrowOfWrong)

/-- 'laws.FnConsOf': WHATEVER THE INPUT: true; the input reads as it did. -/
def fnConsOfSpec : ChangeSpec := { name := "fnConsOf", fn := fun _ => fun
  | [d] => { results := [.lit (.bool true)], args := [d] }
  | _ => none }
def fnConsOfRow : OpenClaim := { program := "ytcfndpgeanbkjaa", sum := "fd7be24f32d241ac9b744b0b2cab6dc5cc044d13381be02707e3a462de656299", func := "loop.example/refcountml/laws.FnConsOf", spec := "fnConsOf", apart := false }
def FnConsOfSaid : Prop := fnConsOfRow.holds Try.pinned (OpenSpec.ofChange fnConsOfSpec)

/-- ITS FALSE NEIGHBOUR: 'it returns false'. Refute it at one input. -/
def fnConsOfWrong : ChangeSpec := { name := "fnConsOf", fn := fun _ => fun
  | [d] => { results := [.lit (.bool false)], args := [d] }
  | _ => none }
def FnConsOfWrongFalsely : Prop := fnConsOfRow.holds Try.pinned (OpenSpec.ofChange fnConsOfWrong)

/-- 'laws.FnExactValidTypes': WHATEVER THE INPUT: true; the input reads as it did. -/
def fnExactValidTypesSpec : ChangeSpec := { name := "fnExactValidTypes", fn := fun _ => fun
  | [d] => { results := [.lit (.bool true)], args := [d] }
  | _ => none }
def fnExactValidTypesRow : OpenClaim := { program := "ytcfndpgeanbkjaa", sum := "fd7be24f32d241ac9b744b0b2cab6dc5cc044d13381be02707e3a462de656299", func := "loop.example/refcountml/laws.FnExactValidTypes", spec := "fnExactValidTypes", apart := false }
def FnExactValidTypesSaid : Prop := fnExactValidTypesRow.holds Try.pinned (OpenSpec.ofChange fnExactValidTypesSpec)

/-- ITS FALSE NEIGHBOUR: 'it returns false'. Refute it at one input. -/
def fnExactValidTypesWrong : ChangeSpec := { name := "fnExactValidTypes", fn := fun _ => fun
  | [d] => { results := [.lit (.bool false)], args := [d] }
  | _ => none }
def FnExactValidTypesWrongFalsely : Prop := fnExactValidTypesRow.holds Try.pinned (OpenSpec.ofChange fnExactValidTypesWrong)

/-- 'laws.FnConType': WHATEVER THE INPUT: true; the input reads as it did. -/
def fnConTypeSpec : ChangeSpec := { name := "fnConType", fn := fun _ => fun
  | [d] => { results := [.lit (.bool true)], args := [d] }
  | _ => none }
def fnConTypeRow : OpenClaim := { program := "ytcfndpgeanbkjaa", sum := "fd7be24f32d241ac9b744b0b2cab6dc5cc044d13381be02707e3a462de656299", func := "loop.example/refcountml/laws.FnConType", spec := "fnConType", apart := false }
def FnConTypeSaid : Prop := fnConTypeRow.holds Try.pinned (OpenSpec.ofChange fnConTypeSpec)

/-- ITS FALSE NEIGHBOUR: 'it returns false'. Refute it at one input. -/
def fnConTypeWrong : ChangeSpec := { name := "fnConType", fn := fun _ => fun
  | [d] => { results := [.lit (.bool false)], args := [d] }
  | _ => none }
def FnConTypeWrongFalsely : Prop := fnConTypeRow.holds Try.pinned (OpenSpec.ofChange fnConTypeWrong)

/-- 'laws.FnExactConCount': WHATEVER THE INPUT: true; the input reads as it did. -/
def fnExactConCountSpec : ChangeSpec := { name := "fnExactConCount", fn := fun _ => fun
  | [d] => { results := [.lit (.bool true)], args := [d] }
  | _ => none }
def fnExactConCountRow : OpenClaim := { program := "ytcfndpgeanbkjaa", sum := "fd7be24f32d241ac9b744b0b2cab6dc5cc044d13381be02707e3a462de656299", func := "loop.example/refcountml/laws.FnExactConCount", spec := "fnExactConCount", apart := false }
def FnExactConCountSaid : Prop := fnExactConCountRow.holds Try.pinned (OpenSpec.ofChange fnExactConCountSpec)

/-- ITS FALSE NEIGHBOUR: 'it returns false'. Refute it at one input. -/
def fnExactConCountWrong : ChangeSpec := { name := "fnExactConCount", fn := fun _ => fun
  | [d] => { results := [.lit (.bool false)], args := [d] }
  | _ => none }
def FnExactConCountWrongFalsely : Prop := fnExactConCountRow.holds Try.pinned (OpenSpec.ofChange fnExactConCountWrong)

/-- 'laws.FnExactArrowOf': WHATEVER THE INPUT: true; the input reads as it did. -/
def fnExactArrowOfSpec : ChangeSpec := { name := "fnExactArrowOf", fn := fun _ => fun
  | [d1, d2, d3] => { results := [.lit (.bool true)], args := [d1, d2, d3] }
  | _ => none }
def fnExactArrowOfRow : OpenClaim := { program := "ytcfndpgeanbkjaa", sum := "fd7be24f32d241ac9b744b0b2cab6dc5cc044d13381be02707e3a462de656299", func := "loop.example/refcountml/laws.FnExactArrowOf", spec := "fnExactArrowOf", apart := false }
def FnExactArrowOfSaid : Prop := fnExactArrowOfRow.holds Try.pinned (OpenSpec.ofChange fnExactArrowOfSpec)

/-- ITS FALSE NEIGHBOUR: 'it returns false'. Refute it at one input. -/
def fnExactArrowOfWrong : ChangeSpec := { name := "fnExactArrowOf", fn := fun _ => fun
  | [d1, d2, d3] => { results := [.lit (.bool false)], args := [d1, d2, d3] }
  | _ => none }
def FnExactArrowOfWrongFalsely : Prop := fnExactArrowOfRow.holds Try.pinned (OpenSpec.ofChange fnExactArrowOfWrong)

/-- 'laws.FnConFields': WHATEVER THE INPUT: true; the input reads as it did. -/
def fnConFieldsSpec : ChangeSpec := { name := "fnConFields", fn := fun _ => fun
  | [d] => { results := [.lit (.bool true)], args := [d] }
  | _ => none }
def fnConFieldsRow : OpenClaim := { program := "ytcfndpgeanbkjaa", sum := "fd7be24f32d241ac9b744b0b2cab6dc5cc044d13381be02707e3a462de656299", func := "loop.example/refcountml/laws.FnConFields", spec := "fnConFields", apart := false }
def FnConFieldsSaid : Prop := fnConFieldsRow.holds Try.pinned (OpenSpec.ofChange fnConFieldsSpec)

/-- ITS FALSE NEIGHBOUR: 'it returns false'. Refute it at one input. -/
def fnConFieldsWrong : ChangeSpec := { name := "fnConFields", fn := fun _ => fun
  | [d] => { results := [.lit (.bool false)], args := [d] }
  | _ => none }
def FnConFieldsWrongFalsely : Prop := fnConFieldsRow.holds Try.pinned (OpenSpec.ofChange fnConFieldsWrong)

/-- 'laws.FnExactConType': WHATEVER THE INPUT: true; the input reads as it did. -/
def fnExactConTypeSpec : ChangeSpec := { name := "fnExactConType", fn := fun _ => fun
  | [d1, d2] => { results := [.lit (.bool true)], args := [d1, d2] }
  | _ => none }
def fnExactConTypeRow : OpenClaim := { program := "ytcfndpgeanbkjaa", sum := "fd7be24f32d241ac9b744b0b2cab6dc5cc044d13381be02707e3a462de656299", func := "loop.example/refcountml/laws.FnExactConType", spec := "fnExactConType", apart := false }
def FnExactConTypeSaid : Prop := fnExactConTypeRow.holds Try.pinned (OpenSpec.ofChange fnExactConTypeSpec)

/-- ITS FALSE NEIGHBOUR: 'it returns false'. Refute it at one input. -/
def fnExactConTypeWrong : ChangeSpec := { name := "fnExactConType", fn := fun _ => fun
  | [d1, d2] => { results := [.lit (.bool false)], args := [d1, d2] }
  | _ => none }
def FnExactConTypeWrongFalsely : Prop := fnExactConTypeRow.holds Try.pinned (OpenSpec.ofChange fnExactConTypeWrong)

/-- 'laws.FnInhabitedMore': WHATEVER THE INPUT: true; the input reads as it did. -/
def fnInhabitedMoreSpec : ChangeSpec := { name := "fnInhabitedMore", fn := fun _ => fun
  | [d] => { results := [.lit (.bool true)], args := [d] }
  | _ => none }
def fnInhabitedMoreRow : OpenClaim := { program := "ytcfndpgeanbkjaa", sum := "fd7be24f32d241ac9b744b0b2cab6dc5cc044d13381be02707e3a462de656299", func := "loop.example/refcountml/laws.FnInhabitedMore", spec := "fnInhabitedMore", unfollowed := true, recurses := true, apart := false }
def FnInhabitedMoreSaid : Prop := fnInhabitedMoreRow.holds Try.pinned (OpenSpec.ofChange fnInhabitedMoreSpec)

/-- ITS FALSE NEIGHBOUR: 'it returns false'. Refute it at one input. -/
def fnInhabitedMoreWrong : ChangeSpec := { name := "fnInhabitedMore", fn := fun _ => fun
  | [d] => { results := [.lit (.bool false)], args := [d] }
  | _ => none }
def FnInhabitedMoreWrongFalsely : Prop := fnInhabitedMoreRow.holds Try.pinned (OpenSpec.ofChange fnInhabitedMoreWrong)

/-- 'laws.FnInhabited': WHATEVER THE INPUT: true; the input reads as it did. -/
def fnInhabitedSpec : ChangeSpec := { name := "fnInhabited", fn := fun _ => fun
  | [d] => { results := [.lit (.bool true)], args := [d] }
  | _ => none }
def fnInhabitedRow : OpenClaim := { program := "ytcfndpgeanbkjaa", sum := "fd7be24f32d241ac9b744b0b2cab6dc5cc044d13381be02707e3a462de656299", func := "loop.example/refcountml/laws.FnInhabited", spec := "fnInhabited", unfollowed := true, recurses := true, apart := false }
def FnInhabitedSaid : Prop := fnInhabitedRow.holds Try.pinned (OpenSpec.ofChange fnInhabitedSpec)

/-- ITS FALSE NEIGHBOUR: 'it returns false'. Refute it at one input. -/
def fnInhabitedWrong : ChangeSpec := { name := "fnInhabited", fn := fun _ => fun
  | [d] => { results := [.lit (.bool false)], args := [d] }
  | _ => none }
def FnInhabitedWrongFalsely : Prop := fnInhabitedRow.holds Try.pinned (OpenSpec.ofChange fnInhabitedWrong)

/-- 'laws.FnExactConsOf': WHATEVER THE INPUT: true; the input reads as it did. -/
def fnExactConsOfSpec : ChangeSpec := { name := "fnExactConsOf", fn := fun _ => fun
  | [d1, d2] => { results := [.lit (.bool true)], args := [d1, d2] }
  | _ => none }
def fnExactConsOfRow : OpenClaim := { program := "ytcfndpgeanbkjaa", sum := "fd7be24f32d241ac9b744b0b2cab6dc5cc044d13381be02707e3a462de656299", func := "loop.example/refcountml/laws.FnExactConsOf", spec := "fnExactConsOf", apart := false }
def FnExactConsOfSaid : Prop := fnExactConsOfRow.holds Try.pinned (OpenSpec.ofChange fnExactConsOfSpec)

/-- ITS FALSE NEIGHBOUR: 'it returns false'. Refute it at one input. -/
def fnExactConsOfWrong : ChangeSpec := { name := "fnExactConsOf", fn := fun _ => fun
  | [d1, d2] => { results := [.lit (.bool false)], args := [d1, d2] }
  | _ => none }
def FnExactConsOfWrongFalsely : Prop := fnExactConsOfRow.holds Try.pinned (OpenSpec.ofChange fnExactConsOfWrong)

/-- 'laws.FnExactConFields': WHATEVER THE INPUT: true; the input reads as it did. -/
def fnExactConFieldsSpec : ChangeSpec := { name := "fnExactConFields", fn := fun _ => fun
  | [d1, d2] => { results := [.lit (.bool true)], args := [d1, d2] }
  | _ => none }
def fnExactConFieldsRow : OpenClaim := { program := "ytcfndpgeanbkjaa", sum := "fd7be24f32d241ac9b744b0b2cab6dc5cc044d13381be02707e3a462de656299", func := "loop.example/refcountml/laws.FnExactConFields", spec := "fnExactConFields", apart := false }
def FnExactConFieldsSaid : Prop := fnExactConFieldsRow.holds Try.pinned (OpenSpec.ofChange fnExactConFieldsSpec)

/-- ITS FALSE NEIGHBOUR: 'it returns false'. Refute it at one input. -/
def fnExactConFieldsWrong : ChangeSpec := { name := "fnExactConFields", fn := fun _ => fun
  | [d1, d2] => { results := [.lit (.bool false)], args := [d1, d2] }
  | _ => none }
def FnExactConFieldsWrongFalsely : Prop := fnExactConFieldsRow.holds Try.pinned (OpenSpec.ofChange fnExactConFieldsWrong)

/-- 'laws.FnExactInhabited': WHATEVER THE INPUT: true; the input reads as it did. -/
def fnExactInhabitedSpec : ChangeSpec := { name := "fnExactInhabited", fn := fun _ => fun
  | [d] => { results := [.lit (.bool true)], args := [d] }
  | _ => none }
def fnExactInhabitedRow : OpenClaim := { program := "ytcfndpgeanbkjaa", sum := "fd7be24f32d241ac9b744b0b2cab6dc5cc044d13381be02707e3a462de656299", func := "loop.example/refcountml/laws.FnExactInhabited", spec := "fnExactInhabited", unfollowed := true, recurses := true, apart := false }
def FnExactInhabitedSaid : Prop := fnExactInhabitedRow.holds Try.pinned (OpenSpec.ofChange fnExactInhabitedSpec)

/-- ITS FALSE NEIGHBOUR: 'it returns false'. Refute it at one input. -/
def fnExactInhabitedWrong : ChangeSpec := { name := "fnExactInhabited", fn := fun _ => fun
  | [d] => { results := [.lit (.bool false)], args := [d] }
  | _ => none }
def FnExactInhabitedWrongFalsely : Prop := fnExactInhabitedRow.holds Try.pinned (OpenSpec.ofChange fnExactInhabitedWrong)

/- THE SECOND FORM. 'bulk': how many values and letters a reading holds, each counted each time it is reached (what is shared counts as often as it is met; a slice's spare places count too). A statement '..UptoSaid' is the law's where the arguments, and the package variables that the reading takes, are together of bulk at most 1048576: NARROWER than '..Said'. Prove '..Said' where nothing that the law and all that it calls make is longer than what came in: it says more and counts as full. Else prove '..UptoSaid'. A law counts once. -/
mutual
def uptoBulk {H : Type} : DataW H → Nat
  | .lit (.string bytes) => bytes.length + 1
  | .lit _ => 1
  | .nil => 1
  | .ptr d => uptoBulk d + 1
  | .slice elems spare => uptoBulkAll elems + uptoBulkAll spare + 1
  | .agg parts => uptoBulkAll parts + 1
  | .iface _ d => uptoBulk d + 1
  | .map entries => uptoBulkEntries entries + 1
  | .held _ => 1
def uptoBulkAll {H : Type} : List (DataW H) → Nat
  | [] => 0
  | d :: r => uptoBulk d + uptoBulkAll r
def uptoBulkEntries {H : Type} : List (Lit × DataW H) → Nat
  | [] => 0
  | x :: r => uptoBulkEntry x + uptoBulkEntries r
def uptoBulkEntry {H : Type} : Lit × DataW H → Nat
  | (.string bytes, d) => bytes.length + uptoBulk d + 1
  | (_, d) => uptoBulk d + 1
 end
def uptoSmall : (H : Type) → List (DataW H) → Bool := fun _ ds => decide (uptoBulkAll ds ≤ 1048576)
def OpenSpec.upto (s : _root_.Go.ChangeSpec) : _root_.Go.OpenSpec := { _root_.Go.OpenSpec.ofChange s with cond := some uptoSmall }

/-- 'laws.FnValidTypes', WHERE WHAT IT READS IS OF BULK AT MOST 1048576: true; the input reads as it did. -/
def fnValidTypesUptoRow : OpenClaim := { program := "ytcfndpgeanbkjaa", sum := "fd7be24f32d241ac9b744b0b2cab6dc5cc044d13381be02707e3a462de656299", func := "loop.example/refcountml/laws.FnValidTypes", spec := "fnValidTypes", apart := false, narrowed := true }
def FnValidTypesUptoSaid : Prop := fnValidTypesUptoRow.holds Try.pinned (OpenSpec.upto fnValidTypesSpec)

/-- 'laws.FnValidTypesTwice', WHERE WHAT IT READS IS OF BULK AT MOST 1048576: true; the input reads as it did. -/
def fnValidTypesTwiceUptoRow : OpenClaim := { program := "ytcfndpgeanbkjaa", sum := "fd7be24f32d241ac9b744b0b2cab6dc5cc044d13381be02707e3a462de656299", func := "loop.example/refcountml/laws.FnValidTypesTwice", spec := "fnValidTypesTwice", apart := false, narrowed := true }
def FnValidTypesTwiceUptoSaid : Prop := fnValidTypesTwiceUptoRow.holds Try.pinned (OpenSpec.upto fnValidTypesTwiceSpec)

/-- 'laws.FnArrowOfAll', WHERE WHAT IT READS IS OF BULK AT MOST 1048576: true; the input reads as it did. -/
def fnArrowOfAllUptoRow : OpenClaim := { program := "ytcfndpgeanbkjaa", sum := "fd7be24f32d241ac9b744b0b2cab6dc5cc044d13381be02707e3a462de656299", func := "loop.example/refcountml/laws.FnArrowOfAll", spec := "fnArrowOfAll", apart := false, narrowed := true }
def FnArrowOfAllUptoSaid : Prop := fnArrowOfAllUptoRow.holds Try.pinned (OpenSpec.upto fnArrowOfAllSpec)

/-- 'laws.FnConCount', WHERE WHAT IT READS IS OF BULK AT MOST 1048576: true; the input reads as it did. -/
def fnConCountUptoRow : OpenClaim := { program := "ytcfndpgeanbkjaa", sum := "fd7be24f32d241ac9b744b0b2cab6dc5cc044d13381be02707e3a462de656299", func := "loop.example/refcountml/laws.FnConCount", spec := "fnConCount", apart := false, narrowed := true }
def FnConCountUptoSaid : Prop := fnConCountUptoRow.holds Try.pinned (OpenSpec.upto fnConCountSpec)

/-- 'laws.FnConTypeOrder', WHERE WHAT IT READS IS OF BULK AT MOST 1048576: true; the input reads as it did. -/
def fnConTypeOrderUptoRow : OpenClaim := { program := "ytcfndpgeanbkjaa", sum := "fd7be24f32d241ac9b744b0b2cab6dc5cc044d13381be02707e3a462de656299", func := "loop.example/refcountml/laws.FnConTypeOrder", spec := "fnConTypeOrder", apart := false, narrowed := true }
def FnConTypeOrderUptoSaid : Prop := fnConTypeOrderUptoRow.holds Try.pinned (OpenSpec.upto fnConTypeOrderSpec)

/-- 'laws.FnArrowOf', WHERE WHAT IT READS IS OF BULK AT MOST 1048576: true; the input reads as it did. -/
def fnArrowOfUptoRow : OpenClaim := { program := "ytcfndpgeanbkjaa", sum := "fd7be24f32d241ac9b744b0b2cab6dc5cc044d13381be02707e3a462de656299", func := "loop.example/refcountml/laws.FnArrowOf", spec := "fnArrowOf", apart := false, narrowed := true }
def FnArrowOfUptoSaid : Prop := fnArrowOfUptoRow.holds Try.pinned (OpenSpec.upto fnArrowOfSpec)

/-- 'laws.FnConsOf', WHERE WHAT IT READS IS OF BULK AT MOST 1048576: true; the input reads as it did. -/
def fnConsOfUptoRow : OpenClaim := { program := "ytcfndpgeanbkjaa", sum := "fd7be24f32d241ac9b744b0b2cab6dc5cc044d13381be02707e3a462de656299", func := "loop.example/refcountml/laws.FnConsOf", spec := "fnConsOf", apart := false, narrowed := true }
def FnConsOfUptoSaid : Prop := fnConsOfUptoRow.holds Try.pinned (OpenSpec.upto fnConsOfSpec)

/-- 'laws.FnExactValidTypes', WHERE WHAT IT READS IS OF BULK AT MOST 1048576: true; the input reads as it did. -/
def fnExactValidTypesUptoRow : OpenClaim := { program := "ytcfndpgeanbkjaa", sum := "fd7be24f32d241ac9b744b0b2cab6dc5cc044d13381be02707e3a462de656299", func := "loop.example/refcountml/laws.FnExactValidTypes", spec := "fnExactValidTypes", apart := false, narrowed := true }
def FnExactValidTypesUptoSaid : Prop := fnExactValidTypesUptoRow.holds Try.pinned (OpenSpec.upto fnExactValidTypesSpec)

/-- 'laws.FnConType', WHERE WHAT IT READS IS OF BULK AT MOST 1048576: true; the input reads as it did. -/
def fnConTypeUptoRow : OpenClaim := { program := "ytcfndpgeanbkjaa", sum := "fd7be24f32d241ac9b744b0b2cab6dc5cc044d13381be02707e3a462de656299", func := "loop.example/refcountml/laws.FnConType", spec := "fnConType", apart := false, narrowed := true }
def FnConTypeUptoSaid : Prop := fnConTypeUptoRow.holds Try.pinned (OpenSpec.upto fnConTypeSpec)

/-- 'laws.FnExactConCount', WHERE WHAT IT READS IS OF BULK AT MOST 1048576: true; the input reads as it did. -/
def fnExactConCountUptoRow : OpenClaim := { program := "ytcfndpgeanbkjaa", sum := "fd7be24f32d241ac9b744b0b2cab6dc5cc044d13381be02707e3a462de656299", func := "loop.example/refcountml/laws.FnExactConCount", spec := "fnExactConCount", apart := false, narrowed := true }
def FnExactConCountUptoSaid : Prop := fnExactConCountUptoRow.holds Try.pinned (OpenSpec.upto fnExactConCountSpec)

/-- 'laws.FnExactArrowOf', WHERE WHAT IT READS IS OF BULK AT MOST 1048576: true; the input reads as it did. -/
def fnExactArrowOfUptoRow : OpenClaim := { program := "ytcfndpgeanbkjaa", sum := "fd7be24f32d241ac9b744b0b2cab6dc5cc044d13381be02707e3a462de656299", func := "loop.example/refcountml/laws.FnExactArrowOf", spec := "fnExactArrowOf", apart := false, narrowed := true }
def FnExactArrowOfUptoSaid : Prop := fnExactArrowOfUptoRow.holds Try.pinned (OpenSpec.upto fnExactArrowOfSpec)

/-- 'laws.FnConFields', WHERE WHAT IT READS IS OF BULK AT MOST 1048576: true; the input reads as it did. -/
def fnConFieldsUptoRow : OpenClaim := { program := "ytcfndpgeanbkjaa", sum := "fd7be24f32d241ac9b744b0b2cab6dc5cc044d13381be02707e3a462de656299", func := "loop.example/refcountml/laws.FnConFields", spec := "fnConFields", apart := false, narrowed := true }
def FnConFieldsUptoSaid : Prop := fnConFieldsUptoRow.holds Try.pinned (OpenSpec.upto fnConFieldsSpec)

/-- 'laws.FnExactConType', WHERE WHAT IT READS IS OF BULK AT MOST 1048576: true; the input reads as it did. -/
def fnExactConTypeUptoRow : OpenClaim := { program := "ytcfndpgeanbkjaa", sum := "fd7be24f32d241ac9b744b0b2cab6dc5cc044d13381be02707e3a462de656299", func := "loop.example/refcountml/laws.FnExactConType", spec := "fnExactConType", apart := false, narrowed := true }
def FnExactConTypeUptoSaid : Prop := fnExactConTypeUptoRow.holds Try.pinned (OpenSpec.upto fnExactConTypeSpec)

/-- 'laws.FnInhabitedMore', WHERE WHAT IT READS IS OF BULK AT MOST 1048576: true; the input reads as it did. -/
def fnInhabitedMoreUptoRow : OpenClaim := { program := "ytcfndpgeanbkjaa", sum := "fd7be24f32d241ac9b744b0b2cab6dc5cc044d13381be02707e3a462de656299", func := "loop.example/refcountml/laws.FnInhabitedMore", spec := "fnInhabitedMore", unfollowed := true, recurses := true, apart := false, narrowed := true }
def FnInhabitedMoreUptoSaid : Prop := fnInhabitedMoreUptoRow.holds Try.pinned (OpenSpec.upto fnInhabitedMoreSpec)

/-- 'laws.FnInhabited', WHERE WHAT IT READS IS OF BULK AT MOST 1048576: true; the input reads as it did. -/
def fnInhabitedUptoRow : OpenClaim := { program := "ytcfndpgeanbkjaa", sum := "fd7be24f32d241ac9b744b0b2cab6dc5cc044d13381be02707e3a462de656299", func := "loop.example/refcountml/laws.FnInhabited", spec := "fnInhabited", unfollowed := true, recurses := true, apart := false, narrowed := true }
def FnInhabitedUptoSaid : Prop := fnInhabitedUptoRow.holds Try.pinned (OpenSpec.upto fnInhabitedSpec)

/-- 'laws.FnExactConsOf', WHERE WHAT IT READS IS OF BULK AT MOST 1048576: true; the input reads as it did. -/
def fnExactConsOfUptoRow : OpenClaim := { program := "ytcfndpgeanbkjaa", sum := "fd7be24f32d241ac9b744b0b2cab6dc5cc044d13381be02707e3a462de656299", func := "loop.example/refcountml/laws.FnExactConsOf", spec := "fnExactConsOf", apart := false, narrowed := true }
def FnExactConsOfUptoSaid : Prop := fnExactConsOfUptoRow.holds Try.pinned (OpenSpec.upto fnExactConsOfSpec)

/-- 'laws.FnExactConFields', WHERE WHAT IT READS IS OF BULK AT MOST 1048576: true; the input reads as it did. -/
def fnExactConFieldsUptoRow : OpenClaim := { program := "ytcfndpgeanbkjaa", sum := "fd7be24f32d241ac9b744b0b2cab6dc5cc044d13381be02707e3a462de656299", func := "loop.example/refcountml/laws.FnExactConFields", spec := "fnExactConFields", apart := false, narrowed := true }
def FnExactConFieldsUptoSaid : Prop := fnExactConFieldsUptoRow.holds Try.pinned (OpenSpec.upto fnExactConFieldsSpec)

/-- 'laws.FnExactInhabited', WHERE WHAT IT READS IS OF BULK AT MOST 1048576: true; the input reads as it did. -/
def fnExactInhabitedUptoRow : OpenClaim := { program := "ytcfndpgeanbkjaa", sum := "fd7be24f32d241ac9b744b0b2cab6dc5cc044d13381be02707e3a462de656299", func := "loop.example/refcountml/laws.FnExactInhabited", spec := "fnExactInhabited", unfollowed := true, recurses := true, apart := false, narrowed := true }
def FnExactInhabitedUptoSaid : Prop := fnExactInhabitedUptoRow.holds Try.pinned (OpenSpec.upto fnExactInhabitedSpec)

end Rows
end Go.Proofs.Ytcfndpgeanbkjaa
