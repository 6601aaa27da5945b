/- What all drawn laws on types use. -/
import Derived.Test.YtcfndpgeanbkjaaDrawDecl
import Derived.Test.YtcfndpgeanbkjaaTypesPlain3
import Derived.Test.YtcfndpgeanbkjaaLawHelp
import Derived.Test.YtcfndpgeanbkjaaTypes10
namespace Go.Proofs.Ytcfndpgeanbkjaa
open Go.RowKit
theorem ifOk_no {ds : List DeclL} (h : typesOk ds = false) (x : Int) : ifOk ds x = -1 := by simp [ifOk, h]
theorem ifOk_yes {ds : List DeclL} (h : typesOk ds = true) (x : Int) : ifOk ds x = x := by simp [ifOk, h]
end Go.Proofs.Ytcfndpgeanbkjaa
