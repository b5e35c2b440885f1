/- The rows' listed variables: the witness' world lays them. -/
import Derived.Test.YtlnogacjebbepaaDoorProg
import Derived.Test.YtlnogacjebbepaaDoorRows
import Derived.ProofKit
import Derived.LaidMore
import Derived.OpenShut
import Derived.Stop.Joined
import Derived.Stop.LaidErr
import Derived.Lay
namespace Go.Proofs.YtlnogacjebbepaaDoor.LaidA
open Go.ChangeShapes Go.WideShapes Go.ChangeAt Go.RowKit
theorem own : ownKnob Tryd.prog.godebug = none := by kernel_rfl
theorem laidOut : laidOutB Tryd.prog = true := by kernel_rfl
def laidL : List (String × DataW Unit) := [("unicode/utf8.acceptRanges", Rows.laid_unicode_utf8_acceptRanges), ("unicode/utf8.first", Rows.laid_unicode_utf8_first)]
end Go.Proofs.YtlnogacjebbepaaDoor.LaidA
