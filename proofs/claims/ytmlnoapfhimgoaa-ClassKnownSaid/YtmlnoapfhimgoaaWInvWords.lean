import Derived.Test.YtmlnoapfhimgoaaWInv
import Derived.Test.YtmlnoapfhimgoaaWFootNe
namespace Go.Proofs.YtmlnoapfhimgoaaW.PrintWords
open Go.RowKit
end Go.Proofs.YtmlnoapfhimgoaaW.PrintWords
namespace Go.Proofs.YtmlnoapfhimgoaaW.PrintLast
section
variable {ops : Array Oper} {a : Act} {o og : Oper} {g : Nat} {t : Tmp} {u : Bool}
end
end Go.Proofs.YtmlnoapfhimgoaaW.PrintLast

