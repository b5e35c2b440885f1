-- Laid by a program of this session (the kit's print, changed): Lean checks it.
import Derived.Test.YtlfghalebkgclaaProg
import Derived.Below
import Derived.Deep.Draws
import Derived.Deep.AppendLies
import Derived.Maps.AppendAt
import Derived.OwnWalk
import Derived.Laws.BytesArg
import Derived.Laws.MakeOwn
import Derived.Laws.OwnMore
import Derived.Deep.OwnRows
import Derived.Tactics
import Derived.Lib.ConvBytes
import Derived.Laws.Slices
import Derived.WalkKit
import Derived.KernelRfl
import Derived.RowKit3
import Derived.Deep.LoopGhost
import Derived.Deep.QuietTactic
import Derived.BigQuiet
import Derived.WideLaws
import Derived.Deep.DeepCutAuto
import Derived.Deep.CutBlock
import Derived.Deep.RegionHeld3
import Derived.Laws.Rows
import Derived.Lib.AppendStr
import Derived.ArgAppend
import Derived.Laws.IdiomCopy
import Derived.OrdersHeld
import Derived.Laws.BitsLemmas
import Derived.RowKit
import Derived.Test.YtlfghalebkgclaaWWords
import Derived.Test.YtlfghalebkgclaaWLast
import Derived.Test.YtlfghalebkgclaaWTab
import Derived.Test.YtlfghalebkgclaaWFour
import Derived.Test.YtlfghalebkgclaaWQPut
import Derived.Test.YtlfghalebkgclaaWApart
import Derived.Test.YtlfghalebkgclaaWArr
import Derived.Test.YtlfghalebkgclaaWZeros
import Derived.Test.YtlfghalebkgclaaWFoot
import Derived.Test.YtlfghalebkgclaaWKept
import Derived.Test.YtlfghalebkgclaaWShare
import Derived.Test.YtlfghalebkgclaaWN
import Derived.Test.YtlfghalebkgclaaWFootNe
import Derived.Test.YtlfghalebkgclaaWAt
import Derived.Test.YtlfghalebkgclaaWEqStruct
import Derived.Test.YtlfghalebkgclaaWRepsOne
import Derived.Test.YtlfghalebkgclaaWInv
import Derived.Test.YtlfghalebkgclaaWInvWords
import Derived.Test.YtlfghalebkgclaaWGuard
import Derived.Test.YtlfghalebkgclaaWNEv
import Derived.Test.YtlfghalebkgclaaWMore
namespace Go.Proofs.Ytlfghalebkgclaa.Q
open Go.RowKit Go.Proofs.YtlfghalebkgclaaW.PrintWords Go.Proofs.YtlfghalebkgclaaW.PrintLast Go.Proofs.YtlfghalebkgclaaW.PrintMore
attribute [local go_sem] max2_int min2_int max_two min_two max_three min_three max_four min_four   -- for this text's walks alone
set_option linter.unusedVariables false
set_option linter.unusedSimpArgs false



def errW : Option Int → Value
  | none => .nilIface
  | some c => .iface 0 (.int .i64 c)
theorem errW_none : errW none = .nilIface := rfl
theorem errW_some (c : Int) : errW (some c) = .iface 0 (.int .i64 c) := rfl

-- the values' own types

end Go.Proofs.Ytlfghalebkgclaa.Q
