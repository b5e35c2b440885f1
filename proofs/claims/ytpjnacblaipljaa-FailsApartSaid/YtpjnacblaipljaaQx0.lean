-- Laid by a program of this session (the kit's print, changed): Lean checks it.
import Derived.Test.YtpjnacblaipljaaProg
import Derived.Below
import Derived.Deep.Draws
import Derived.Deep.AppendLies
import Derived.Maps.AppendAt
import Derived.OwnWalk
import Derived.Laws.BytesArg
import Derived.Laws.MakeOwn
import Derived.Laws.OwnMore
import Derived.Deep.OwnRows
import Derived.Tactics
import Derived.Lib.ConvBytes
import Derived.Laws.Slices
import Derived.WalkKit
import Derived.KernelRfl
import Derived.RowKit3
import Derived.Deep.LoopGhost
import Derived.Deep.QuietTactic
import Derived.BigQuiet
import Derived.WideLaws
import Derived.Deep.DeepCutAuto
import Derived.Deep.CutBlock
import Derived.Deep.RegionHeld3
import Derived.Laws.Rows
import Derived.Lib.AppendStr
import Derived.ArgAppend
import Derived.Laws.IdiomCopy
import Derived.OrdersHeld
import Derived.Laws.BitsLemmas
import Derived.RowKit
import Derived.Test.YtpjnacblaipljaaWWords
import Derived.Test.YtpjnacblaipljaaWLast
import Derived.Test.YtpjnacblaipljaaWTab
import Derived.Test.YtpjnacblaipljaaWFour
import Derived.Test.YtpjnacblaipljaaWQPut
import Derived.Test.YtpjnacblaipljaaWApart
import Derived.Test.YtpjnacblaipljaaWArr
import Derived.Test.YtpjnacblaipljaaWZeros
import Derived.Test.YtpjnacblaipljaaWFoot
import Derived.Test.YtpjnacblaipljaaWKept
import Derived.Test.YtpjnacblaipljaaWShare
import Derived.Test.YtpjnacblaipljaaWN
import Derived.Test.YtpjnacblaipljaaWFootNe
import Derived.Test.YtpjnacblaipljaaWAt
import Derived.Test.YtpjnacblaipljaaWEqStruct
import Derived.Test.YtpjnacblaipljaaWRepsOne
import Derived.Test.YtpjnacblaipljaaWInv
import Derived.Test.YtpjnacblaipljaaWInvWords
import Derived.Test.YtpjnacblaipljaaWGuard
import Derived.Test.YtpjnacblaipljaaWNEv
import Derived.Test.YtpjnacblaipljaaWMore
namespace Go.Proofs.Ytpjnacblaipljaa.Q
open Go.RowKit Go.Proofs.YtpjnacblaipljaaW.PrintWords Go.Proofs.YtpjnacblaipljaaW.PrintLast Go.Proofs.YtpjnacblaipljaaW.PrintMore
attribute [local go_sem] max2_int min2_int max_two min_two max_three min_three max_four min_four   -- for this text's walks alone
set_option linter.unusedVariables false
set_option linter.unusedSimpArgs false



def errW : Option Int → Value
  | none => .nilIface
  | some c => .iface 0 (.int .i64 c)
theorem errW_none : errW none = .nilIface := rfl
theorem errW_some (c : Int) : errW (some c) = .iface 0 (.int .i64 c) := rfl

-- the values' own types

end Go.Proofs.Ytpjnacblaipljaa.Q
