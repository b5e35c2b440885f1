-- Laid by a program of this session (the kit's print, changed): Lean checks it.
import Derived.Test.YtpkdmnjonfophaaProg
import Derived.Below
import Derived.Deep.Draws
import Derived.Deep.AppendLies
import Derived.Maps.AppendAt
import Derived.OwnWalk
import Derived.Laws.BytesArg
import Derived.Laws.MakeOwn
import Derived.Laws.OwnMore
import Derived.Deep.OwnRows
import Derived.Tactics
import Derived.Lib.ConvBytes
import Derived.Laws.Slices
import Derived.WalkKit
import Derived.KernelRfl
import Derived.RowKit3
import Derived.Deep.LoopGhost
import Derived.Deep.QuietTactic
import Derived.BigQuiet
import Derived.WideLaws
import Derived.Deep.DeepCutAuto
import Derived.Deep.CutBlock
import Derived.Deep.RegionHeld3
import Derived.Laws.Rows
import Derived.Lib.AppendStr
import Derived.ArgAppend
import Derived.Laws.IdiomCopy
import Derived.OrdersHeld
import Derived.Laws.BitsLemmas
import Derived.RowKit
import Derived.Test.YtpkdmnjonfophaaWWords
import Derived.Test.YtpkdmnjonfophaaWLast
import Derived.Test.YtpkdmnjonfophaaWTab
import Derived.Test.YtpkdmnjonfophaaWFour
import Derived.Test.YtpkdmnjonfophaaWQPut
import Derived.Test.YtpkdmnjonfophaaWApart
import Derived.Test.YtpkdmnjonfophaaWArr
import Derived.Test.YtpkdmnjonfophaaWZeros
import Derived.Test.YtpkdmnjonfophaaWFoot
import Derived.Test.YtpkdmnjonfophaaWKept
import Derived.Test.YtpkdmnjonfophaaWShare
import Derived.Test.YtpkdmnjonfophaaWN
import Derived.Test.YtpkdmnjonfophaaWFootNe
import Derived.Test.YtpkdmnjonfophaaWAt
import Derived.Test.YtpkdmnjonfophaaWEqStruct
import Derived.Test.YtpkdmnjonfophaaWRepsOne
import Derived.Test.YtpkdmnjonfophaaWInv
import Derived.Test.YtpkdmnjonfophaaWInvWords
import Derived.Test.YtpkdmnjonfophaaWGuard
import Derived.Test.YtpkdmnjonfophaaWNEv
import Derived.Test.YtpkdmnjonfophaaWMore
namespace Go.Proofs.Ytpkdmnjonfophaa.G
end Go.Proofs.Ytpkdmnjonfophaa.G
namespace Go.Proofs.Ytpkdmnjonfophaa.P
open Go.Proofs.Ytpkdmnjonfophaa.G
open Go.RowKit Go.Proofs.YtpkdmnjonfophaaW.PrintWords Go.Proofs.YtpkdmnjonfophaaW.PrintLast Go.Proofs.YtpkdmnjonfophaaW.PrintMore
attribute [local go_sem] max2_int min2_int max_two min_two max_three min_three max_four min_four   -- for this text's walks alone
set_option linter.unusedVariables false
set_option linter.unusedSimpArgs false



def errW : Option Int → Value
  | none => .nilIface
  | some c => .iface 0 (.int .i64 c)
theorem errW_none : errW none = .nilIface := rfl
theorem errW_some (c : Int) : errW (some c) = .iface 0 (.int .i64 c) := rfl

theorem info3 : (Try.prog.info? 3).map (fun i => (i.zero, i.size, i.bytes)) = some (some (.int .i64 0), 1, 8) := by kernel_rfl
theorem info9 : (Try.prog.info? 9).map (fun i => (i.zero, i.size, i.bytes)) = some (some (.string ⟨#[]⟩), 1, 16) := by kernel_rfl
-- the values' own types

end Go.Proofs.Ytpkdmnjonfophaa.P
