-- Laid by a program of this session (the kit's print, changed): Lean checks it.
import Derived.Test.YtlnogacjebbepaaDoorProg
import Derived.Below
import Derived.Deep.Draws
import Derived.Deep.AppendLies
import Derived.Maps.AppendAt
import Derived.OwnWalk
import Derived.Laws.BytesArg
import Derived.Laws.MakeOwn
import Derived.Laws.OwnMore
import Derived.Deep.OwnRows
import Derived.Tactics
import Derived.Lib.ConvBytes
import Derived.Laws.Slices
import Derived.WalkKit
import Derived.KernelRfl
import Derived.RowKit3
import Derived.Deep.LoopGhost
import Derived.Deep.QuietTactic
import Derived.BigQuiet
import Derived.WideLaws
import Derived.Deep.DeepCutAuto
import Derived.Deep.CutBlock
import Derived.Deep.RegionHeld3
import Derived.Laws.Rows
import Derived.Lib.AppendStr
import Derived.ArgAppend
import Derived.Laws.IdiomCopy
import Derived.OrdersHeld
import Derived.Laws.BitsLemmas
import Derived.RowKit
import Derived.Test.YtlnogacjebbepaaDoorWWords
import Derived.Test.YtlnogacjebbepaaDoorWLast
import Derived.Test.YtlnogacjebbepaaDoorWTab
import Derived.Test.YtlnogacjebbepaaDoorWFour
import Derived.Test.YtlnogacjebbepaaDoorWQPut
import Derived.Test.YtlnogacjebbepaaDoorWApart
import Derived.Test.YtlnogacjebbepaaDoorWArr
import Derived.Test.YtlnogacjebbepaaDoorWZeros
import Derived.Test.YtlnogacjebbepaaDoorWFoot
import Derived.Test.YtlnogacjebbepaaDoorWKept
import Derived.Test.YtlnogacjebbepaaDoorWShare
import Derived.Test.YtlnogacjebbepaaDoorWN
import Derived.Test.YtlnogacjebbepaaDoorWFootNe
import Derived.Test.YtlnogacjebbepaaDoorWAt
import Derived.Test.YtlnogacjebbepaaDoorWEqStruct
import Derived.Test.YtlnogacjebbepaaDoorWRepsOne
import Derived.Test.YtlnogacjebbepaaDoorWInv
import Derived.Test.YtlnogacjebbepaaDoorWInvWords
import Derived.Test.YtlnogacjebbepaaDoorWGuard
import Derived.Test.YtlnogacjebbepaaDoorWNEv
import Derived.Test.YtlnogacjebbepaaDoorWMore
namespace Go.Proofs.YtlnogacjebbepaaDoor.Q
open Go.RowKit Go.Proofs.YtlnogacjebbepaaDoorW.PrintWords Go.Proofs.YtlnogacjebbepaaDoorW.PrintLast Go.Proofs.YtlnogacjebbepaaDoorW.PrintMore
attribute [local go_sem] max2_int min2_int max_two min_two max_three min_three max_four min_four   -- for this text's walks alone
set_option linter.unusedVariables false
set_option linter.unusedSimpArgs false



def errW : Option Int → Value
  | none => .nilIface
  | some c => .iface 0 (.int .i64 c)
theorem errW_none : errW none = .nilIface := rfl
theorem errW_some (c : Int) : errW (some c) = .iface 0 (.int .i64 c) := rfl

theorem info5 : (Tryd.prog.info? 5).map (fun i => (i.zero, i.size, i.bytes)) = some (some (.int .u8 0), 1, 1) := by kernel_rfl
-- the values' own types

end Go.Proofs.YtlnogacjebbepaaDoor.Q
