/- InstKnows. -/
import Derived.Test.YtpkdmnjonfophaaDoorInstG0
import Derived.Test.YtpkdmnjonfophaaDoorInstG1
import Derived.Test.YtpkdmnjonfophaaDoorInstG2
import Derived.Test.YtpkdmnjonfophaaDoorInstG3
import Derived.Below
import Derived.Deep.Draws
import Derived.Deep.AppendLies
import Derived.Maps.AppendAt
import Derived.OwnWalk
import Derived.Laws.BytesArg
import Derived.Laws.MakeOwn
import Derived.Laws.OwnMore
import Derived.Deep.OwnRows
import Derived.Tactics
import Derived.Lib.ConvBytes
import Derived.Laws.Slices
import Derived.WalkKit
import Derived.WalkSpells
import Derived.KernelRfl
import Derived.RowKit3
import Derived.Deep.LoopGhost
import Derived.Deep.QuietTactic
import Derived.BigQuiet
import Derived.WideLaws
import Derived.Deep.DeepCutAuto
import Derived.Deep.CutBlock
import Derived.Deep.RegionHeld3
import Derived.Laws.Rows
import Derived.Lib.AppendStr
import Derived.ArgAppend
import Derived.Laws.IdiomCopy
import Derived.OrdersHeld
import Derived.Laws.BitsLemmas
import Derived.RowKit
namespace Go.Proofs.YtpkdmnjonfophaaDoor.I
set_option linter.unusedVariables false
set_option linter.unusedSimpArgs false
open Go.RowKit
theorem knows3 (op x : Int) (w : World) (h : HT w) : Calls Tryd.prog 3 #[.agg #[.int .i64 op, .int .i64 x]] w fun e w' => e = .returned (.bool true) ∧ Below w.heap.size w w' := by
  cases q22 : (op == 22)
  · cases q23 : (op == 23)
    · cases q26 : (op == 26)
      · exact knows3_no op x w h q22 q23 q26
      · obtain rfl : op = 26 := beq_iff_eq.1 q26
        exact knows3_26 x w h
    · obtain rfl : op = 23 := beq_iff_eq.1 q23
      exact knows3_23 x w h
  · obtain rfl : op = 22 := beq_iff_eq.1 q22
    exact knows3_22 x w h
end Go.Proofs.YtpkdmnjonfophaaDoor.I
