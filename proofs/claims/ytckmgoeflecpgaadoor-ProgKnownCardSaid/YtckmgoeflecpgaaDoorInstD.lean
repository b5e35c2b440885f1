/- The reference's table, walked by hand: the literal. -/
import Derived.Test.YtckmgoeflecpgaaDoorInstC
import Derived.Below
import Derived.Deep.Draws
import Derived.Deep.AppendLies
import Derived.Maps.AppendAt
import Derived.OwnWalk
import Derived.Laws.BytesArg
import Derived.Laws.MakeOwn
import Derived.Laws.OwnMore
import Derived.Deep.OwnRows
import Derived.Tactics
import Derived.Lib.ConvBytes
import Derived.Laws.Slices
import Derived.WalkKit
import Derived.WalkSpells
import Derived.KernelRfl
import Derived.RowKit3
import Derived.Deep.LoopGhost
import Derived.Deep.QuietTactic
import Derived.BigQuiet
import Derived.WideLaws
import Derived.Deep.DeepCutAuto
import Derived.Deep.CutBlock
import Derived.Deep.RegionHeld3
import Derived.Laws.Rows
import Derived.Lib.AppendStr
import Derived.ArgAppend
import Derived.Laws.IdiomCopy
import Derived.OrdersHeld
import Derived.Laws.BitsLemmas
import Derived.RowKit
namespace Go.Proofs.YtckmgoeflecpgaaDoor.I
set_option linter.unusedVariables false
set_option linter.unusedSimpArgs false
open Go.RowKit
theorem wp_value {P : Program} {o : Oper} {a : Act} {W w1 : World} {K : Act → World → Prop} {Q : Exit → Act → World → Prop} {v : Value} (hr : (execOp a.eval o).run P W = .ok (.value v) w1) (hK : K (a.put o.dst v) w1) : Oper.wp P o a W K Q := by
  unfold Oper.wp
  rw [hr]
  exact hK
set_option maxRecDepth 100000 in
set_option maxHeartbeats 2000000 in
theorem table23 (w : World) : Calls Tryd.prog 23 #[] w fun e w' => e = .returned (.slice (some ⟨w.heap.size, 0, none⟩) 42 42) ∧ w' = w.alloc (.cells rowCells 58) := by
  go_enter Tryd.func23, Tryd.ntmps23
  go_wp2
  refine wp_value (v := .slice (some ⟨w.heap.size, 0, none⟩) 42 42) (w1 := w.alloc (.cells rowCells 58)) ?_ ?_
  · kernel_rfl
  · go_wp2
    go_ret
    exact ⟨rfl, rfl⟩
end Go.Proofs.YtckmgoeflecpgaaDoor.I
