/- The reference's table, walked by hand. -/
import Derived.Test.YtckmgoeflecpgaaDoorInstB
import Derived.Below
import Derived.Deep.Draws
import Derived.Deep.AppendLies
import Derived.Maps.AppendAt
import Derived.OwnWalk
import Derived.Laws.BytesArg
import Derived.Laws.MakeOwn
import Derived.Laws.OwnMore
import Derived.Deep.OwnRows
import Derived.Tactics
import Derived.Lib.ConvBytes
import Derived.Laws.Slices
import Derived.WalkKit
import Derived.WalkSpells
import Derived.KernelRfl
import Derived.RowKit3
import Derived.Deep.LoopGhost
import Derived.Deep.QuietTactic
import Derived.BigQuiet
import Derived.WideLaws
import Derived.Deep.DeepCutAuto
import Derived.Deep.CutBlock
import Derived.Deep.RegionHeld3
import Derived.Laws.Rows
import Derived.Lib.AppendStr
import Derived.ArgAppend
import Derived.Laws.IdiomCopy
import Derived.OrdersHeld
import Derived.Laws.BitsLemmas
import Derived.RowKit
namespace Go.Proofs.YtckmgoeflecpgaaDoor.I
set_option linter.unusedVariables false
set_option linter.unusedSimpArgs false
open Go.RowKit
def rowsL : List (ByteArray × Int × Int × Int) := [(⟨#[]⟩, 0, 0, 0), (⟨#[112, 117, 115, 104]⟩, 0, 1, 65535), (⟨#[112, 111, 112]⟩, 1, 0, 0), (⟨#[100, 117, 112]⟩, 1, 2, 0), (⟨#[115, 119, 97, 112]⟩, 2, 2, 0), (⟨#[97, 100, 100]⟩, 2, 1, 0), (⟨#[115, 117, 98]⟩, 2, 1, 0), (⟨#[109, 117, 108]⟩, 2, 1, 0), (⟨#[100, 105, 118]⟩, 2, 1, 0), (⟨#[109, 111, 100]⟩, 2, 1, 0), (⟨#[97, 110, 100]⟩, 2, 1, 0), (⟨#[111, 114]⟩, 2, 1, 0), (⟨#[120, 111, 114]⟩, 2, 1, 0), (⟨#[115, 104, 108]⟩, 2, 1, 0), (⟨#[115, 104, 114]⟩, 2, 1, 0), (⟨#[101, 113]⟩, 2, 1, 0), (⟨#[108, 116]⟩, 2, 1, 0), (⟨#[110, 111, 116]⟩, 1, 1, 0), (⟨#[103, 101, 116]⟩, 0, 1, 7), (⟨#[115, 101, 116]⟩, 1, 0, 7), (⟨#[108, 111, 97, 100]⟩, 1, 1, 0), (⟨#[115, 116, 111, 114, 101]⟩, 2, 0, 0), (⟨#[106, 117, 109, 112]⟩, 0, 0, 95), (⟨#[122, 101, 114, 111]⟩, 1, 0, 95), (⟨#[111, 117, 116]⟩, 1, 0, 0), (⟨#[97, 115, 115, 101, 114, 116]⟩, 1, 0, 0), (⟨#[101, 120, 105, 116]⟩, 1, 0, 0), (⟨#[111, 112, 101, 110]⟩, 0, 1, 7), (⟨#[99, 108, 111, 115, 101]⟩, 1, 1, 0), (⟨#[114, 101, 97, 100]⟩, 3, 1, 0), (⟨#[119, 114, 105, 116, 101]⟩, 3, 1, 0), (⟨#[115, 101, 101, 107]⟩, 2, 1, 0), (⟨#[115, 105, 122, 101]⟩, 1, 1, 0), (⟨#[117, 110, 108, 105, 110, 107]⟩, 0, 1, 7), (⟨#[114, 101, 110, 97, 109, 101]⟩, 0, 1, 63), (⟨#[109, 107, 100, 105, 114]⟩, 0, 1, 7), (⟨#[114, 109, 100, 105, 114]⟩, 0, 1, 7), (⟨#[108, 105, 115, 116]⟩, 0, 1, 7), (⟨#[116, 114, 117, 110, 99]⟩, 2, 1, 0), (⟨#[116, 119, 105, 110]⟩, 1, 1, 0), (⟨#[97, 114, 103, 99]⟩, 0, 1, 0), (⟨#[97, 114, 103]⟩, 2, 1, 0)]
def rowCells : Array Value := (rowsL.flatMap fun r => [Value.string r.1, Value.int .i64 r.2.1, Value.int .i64 r.2.2.1, Value.int .i64 r.2.2.2]).toArray
theorem row_cells (op : Int) (h : inR op = true) : (4 * op.toNat + 3 < rowCells.size) ∧ rowCells[op.toNat * 4 + 0]? = some (.string (nameOf op)) ∧ rowCells[op.toNat * 4 + 1]? = some (.int .i64 (takesB op)) ∧ rowCells[op.toNat * 4 + 2]? = some (.int .i64 (givesB op)) ∧ rowCells[op.toNat * 4 + 3]? = some (.int .i64 (mostB op)) := by
  rcases op_cases op with ⟨k, hk, rfl⟩ | h'
  · match k, hk with
    | 0, _ => exact ⟨of_decide_eq_true (by kernel_rfl), by kernel_rfl, by kernel_rfl, by kernel_rfl, by kernel_rfl⟩
    | 1, _ => exact ⟨of_decide_eq_true (by kernel_rfl), by kernel_rfl, by kernel_rfl, by kernel_rfl, by kernel_rfl⟩
    | 2, _ => exact ⟨of_decide_eq_true (by kernel_rfl), by kernel_rfl, by kernel_rfl, by kernel_rfl, by kernel_rfl⟩
    | 3, _ => exact ⟨of_decide_eq_true (by kernel_rfl), by kernel_rfl, by kernel_rfl, by kernel_rfl, by kernel_rfl⟩
    | 4, _ => exact ⟨of_decide_eq_true (by kernel_rfl), by kernel_rfl, by kernel_rfl, by kernel_rfl, by kernel_rfl⟩
    | 5, _ => exact ⟨of_decide_eq_true (by kernel_rfl), by kernel_rfl, by kernel_rfl, by kernel_rfl, by kernel_rfl⟩
    | 6, _ => exact ⟨of_decide_eq_true (by kernel_rfl), by kernel_rfl, by kernel_rfl, by kernel_rfl, by kernel_rfl⟩
    | 7, _ => exact ⟨of_decide_eq_true (by kernel_rfl), by kernel_rfl, by kernel_rfl, by kernel_rfl, by kernel_rfl⟩
    | 8, _ => exact ⟨of_decide_eq_true (by kernel_rfl), by kernel_rfl, by kernel_rfl, by kernel_rfl, by kernel_rfl⟩
    | 9, _ => exact ⟨of_decide_eq_true (by kernel_rfl), by kernel_rfl, by kernel_rfl, by kernel_rfl, by kernel_rfl⟩
    | 10, _ => exact ⟨of_decide_eq_true (by kernel_rfl), by kernel_rfl, by kernel_rfl, by kernel_rfl, by kernel_rfl⟩
    | 11, _ => exact ⟨of_decide_eq_true (by kernel_rfl), by kernel_rfl, by kernel_rfl, by kernel_rfl, by kernel_rfl⟩
    | 12, _ => exact ⟨of_decide_eq_true (by kernel_rfl), by kernel_rfl, by kernel_rfl, by kernel_rfl, by kernel_rfl⟩
    | 13, _ => exact ⟨of_decide_eq_true (by kernel_rfl), by kernel_rfl, by kernel_rfl, by kernel_rfl, by kernel_rfl⟩
    | 14, _ => exact ⟨of_decide_eq_true (by kernel_rfl), by kernel_rfl, by kernel_rfl, by kernel_rfl, by kernel_rfl⟩
    | 15, _ => exact ⟨of_decide_eq_true (by kernel_rfl), by kernel_rfl, by kernel_rfl, by kernel_rfl, by kernel_rfl⟩
    | 16, _ => exact ⟨of_decide_eq_true (by kernel_rfl), by kernel_rfl, by kernel_rfl, by kernel_rfl, by kernel_rfl⟩
    | 17, _ => exact ⟨of_decide_eq_true (by kernel_rfl), by kernel_rfl, by kernel_rfl, by kernel_rfl, by kernel_rfl⟩
    | 18, _ => exact ⟨of_decide_eq_true (by kernel_rfl), by kernel_rfl, by kernel_rfl, by kernel_rfl, by kernel_rfl⟩
    | 19, _ => exact ⟨of_decide_eq_true (by kernel_rfl), by kernel_rfl, by kernel_rfl, by kernel_rfl, by kernel_rfl⟩
    | 20, _ => exact ⟨of_decide_eq_true (by kernel_rfl), by kernel_rfl, by kernel_rfl, by kernel_rfl, by kernel_rfl⟩
    | 21, _ => exact ⟨of_decide_eq_true (by kernel_rfl), by kernel_rfl, by kernel_rfl, by kernel_rfl, by kernel_rfl⟩
    | 22, _ => exact ⟨of_decide_eq_true (by kernel_rfl), by kernel_rfl, by kernel_rfl, by kernel_rfl, by kernel_rfl⟩
    | 23, _ => exact ⟨of_decide_eq_true (by kernel_rfl), by kernel_rfl, by kernel_rfl, by kernel_rfl, by kernel_rfl⟩
    | 24, _ => exact ⟨of_decide_eq_true (by kernel_rfl), by kernel_rfl, by kernel_rfl, by kernel_rfl, by kernel_rfl⟩
    | 25, _ => exact ⟨of_decide_eq_true (by kernel_rfl), by kernel_rfl, by kernel_rfl, by kernel_rfl, by kernel_rfl⟩
    | 26, _ => exact ⟨of_decide_eq_true (by kernel_rfl), by kernel_rfl, by kernel_rfl, by kernel_rfl, by kernel_rfl⟩
    | 27, _ => exact ⟨of_decide_eq_true (by kernel_rfl), by kernel_rfl, by kernel_rfl, by kernel_rfl, by kernel_rfl⟩
    | 28, _ => exact ⟨of_decide_eq_true (by kernel_rfl), by kernel_rfl, by kernel_rfl, by kernel_rfl, by kernel_rfl⟩
    | 29, _ => exact ⟨of_decide_eq_true (by kernel_rfl), by kernel_rfl, by kernel_rfl, by kernel_rfl, by kernel_rfl⟩
    | 30, _ => exact ⟨of_decide_eq_true (by kernel_rfl), by kernel_rfl, by kernel_rfl, by kernel_rfl, by kernel_rfl⟩
    | 31, _ => exact ⟨of_decide_eq_true (by kernel_rfl), by kernel_rfl, by kernel_rfl, by kernel_rfl, by kernel_rfl⟩
    | 32, _ => exact ⟨of_decide_eq_true (by kernel_rfl), by kernel_rfl, by kernel_rfl, by kernel_rfl, by kernel_rfl⟩
    | 33, _ => exact ⟨of_decide_eq_true (by kernel_rfl), by kernel_rfl, by kernel_rfl, by kernel_rfl, by kernel_rfl⟩
    | 34, _ => exact ⟨of_decide_eq_true (by kernel_rfl), by kernel_rfl, by kernel_rfl, by kernel_rfl, by kernel_rfl⟩
    | 35, _ => exact ⟨of_decide_eq_true (by kernel_rfl), by kernel_rfl, by kernel_rfl, by kernel_rfl, by kernel_rfl⟩
    | 36, _ => exact ⟨of_decide_eq_true (by kernel_rfl), by kernel_rfl, by kernel_rfl, by kernel_rfl, by kernel_rfl⟩
    | 37, _ => exact ⟨of_decide_eq_true (by kernel_rfl), by kernel_rfl, by kernel_rfl, by kernel_rfl, by kernel_rfl⟩
    | 38, _ => exact ⟨of_decide_eq_true (by kernel_rfl), by kernel_rfl, by kernel_rfl, by kernel_rfl, by kernel_rfl⟩
    | 39, _ => exact ⟨of_decide_eq_true (by kernel_rfl), by kernel_rfl, by kernel_rfl, by kernel_rfl, by kernel_rfl⟩
    | 40, _ => exact ⟨of_decide_eq_true (by kernel_rfl), by kernel_rfl, by kernel_rfl, by kernel_rfl, by kernel_rfl⟩
    | k + 41, h => exact absurd h (by omega)
  · rw [h] at h'; cases h'
end Go.Proofs.YtckmgoeflecpgaaDoor.I
