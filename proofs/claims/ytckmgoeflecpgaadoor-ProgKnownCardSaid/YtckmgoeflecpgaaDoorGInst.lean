/- inst.May, ref12.Row, ref12.InstMay as the printed texts call them. -/
import Derived.Test.YtckmgoeflecpgaaDoorInstD
import Derived.Test.YtckmgoeflecpgaaDoorInstE
namespace Go.Proofs.YtckmgoeflecpgaaDoor.G
set_option linter.unusedVariables false
open Go.RowKit Go.Proofs.YtckmgoeflecpgaaDoor.I
def inst_May.f (a0_0 a0_1 : Int) : Option Bool := some (mayI a0_0 a0_1)
theorem inst_May.calls (a0_0 a0_1 : Int) (r : Bool) (w : World) (h : inst_May.f a0_0 a0_1 = some r) : Calls Tryd.prog 28 #[.agg #[.int .i64 a0_0, .int .i64 a0_1]] w fun e w' => e = .returned (.bool r) ∧ Below w.heap.size w w' := by
  obtain rfl := Option.some.inj h
  exact may28 a0_0 a0_1 w
def crossroadsref12_InstMay.f (a0_0 a0_1 : Int) : Option Bool := some (mayI a0_0 a0_1)
theorem crossroadsref12_InstMay.calls (a0_0 a0_1 : Int) (r : Bool) (w : World) (h : crossroadsref12_InstMay.f a0_0 a0_1 = some r) : Calls Tryd.prog 17 #[.agg #[.int .i64 a0_0, .int .i64 a0_1]] w fun e w' => e = .returned (.bool r) ∧ Below w.heap.size w w' := by
  obtain rfl := Option.some.inj h
  exact rmay17 table23 a0_0 a0_1 w
def crossroadsref12_Row.f (a0 : Int) : Option (ByteArray × Int × Int × Int × Bool) := some (nameOf a0, takesB a0, givesB a0, mostB a0, inR a0)
theorem crossroadsref12_Row.calls (a0 : Int) (r1 : ByteArray) (r2 r3 r4 : Int) (r5 : Bool) (w : World) (h : crossroadsref12_Row.f a0 = some (r1, r2, r3, r4, r5)) : Calls Tryd.prog 16 #[.int .i64 a0] w fun e w' => e = .returned (.tuple #[.string r1, .int .i64 r2, .int .i64 r3, .int .i64 r4, .bool r5]) ∧ Below w.heap.size w w' := by
  have h := Option.some.inj h
  simp only [Prod.mk.injEq] at h
  obtain ⟨rfl, rfl, rfl, rfl, rfl⟩ := h
  exact row16 table23 a0 w
end Go.Proofs.YtckmgoeflecpgaaDoor.G
