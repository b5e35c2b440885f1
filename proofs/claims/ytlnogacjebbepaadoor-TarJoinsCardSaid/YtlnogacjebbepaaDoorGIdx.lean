/- strings.IndexByte, off the shelf. -/
import Derived.Test.YtlnogacjebbepaaDoorShelf
import Derived.Test.YtlnogacjebbepaaDoorPx0
namespace Go.Proofs.YtlnogacjebbepaaDoor.G
open Go.RowKit
def strings_IndexByte.f (s : ByteArray) (c : Int) : Option Int := some (Lib.indexByte s.data.toList c.toNat.toUInt8)
theorem strings_IndexByte.calls (a0 : ByteArray) (a1 : Int) (r : Int) (w : World) (h : strings_IndexByte.f a0 a1 = some r) :
    Calls Tryd.prog 25 #[.string a0, .int .u8 a1] w fun e w' => e = .returned (.int .i64 r) ∧ w' = w := by
  unfold strings_IndexByte.f at h
  injection h with h
  rw [← h]
  exact Tryd.strings_IndexByte a0 a1 w
end Go.Proofs.YtlnogacjebbepaaDoor.G
