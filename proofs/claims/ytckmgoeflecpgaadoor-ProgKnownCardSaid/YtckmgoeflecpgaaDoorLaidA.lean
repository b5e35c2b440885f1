/- What the rows' listed variables give the walks: the table of spaces, the powers of ten; a program as an argument. -/
import Derived.Test.YtckmgoeflecpgaaDoorGAwake
import Derived.Test.YtckmgoeflecpgaaDoorRows
import Derived.ProofKit
import Derived.LaidMore
import Derived.OpenShut
import Derived.Stop.Joined
import Derived.Stop.LaidErr
import Derived.Lib.LaidTab
import Derived.Lib.Space
namespace Go.Proofs.YtckmgoeflecpgaaDoor.P
open Go.RowKit Go.Proofs.YtckmgoeflecpgaaDoorW.PrintWords
structure S25 where
  f0 : List S41
  f1 : List ByteArray
def k25 : Kd S25 := Kd.iso (Kd.pair (Kd.slice 41 k41) (Kd.slice 9 Kd.string)) (fun x : S25 => (x.f0, x.f1))
theorem k25_open {w : World} {x : S25} {cs : List Value} (h : k25.K w x cs) : ∃ A0 c0 A1 c1, cs = [.slice A0 x.f0.length c0, .slice A1 x.f1.length c1] ∧ x.f0.length ≤ c0 ∧ k41.C w A0 x.f0.length x.f0 ∧ x.f1.length ≤ c1 ∧ Kd.string.C w A1 x.f1.length x.f1 := by
  obtain ⟨_, _, rfl, ⟨A0, c0, rfl, l0, g0⟩, ⟨A1, c1, rfl, l1, g1⟩⟩ := h
  exact ⟨A0, c0, A1, c1, rfl, l0, g0, l1, g1⟩
end Go.Proofs.YtckmgoeflecpgaaDoor.P
namespace Go.Proofs.YtckmgoeflecpgaaDoor.LaidA
open Go.ChangeShapes Go.WideShapes Go.ChangeAt Go.RowKit Go.Proofs.YtckmgoeflecpgaaDoor.I Go.Proofs.YtckmgoeflecpgaaDoor.G
theorem own : ownKnob Tryd.prog.godebug = none := by kernel_rfl
theorem laidOut : laidOutB Tryd.prog = true := by kernel_rfl
def laidL : List (String × DataW Unit) := [("math/bits.deBruijn32tab", Rows.laid_math_bits_deBruijn32tab), ("math/bits.deBruijn64tab", Rows.laid_math_bits_deBruijn64tab), ("internal/strconv.uint64pow10", Rows.laid_internal_strconv_uint64pow10), ("unicode.White_Space", Rows.laid_unicode_White_Space), ("strings.asciiSpace", Rows.laid_strings_asciiSpace)]
theorem gS : Tryd.prog.globalNamed "strings.asciiSpace" = some 0 := by kernel_rfl
theorem gSType : (Tryd.prog.globals[0]?).map (·.type) = some 84 := by kernel_rfl
theorem gP : Tryd.prog.globalNamed "internal/strconv.uint64pow10" = some 1 := by kernel_rfl
theorem gPType : (Tryd.prog.globals[1]?).map (·.type) = some 89 := by kernel_rfl
theorem g0 : Tryd.lays157_ren.g 0 = 0 := by kernel_rfl
theorem isTab : (Rows.laid_strings_asciiSpace : DataW Unit) = Lib.tabData .u8 Lib.asciiSpaceTab := by kernel_rfl
theorem isPow : (Rows.laid_internal_strconv_uint64pow10 : DataW Unit) = Lib.tabData .u64 Lib.pow10Tab := by kernel_rfl
set_option maxRecDepth 100000 in
theorem door_met (os : Os) (args : Array Value) : laidMetH Tryd.prog laidL ((World.doorLaid Tryd.prog 400 os).forCall (fun _ _ => 0) ⟨#[], args, []⟩).memory :=
  laidMetH_of_parts3 (fuel := 8) (laidMet_of_run' 8 (by kernel_rfl) (by kernel_rfl)) (by kernel_rfl) (by kernel_rfl)
set_option maxRecDepth 100000 in
theorem of_laid {W : World} (h : laidMetH Tryd.prog laidL W) : LW W := by
  rw [MakeChecks.laidMetH_plain _ _ _ (by kernel_rfl)] at h
  have h3 : laidMet Tryd.prog [("internal/strconv.uint64pow10", Rows.laid_internal_strconv_uint64pow10), ("unicode.White_Space", Rows.laid_unicode_White_Space), ("strings.asciiSpace", Rows.laid_strings_asciiSpace)] W := h.tail.tail
  have h2 : laidMet Tryd.prog [("strings.asciiSpace", Rows.laid_strings_asciiSpace)] W := h3.tail.tail
  rw [isTab] at h2
  rw [isPow] at h3
  have T : Lib.TabIs Tryd.prog W "strings.asciiSpace" .u8 Lib.asciiSpaceTab := Lib.tabIs_of_head gS gSType Tryd.underlying84 Tryd.underlying5 (by kernel_rfl) (by kernel_rfl) h2
  have T2 : Lib.TabIs Tryd.prog W "internal/strconv.uint64pow10" .u64 Lib.pow10Tab := Lib.tabIs_of_head gP gPType Tryd.underlying89 Tryd.underlying49 (by kernel_rfl) (by kernel_rfl) h3
  refine ⟨?_, T2⟩
  intro c hc
  rw [g0]
  have := T.cell gS c (by rw [Lib.asciiSpaceTab_length]; exact hc)
  rw [Lib.asciiSpaceTab_at c hc] at this
  exact this
end Go.Proofs.YtckmgoeflecpgaaDoor.LaidA
