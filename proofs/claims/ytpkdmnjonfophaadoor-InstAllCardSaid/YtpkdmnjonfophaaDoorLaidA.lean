/- What the row's listed variables give the walks: the table of spaces. -/
import Derived.Test.YtpkdmnjonfophaaDoorInstB
import Derived.Test.YtpkdmnjonfophaaDoorRows
import Derived.ProofKit
import Derived.LaidMore
import Derived.OpenShut
import Derived.Stop.Joined
import Derived.Stop.LaidErr
import Derived.Lib.LaidTab
import Derived.Lib.Space
namespace Go.Proofs.YtpkdmnjonfophaaDoor.LaidA
open Go.ChangeShapes Go.WideShapes Go.ChangeAt Go.RowKit Go.Proofs.YtpkdmnjonfophaaDoor.I
theorem own : ownKnob Tryd.prog.godebug = none := by kernel_rfl
theorem laidOut : laidOutB Tryd.prog = true := by kernel_rfl
def laidL : List (String × DataW Unit) := [("unicode.White_Space", Rows.laid_unicode_White_Space), ("strings.asciiSpace", Rows.laid_strings_asciiSpace)]
theorem gT : Tryd.prog.globalNamed "strings.asciiSpace" = some 0 := by kernel_rfl
theorem gTType : (Tryd.prog.globals[0]?).map (·.type) = some 42 := by kernel_rfl
theorem g0 : Tryd.lays157_ren.g 0 = 0 := by kernel_rfl
theorem isTab : (Rows.laid_strings_asciiSpace : DataW Unit) = Lib.tabData .u8 Lib.asciiSpaceTab := by kernel_rfl
set_option maxRecDepth 100000 in
theorem door_met (os : Os) (args : Array Value) : laidMetH Tryd.prog laidL ((World.doorLaid Tryd.prog 400 os).forCall (fun _ _ => 0) ⟨#[], args, []⟩).memory :=
  laidMetH_of_parts3 (fuel := 8) (laidMet_of_run' 8 (by kernel_rfl) (by kernel_rfl)) (by kernel_rfl) (by kernel_rfl)
theorem of_laid {W : World} (h : laidMetH Tryd.prog laidL W) : HT W := by
  rw [MakeChecks.laidMetH_plain _ _ _ (by kernel_rfl)] at h
  have h2 : laidMet Tryd.prog [("strings.asciiSpace", Rows.laid_strings_asciiSpace)] W := h.tail
  rw [isTab] at h2
  have T : Lib.TabIs Tryd.prog W "strings.asciiSpace" .u8 Lib.asciiSpaceTab := Lib.tabIs_of_head gT gTType Tryd.underlying42 Tryd.underlying5 (by kernel_rfl) (by kernel_rfl) h2
  intro c hc
  rw [g0]
  have := T.cell gT c (by rw [Lib.asciiSpaceTab_length]; exact hc)
  rw [Lib.asciiSpaceTab_at c hc] at this
  exact this
end Go.Proofs.YtpkdmnjonfophaaDoor.LaidA
