/- WideKnown: numbers by hand (borders, division by nought, shifts by the width) come out as they should. No condition. -/
import Derived.Test.YtcjoblnfbopaeaaPx3
namespace Go.Proofs.Ytcjoblnfbopaeaa.Pure
open Go.RowKit Go.Proofs.Ytcjoblnfbopaeaa.P Go.Proofs.YtcjoblnfbopaeaaW.PrintWords Go.Proofs.YtcjoblnfbopaeaaW.PrintLast
theorem WideKnown : crossroadslaw1_WideKnown.Pure := ⟨30, by kernel_rfl⟩
end Go.Proofs.Ytcjoblnfbopaeaa.Pure
