/- UnitKnown, the plain part: formulas by hand, reckoned through. -/
import Derived.Test.YtpjnacblaipljaaPx7
namespace Go.Proofs.Ytpjnacblaipljaa.Pure
open Go.RowKit Go.Proofs.Ytpjnacblaipljaa.P Go.Proofs.YtpjnacblaipljaaW.PrintWords Go.Proofs.YtpjnacblaipljaaW.PrintLast Go.Proofs.YtpjnacblaipljaaW.PrintMore
theorem UnitKnown : crossroadslaw5_UnitKnown.Pure := ⟨40, by kernel_rfl⟩
end Go.Proofs.Ytpjnacblaipljaa.Pure
