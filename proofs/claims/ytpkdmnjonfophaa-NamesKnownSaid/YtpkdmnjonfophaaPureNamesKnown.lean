/- NamesKnown, the plain part: names by hand, reckoned through. -/
import Derived.Test.YtpkdmnjonfophaaPx3
namespace Go.Proofs.Ytpkdmnjonfophaa.Pure
open Go.RowKit Go.Proofs.Ytpkdmnjonfophaa.P Go.Proofs.Ytpkdmnjonfophaa.G Go.Proofs.YtpkdmnjonfophaaW.PrintWords
theorem NamesKnown : crossroadslaw12_NamesKnown.Pure := ⟨60, by kernel_rfl⟩
end Go.Proofs.Ytpkdmnjonfophaa.Pure
