/- The document's example holds: plain, by reckoning. -/
import Derived.Test.YtmlnoapfhimgoaaPx3
namespace Go.Proofs.Ytmlnoapfhimgoaa.Pure
open Go.RowKit Go.Proofs.Ytmlnoapfhimgoaa.P Go.Proofs.YtmlnoapfhimgoaaW.PrintWords
theorem awake_k : crossroadslaw17_awake.f 60 = some true := by kernel_rfl
theorem awake_ev : Ev (fun k => crossroadslaw17_awake.f k) true := Ev.of crossroadslaw17_awake.mono awake_k
end Go.Proofs.Ytmlnoapfhimgoaa.Pure
