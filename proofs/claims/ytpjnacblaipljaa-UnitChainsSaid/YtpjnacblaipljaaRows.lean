/-
  No cell of these rows narrows 'for every input' (looked for: loops, veiled, ifaces, maps, wideKeys, modest, calm, conditions, laid).
  DERIVED. THE GIVEN ROWS OF THIS SEAT. 9 by the template 'for every input the law returns true; each argument reads behind the call as it read before'; 0 by the template 'total and deterministic' (their statements: YtpjnacblaipljaaTotals.lean).
  GIVEN WITH THE SEED: the statements are not yours to turn. If you find one false, say at which input.
  Laid BY PROGRAM, IN A SANDBOX (cutbox-rows.mjs): the forced cells as the released guide's own fill.sh prints them over the translation ff47a7395280763e… (all of the seat's roots in one cut). By AI agents, Wed Nov 11 2026. No macro, syntax, notation, axiom, sorry.
-/
import Derived.Test.YtpjnacblaipljaaChecked
import GoSem.Claim
import GoSem.ClaimJoined
import GoSem.ClaimMapViews
import Derived.JoinedTies
import Derived.KernelRfl
namespace Go.Proofs.Ytpjnacblaipljaa
/- THE CELL 'sum', in the pinned program and in every row, IS THE sha256 OF THE DUMP (.gsa) THAT YtpjnacblaipljaaProg.lean LOADS. Nothing in Lean hashes anything: it is a label: what it is worth is what the hold of that sum in a sandbox is worth. -/
noncomputable def Try.pinned : Pinned := { name := "ytpjnacblaipljaa", sum := "ff47a7395280763e8d2a4a0c4853de39fe6f2641efe059da0dc8c43a897f7420", checked := Try.checked }
namespace Rows
def none {H : Type} : Left H := { results := [], args := [] }

/-- 'crossroadslaw15.FailsGo': WHATEVER THE INPUT: true; the input reads as it did. -/
def failsGoSpec : ChangeSpec := { name := "failsGo", fn := fun _ => fun
  | [d1, d2, d3] => { results := [.lit (.bool true)], args := [d1, d2, d3] }
  | _ => none }
def failsGoRow : OpenClaim := { program := "ytpjnacblaipljaa", sum := "ff47a7395280763e8d2a4a0c4853de39fe6f2641efe059da0dc8c43a897f7420", func := "crossroads/crossroadslaw15.FailsGo", spec := "failsGo", apart := false }
def FailsGoSaid : Prop := failsGoRow.holds Try.pinned (OpenSpec.ofChange failsGoSpec)

/-- ITS FALSE NEIGHBOUR: 'it returns false'. Refute it at one input. -/
def failsGoWrong : ChangeSpec := { name := "failsGo", fn := fun _ => fun
  | [d1, d2, d3] => { results := [.lit (.bool false)], args := [d1, d2, d3] }
  | _ => none }
def FailsGoWrongFalsely : Prop := failsGoRow.holds Try.pinned (OpenSpec.ofChange failsGoWrong)

/-- 'crossroadslaw15.FailsKnown': WHATEVER THE INPUT: true; the input reads as it did. -/
def failsKnownSpec : ChangeSpec := { name := "failsKnown", fn := fun _ => fun
  | [] => { results := [.lit (.bool true)], args := [] }
  | _ => none }
def failsKnownRow : OpenClaim := { program := "ytpjnacblaipljaa", sum := "ff47a7395280763e8d2a4a0c4853de39fe6f2641efe059da0dc8c43a897f7420", func := "crossroads/crossroadslaw15.FailsKnown", spec := "failsKnown", apart := false }
def FailsKnownSaid : Prop := failsKnownRow.holds Try.pinned (OpenSpec.ofChange failsKnownSpec)

/-- ITS FALSE NEIGHBOUR: 'it returns false'. Refute it at one input. -/
def failsKnownWrong : ChangeSpec := { name := "failsKnown", fn := fun _ => fun
  | [] => { results := [.lit (.bool false)], args := [] }
  | _ => none }
def FailsKnownWrongFalsely : Prop := failsKnownRow.holds Try.pinned (OpenSpec.ofChange failsKnownWrong)

/-- 'crossroadslaw15.FailsApart': WHATEVER THE INPUT: true; the input reads as it did. -/
def failsApartSpec : ChangeSpec := { name := "failsApart", fn := fun _ => fun
  | [d1, d2, d3] => { results := [.lit (.bool true)], args := [d1, d2, d3] }
  | _ => none }
def failsApartRow : OpenClaim := { program := "ytpjnacblaipljaa", sum := "ff47a7395280763e8d2a4a0c4853de39fe6f2641efe059da0dc8c43a897f7420", func := "crossroads/crossroadslaw15.FailsApart", spec := "failsApart", apart := false }
def FailsApartSaid : Prop := failsApartRow.holds Try.pinned (OpenSpec.ofChange failsApartSpec)

/-- ITS FALSE NEIGHBOUR: 'it returns false'. Refute it at one input. -/
def failsApartWrong : ChangeSpec := { name := "failsApart", fn := fun _ => fun
  | [d1, d2, d3] => { results := [.lit (.bool false)], args := [d1, d2, d3] }
  | _ => none }
def FailsApartWrongFalsely : Prop := failsApartRow.holds Try.pinned (OpenSpec.ofChange failsApartWrong)

/-- 'crossroadslaw5.UnitRuns': WHATEVER THE INPUT: true; the input reads as it did. -/
def unitRunsSpec : ChangeSpec := { name := "unitRuns", fn := fun _ => fun
  | [d1, d2, d3] => { results := [.lit (.bool true)], args := [d1, d2, d3] }
  | _ => none }
def unitRunsRow : OpenClaim := { program := "ytpjnacblaipljaa", sum := "ff47a7395280763e8d2a4a0c4853de39fe6f2641efe059da0dc8c43a897f7420", func := "crossroads/crossroadslaw5.UnitRuns", spec := "unitRuns", unfollowed := true, recurses := true, apart := false }
def UnitRunsSaid : Prop := unitRunsRow.holds Try.pinned (OpenSpec.ofChange unitRunsSpec)

/-- ITS FALSE NEIGHBOUR: 'it returns false'. Refute it at one input. -/
def unitRunsWrong : ChangeSpec := { name := "unitRuns", fn := fun _ => fun
  | [d1, d2, d3] => { results := [.lit (.bool false)], args := [d1, d2, d3] }
  | _ => none }
def UnitRunsWrongFalsely : Prop := unitRunsRow.holds Try.pinned (OpenSpec.ofChange unitRunsWrong)

/-- 'crossroadslaw5.UnitKeeps': WHATEVER THE INPUT: true; the input reads as it did. -/
def unitKeepsSpec : ChangeSpec := { name := "unitKeeps", fn := fun _ => fun
  | [d1, d2, d3] => { results := [.lit (.bool true)], args := [d1, d2, d3] }
  | _ => none }
def unitKeepsRow : OpenClaim := { program := "ytpjnacblaipljaa", sum := "ff47a7395280763e8d2a4a0c4853de39fe6f2641efe059da0dc8c43a897f7420", func := "crossroads/crossroadslaw5.UnitKeeps", spec := "unitKeeps", unfollowed := true, recurses := true, apart := false }
def UnitKeepsSaid : Prop := unitKeepsRow.holds Try.pinned (OpenSpec.ofChange unitKeepsSpec)

/-- ITS FALSE NEIGHBOUR: 'it returns false'. Refute it at one input. -/
def unitKeepsWrong : ChangeSpec := { name := "unitKeeps", fn := fun _ => fun
  | [d1, d2, d3] => { results := [.lit (.bool false)], args := [d1, d2, d3] }
  | _ => none }
def UnitKeepsWrongFalsely : Prop := unitKeepsRow.holds Try.pinned (OpenSpec.ofChange unitKeepsWrong)

/-- 'crossroadslaw5.UnitKnown': WHATEVER THE INPUT: true; the input reads as it did. -/
def unitKnownSpec : ChangeSpec := { name := "unitKnown", fn := fun _ => fun
  | [] => { results := [.lit (.bool true)], args := [] }
  | _ => none }
def unitKnownRow : OpenClaim := { program := "ytpjnacblaipljaa", sum := "ff47a7395280763e8d2a4a0c4853de39fe6f2641efe059da0dc8c43a897f7420", func := "crossroads/crossroadslaw5.UnitKnown", spec := "unitKnown", unfollowed := true, recurses := true, apart := false }
def UnitKnownSaid : Prop := unitKnownRow.holds Try.pinned (OpenSpec.ofChange unitKnownSpec)

/-- ITS FALSE NEIGHBOUR: 'it returns false'. Refute it at one input. -/
def unitKnownWrong : ChangeSpec := { name := "unitKnown", fn := fun _ => fun
  | [] => { results := [.lit (.bool false)], args := [] }
  | _ => none }
def UnitKnownWrongFalsely : Prop := unitKnownRow.holds Try.pinned (OpenSpec.ofChange unitKnownWrong)

/-- 'crossroadslaw5.UnitOrders': WHATEVER THE INPUT: true; the input reads as it did. -/
def unitOrdersSpec : ChangeSpec := { name := "unitOrders", fn := fun _ => fun
  | [d1, d2, d3] => { results := [.lit (.bool true)], args := [d1, d2, d3] }
  | _ => none }
def unitOrdersRow : OpenClaim := { program := "ytpjnacblaipljaa", sum := "ff47a7395280763e8d2a4a0c4853de39fe6f2641efe059da0dc8c43a897f7420", func := "crossroads/crossroadslaw5.UnitOrders", spec := "unitOrders", unfollowed := true, recurses := true, apart := false }
def UnitOrdersSaid : Prop := unitOrdersRow.holds Try.pinned (OpenSpec.ofChange unitOrdersSpec)

/-- ITS FALSE NEIGHBOUR: 'it returns false'. Refute it at one input. -/
def unitOrdersWrong : ChangeSpec := { name := "unitOrders", fn := fun _ => fun
  | [d1, d2, d3] => { results := [.lit (.bool false)], args := [d1, d2, d3] }
  | _ => none }
def UnitOrdersWrongFalsely : Prop := unitOrdersRow.holds Try.pinned (OpenSpec.ofChange unitOrdersWrong)

/-- 'crossroadslaw5.UnitChains': WHATEVER THE INPUT: true; the input reads as it did. -/
def unitChainsSpec : ChangeSpec := { name := "unitChains", fn := fun _ => fun
  | [d1, d2] => { results := [.lit (.bool true)], args := [d1, d2] }
  | _ => none }
def unitChainsRow : OpenClaim := { program := "ytpjnacblaipljaa", sum := "ff47a7395280763e8d2a4a0c4853de39fe6f2641efe059da0dc8c43a897f7420", func := "crossroads/crossroadslaw5.UnitChains", spec := "unitChains", unfollowed := true, recurses := true, apart := false }
def UnitChainsSaid : Prop := unitChainsRow.holds Try.pinned (OpenSpec.ofChange unitChainsSpec)

/-- ITS FALSE NEIGHBOUR: 'it returns false'. Refute it at one input. -/
def unitChainsWrong : ChangeSpec := { name := "unitChains", fn := fun _ => fun
  | [d1, d2] => { results := [.lit (.bool false)], args := [d1, d2] }
  | _ => none }
def UnitChainsWrongFalsely : Prop := unitChainsRow.holds Try.pinned (OpenSpec.ofChange unitChainsWrong)

/-- 'crossroadslaw5.UnitGoes': WHATEVER THE INPUT: true; the input reads as it did. -/
def unitGoesSpec : ChangeSpec := { name := "unitGoes", fn := fun _ => fun
  | [d1, d2, d3] => { results := [.lit (.bool true)], args := [d1, d2, d3] }
  | _ => none }
def unitGoesRow : OpenClaim := { program := "ytpjnacblaipljaa", sum := "ff47a7395280763e8d2a4a0c4853de39fe6f2641efe059da0dc8c43a897f7420", func := "crossroads/crossroadslaw5.UnitGoes", spec := "unitGoes", unfollowed := true, recurses := true, apart := false }
def UnitGoesSaid : Prop := unitGoesRow.holds Try.pinned (OpenSpec.ofChange unitGoesSpec)

/-- ITS FALSE NEIGHBOUR: 'it returns false'. Refute it at one input. -/
def unitGoesWrong : ChangeSpec := { name := "unitGoes", fn := fun _ => fun
  | [d1, d2, d3] => { results := [.lit (.bool false)], args := [d1, d2, d3] }
  | _ => none }
def UnitGoesWrongFalsely : Prop := unitGoesRow.holds Try.pinned (OpenSpec.ofChange unitGoesWrong)

/- THE SECOND FORM. 'bulk': how many values and letters a reading holds, each counted each time it is reached (what is shared counts as often as it is met; a slice's spare places count too). A statement '..UptoSaid' is the law's where the arguments, and the package variables that the reading takes, are together of bulk at most 1048576: NARROWER than '..Said'. Prove '..Said' where nothing that the law and all that it calls make is longer than what came in: it says more and counts as full. Else prove '..UptoSaid'. A law counts once. -/
mutual
def uptoBulk {H : Type} : DataW H → Nat
  | .lit (.string bytes) => bytes.length + 1
  | .lit _ => 1
  | .nil => 1
  | .ptr d => uptoBulk d + 1
  | .slice elems spare => uptoBulkAll elems + uptoBulkAll spare + 1
  | .agg parts => uptoBulkAll parts + 1
  | .iface _ d => uptoBulk d + 1
  | .map entries => uptoBulkEntries entries + 1
  | .held _ => 1
def uptoBulkAll {H : Type} : List (DataW H) → Nat
  | [] => 0
  | d :: r => uptoBulk d + uptoBulkAll r
def uptoBulkEntries {H : Type} : List (Lit × DataW H) → Nat
  | [] => 0
  | x :: r => uptoBulkEntry x + uptoBulkEntries r
def uptoBulkEntry {H : Type} : Lit × DataW H → Nat
  | (.string bytes, d) => bytes.length + uptoBulk d + 1
  | (_, d) => uptoBulk d + 1
 end
def uptoSmall : (H : Type) → List (DataW H) → Bool := fun _ ds => decide (uptoBulkAll ds ≤ 1048576)
def OpenSpec.upto (s : _root_.Go.ChangeSpec) : _root_.Go.OpenSpec := { _root_.Go.OpenSpec.ofChange s with cond := some uptoSmall }

/-- 'crossroadslaw15.FailsGo', WHERE WHAT IT READS IS OF BULK AT MOST 1048576: true; the input reads as it did. -/
def failsGoUptoRow : OpenClaim := { program := "ytpjnacblaipljaa", sum := "ff47a7395280763e8d2a4a0c4853de39fe6f2641efe059da0dc8c43a897f7420", func := "crossroads/crossroadslaw15.FailsGo", spec := "failsGo", apart := false, narrowed := true }
def FailsGoUptoSaid : Prop := failsGoUptoRow.holds Try.pinned (OpenSpec.upto failsGoSpec)

/-- 'crossroadslaw15.FailsKnown', WHERE WHAT IT READS IS OF BULK AT MOST 1048576: true; the input reads as it did. -/
def failsKnownUptoRow : OpenClaim := { program := "ytpjnacblaipljaa", sum := "ff47a7395280763e8d2a4a0c4853de39fe6f2641efe059da0dc8c43a897f7420", func := "crossroads/crossroadslaw15.FailsKnown", spec := "failsKnown", apart := false, narrowed := true }
def FailsKnownUptoSaid : Prop := failsKnownUptoRow.holds Try.pinned (OpenSpec.upto failsKnownSpec)

/-- 'crossroadslaw15.FailsApart', WHERE WHAT IT READS IS OF BULK AT MOST 1048576: true; the input reads as it did. -/
def failsApartUptoRow : OpenClaim := { program := "ytpjnacblaipljaa", sum := "ff47a7395280763e8d2a4a0c4853de39fe6f2641efe059da0dc8c43a897f7420", func := "crossroads/crossroadslaw15.FailsApart", spec := "failsApart", apart := false, narrowed := true }
def FailsApartUptoSaid : Prop := failsApartUptoRow.holds Try.pinned (OpenSpec.upto failsApartSpec)

/-- 'crossroadslaw5.UnitRuns', WHERE WHAT IT READS IS OF BULK AT MOST 1048576: true; the input reads as it did. -/
def unitRunsUptoRow : OpenClaim := { program := "ytpjnacblaipljaa", sum := "ff47a7395280763e8d2a4a0c4853de39fe6f2641efe059da0dc8c43a897f7420", func := "crossroads/crossroadslaw5.UnitRuns", spec := "unitRuns", unfollowed := true, recurses := true, apart := false, narrowed := true }
def UnitRunsUptoSaid : Prop := unitRunsUptoRow.holds Try.pinned (OpenSpec.upto unitRunsSpec)

/-- 'crossroadslaw5.UnitKeeps', WHERE WHAT IT READS IS OF BULK AT MOST 1048576: true; the input reads as it did. -/
def unitKeepsUptoRow : OpenClaim := { program := "ytpjnacblaipljaa", sum := "ff47a7395280763e8d2a4a0c4853de39fe6f2641efe059da0dc8c43a897f7420", func := "crossroads/crossroadslaw5.UnitKeeps", spec := "unitKeeps", unfollowed := true, recurses := true, apart := false, narrowed := true }
def UnitKeepsUptoSaid : Prop := unitKeepsUptoRow.holds Try.pinned (OpenSpec.upto unitKeepsSpec)

/-- 'crossroadslaw5.UnitKnown', WHERE WHAT IT READS IS OF BULK AT MOST 1048576: true; the input reads as it did. -/
def unitKnownUptoRow : OpenClaim := { program := "ytpjnacblaipljaa", sum := "ff47a7395280763e8d2a4a0c4853de39fe6f2641efe059da0dc8c43a897f7420", func := "crossroads/crossroadslaw5.UnitKnown", spec := "unitKnown", unfollowed := true, recurses := true, apart := false, narrowed := true }
def UnitKnownUptoSaid : Prop := unitKnownUptoRow.holds Try.pinned (OpenSpec.upto unitKnownSpec)

/-- 'crossroadslaw5.UnitOrders', WHERE WHAT IT READS IS OF BULK AT MOST 1048576: true; the input reads as it did. -/
def unitOrdersUptoRow : OpenClaim := { program := "ytpjnacblaipljaa", sum := "ff47a7395280763e8d2a4a0c4853de39fe6f2641efe059da0dc8c43a897f7420", func := "crossroads/crossroadslaw5.UnitOrders", spec := "unitOrders", unfollowed := true, recurses := true, apart := false, narrowed := true }
def UnitOrdersUptoSaid : Prop := unitOrdersUptoRow.holds Try.pinned (OpenSpec.upto unitOrdersSpec)

/-- 'crossroadslaw5.UnitChains', WHERE WHAT IT READS IS OF BULK AT MOST 1048576: true; the input reads as it did. -/
def unitChainsUptoRow : OpenClaim := { program := "ytpjnacblaipljaa", sum := "ff47a7395280763e8d2a4a0c4853de39fe6f2641efe059da0dc8c43a897f7420", func := "crossroads/crossroadslaw5.UnitChains", spec := "unitChains", unfollowed := true, recurses := true, apart := false, narrowed := true }
def UnitChainsUptoSaid : Prop := unitChainsUptoRow.holds Try.pinned (OpenSpec.upto unitChainsSpec)

/-- 'crossroadslaw5.UnitGoes', WHERE WHAT IT READS IS OF BULK AT MOST 1048576: true; the input reads as it did. -/
def unitGoesUptoRow : OpenClaim := { program := "ytpjnacblaipljaa", sum := "ff47a7395280763e8d2a4a0c4853de39fe6f2641efe059da0dc8c43a897f7420", func := "crossroads/crossroadslaw5.UnitGoes", spec := "unitGoes", unfollowed := true, recurses := true, apart := false, narrowed := true }
def UnitGoesUptoSaid : Prop := unitGoesUptoRow.holds Try.pinned (OpenSpec.upto unitGoesSpec)

end Rows
end Go.Proofs.Ytpjnacblaipljaa
