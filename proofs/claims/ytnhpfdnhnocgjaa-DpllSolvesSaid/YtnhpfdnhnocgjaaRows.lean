/-
  No cell of these rows narrows 'for every input' (looked for: loops, veiled, ifaces, maps, wideKeys, modest, calm, conditions, laid).
  DERIVED. THE GIVEN ROWS OF THIS SEAT. 7 by the template 'for every input the law returns true; each argument reads behind the call as it read before'; 0 by the template 'total and deterministic' (their statements: YtnhpfdnhnocgjaaTotals.lean).
  GIVEN WITH THE SEED: the statements are not yours to turn. If you find one false, say at which input.
  Laid BY PROGRAM, IN A SANDBOX (cutbox-rows.mjs): the forced cells as the released guide's own fill.sh prints them over the translation 977a5c8b61056a51… (all of the seat's roots in one cut). By AI agents, Wed Nov 11 2026. No macro, syntax, notation, axiom, sorry.
-/
import Derived.Test.YtnhpfdnhnocgjaaChecked
import GoSem.Claim
import GoSem.ClaimJoined
import GoSem.ClaimMapViews
import Derived.JoinedTies
import Derived.KernelRfl
namespace Go.Proofs.Ytnhpfdnhnocgjaa
/- THE CELL 'sum', in the pinned program and in every row, IS THE sha256 OF THE DUMP (.gsa) THAT YtnhpfdnhnocgjaaProg.lean LOADS. Nothing in Lean hashes anything: it is a label: what it is worth is what the hold of that sum in a sandbox is worth. -/
noncomputable def Try.pinned : Pinned := { name := "ytnhpfdnhnocgjaa", sum := "977a5c8b61056a51d7ee1e8047f4295f4168220807e88fc9d55d9b4d26d7203c", checked := Try.checked }
namespace Rows
def none {H : Type} : Left H := { results := [], args := [] }

/-- 'crossroadslaw6.DpllSolves': WHATEVER THE INPUT: true; the input reads as it did. -/
def dpllSolvesSpec : ChangeSpec := { name := "dpllSolves", fn := fun _ => fun
  | [d1, d2, d3] => { results := [.lit (.bool true)], args := [d1, d2, d3] }
  | _ => none }
def dpllSolvesRow : OpenClaim := { program := "ytnhpfdnhnocgjaa", sum := "977a5c8b61056a51d7ee1e8047f4295f4168220807e88fc9d55d9b4d26d7203c", func := "crossroads/crossroadslaw6.DpllSolves", spec := "dpllSolves", unfollowed := true, recurses := true, apart := false }
def DpllSolvesSaid : Prop := dpllSolvesRow.holds Try.pinned (OpenSpec.ofChange dpllSolvesSpec)

/-- ITS FALSE NEIGHBOUR: 'it returns false'. Refute it at one input. -/
def dpllSolvesWrong : ChangeSpec := { name := "dpllSolves", fn := fun _ => fun
  | [d1, d2, d3] => { results := [.lit (.bool false)], args := [d1, d2, d3] }
  | _ => none }
def DpllSolvesWrongFalsely : Prop := dpllSolvesRow.holds Try.pinned (OpenSpec.ofChange dpllSolvesWrong)

/-- 'crossroadslaw6.DpllMany': WHATEVER THE INPUT: true; the input reads as it did. -/
def dpllManySpec : ChangeSpec := { name := "dpllMany", fn := fun _ => fun
  | [d1, d2, d3] => { results := [.lit (.bool true)], args := [d1, d2, d3] }
  | _ => none }
def dpllManyRow : OpenClaim := { program := "ytnhpfdnhnocgjaa", sum := "977a5c8b61056a51d7ee1e8047f4295f4168220807e88fc9d55d9b4d26d7203c", func := "crossroads/crossroadslaw6.DpllMany", spec := "dpllMany", unfollowed := true, recurses := true, apart := false }
def DpllManySaid : Prop := dpllManyRow.holds Try.pinned (OpenSpec.ofChange dpllManySpec)

/-- ITS FALSE NEIGHBOUR: 'it returns false'. Refute it at one input. -/
def dpllManyWrong : ChangeSpec := { name := "dpllMany", fn := fun _ => fun
  | [d1, d2, d3] => { results := [.lit (.bool false)], args := [d1, d2, d3] }
  | _ => none }
def DpllManyWrongFalsely : Prop := dpllManyRow.holds Try.pinned (OpenSpec.ofChange dpllManyWrong)

/-- 'crossroadslaw6.DpllKnown': WHATEVER THE INPUT: true; the input reads as it did. -/
def dpllKnownSpec : ChangeSpec := { name := "dpllKnown", fn := fun _ => fun
  | [] => { results := [.lit (.bool true)], args := [] }
  | _ => none }
def dpllKnownRow : OpenClaim := { program := "ytnhpfdnhnocgjaa", sum := "977a5c8b61056a51d7ee1e8047f4295f4168220807e88fc9d55d9b4d26d7203c", func := "crossroads/crossroadslaw6.DpllKnown", spec := "dpllKnown", unfollowed := true, recurses := true, apart := false }
def DpllKnownSaid : Prop := dpllKnownRow.holds Try.pinned (OpenSpec.ofChange dpllKnownSpec)

/-- ITS FALSE NEIGHBOUR: 'it returns false'. Refute it at one input. -/
def dpllKnownWrong : ChangeSpec := { name := "dpllKnown", fn := fun _ => fun
  | [] => { results := [.lit (.bool false)], args := [] }
  | _ => none }
def DpllKnownWrongFalsely : Prop := dpllKnownRow.holds Try.pinned (OpenSpec.ofChange dpllKnownWrong)

/-- 'crossroadslaw6.DpllNames': WHATEVER THE INPUT: true; the input reads as it did. -/
def dpllNamesSpec : ChangeSpec := { name := "dpllNames", fn := fun _ => fun
  | [d1, d2, d3] => { results := [.lit (.bool true)], args := [d1, d2, d3] }
  | _ => none }
def dpllNamesRow : OpenClaim := { program := "ytnhpfdnhnocgjaa", sum := "977a5c8b61056a51d7ee1e8047f4295f4168220807e88fc9d55d9b4d26d7203c", func := "crossroads/crossroadslaw6.DpllNames", spec := "dpllNames", unfollowed := true, recurses := true, apart := false }
def DpllNamesSaid : Prop := dpllNamesRow.holds Try.pinned (OpenSpec.ofChange dpllNamesSpec)

/-- ITS FALSE NEIGHBOUR: 'it returns false'. Refute it at one input. -/
def dpllNamesWrong : ChangeSpec := { name := "dpllNames", fn := fun _ => fun
  | [d1, d2, d3] => { results := [.lit (.bool false)], args := [d1, d2, d3] }
  | _ => none }
def DpllNamesWrongFalsely : Prop := dpllNamesRow.holds Try.pinned (OpenSpec.ofChange dpllNamesWrong)

/-- 'crossroadslaw6.DpllMore': WHATEVER THE INPUT: true; the input reads as it did. -/
def dpllMoreSpec : ChangeSpec := { name := "dpllMore", fn := fun _ => fun
  | [d1, d2, d3] => { results := [.lit (.bool true)], args := [d1, d2, d3] }
  | _ => none }
def dpllMoreRow : OpenClaim := { program := "ytnhpfdnhnocgjaa", sum := "977a5c8b61056a51d7ee1e8047f4295f4168220807e88fc9d55d9b4d26d7203c", func := "crossroads/crossroadslaw6.DpllMore", spec := "dpllMore", unfollowed := true, recurses := true, apart := false }
def DpllMoreSaid : Prop := dpllMoreRow.holds Try.pinned (OpenSpec.ofChange dpllMoreSpec)

/-- ITS FALSE NEIGHBOUR: 'it returns false'. Refute it at one input. -/
def dpllMoreWrong : ChangeSpec := { name := "dpllMore", fn := fun _ => fun
  | [d1, d2, d3] => { results := [.lit (.bool false)], args := [d1, d2, d3] }
  | _ => none }
def DpllMoreWrongFalsely : Prop := dpllMoreRow.holds Try.pinned (OpenSpec.ofChange dpllMoreWrong)

/-- 'crossroadslaw6.DpllUnits': WHATEVER THE INPUT: true; the input reads as it did. -/
def dpllUnitsSpec : ChangeSpec := { name := "dpllUnits", fn := fun _ => fun
  | [d1, d2] => { results := [.lit (.bool true)], args := [d1, d2] }
  | _ => none }
def dpllUnitsRow : OpenClaim := { program := "ytnhpfdnhnocgjaa", sum := "977a5c8b61056a51d7ee1e8047f4295f4168220807e88fc9d55d9b4d26d7203c", func := "crossroads/crossroadslaw6.DpllUnits", spec := "dpllUnits", unfollowed := true, recurses := true, apart := false }
def DpllUnitsSaid : Prop := dpllUnitsRow.holds Try.pinned (OpenSpec.ofChange dpllUnitsSpec)

/-- ITS FALSE NEIGHBOUR: 'it returns false'. Refute it at one input. -/
def dpllUnitsWrong : ChangeSpec := { name := "dpllUnits", fn := fun _ => fun
  | [d1, d2] => { results := [.lit (.bool false)], args := [d1, d2] }
  | _ => none }
def DpllUnitsWrongFalsely : Prop := dpllUnitsRow.holds Try.pinned (OpenSpec.ofChange dpllUnitsWrong)

/-- 'crossroadslaw6.DpllPigeons': WHATEVER THE INPUT: true; the input reads as it did. -/
def dpllPigeonsSpec : ChangeSpec := { name := "dpllPigeons", fn := fun _ => fun
  | [d1, d2] => { results := [.lit (.bool true)], args := [d1, d2] }
  | _ => none }
def dpllPigeonsRow : OpenClaim := { program := "ytnhpfdnhnocgjaa", sum := "977a5c8b61056a51d7ee1e8047f4295f4168220807e88fc9d55d9b4d26d7203c", func := "crossroads/crossroadslaw6.DpllPigeons", spec := "dpllPigeons", unfollowed := true, recurses := true, apart := false }
def DpllPigeonsSaid : Prop := dpllPigeonsRow.holds Try.pinned (OpenSpec.ofChange dpllPigeonsSpec)

/-- ITS FALSE NEIGHBOUR: 'it returns false'. Refute it at one input. -/
def dpllPigeonsWrong : ChangeSpec := { name := "dpllPigeons", fn := fun _ => fun
  | [d1, d2] => { results := [.lit (.bool false)], args := [d1, d2] }
  | _ => none }
def DpllPigeonsWrongFalsely : Prop := dpllPigeonsRow.holds Try.pinned (OpenSpec.ofChange dpllPigeonsWrong)

/- THE SECOND FORM. 'bulk': how many values and letters a reading holds, each counted each time it is reached (what is shared counts as often as it is met; a slice's spare places count too). A statement '..UptoSaid' is the law's where the arguments, and the package variables that the reading takes, are together of bulk at most 1048576: NARROWER than '..Said'. Prove '..Said' where nothing that the law and all that it calls make is longer than what came in: it says more and counts as full. Else prove '..UptoSaid'. A law counts once. -/
mutual
def uptoBulk {H : Type} : DataW H → Nat
  | .lit (.string bytes) => bytes.length + 1
  | .lit _ => 1
  | .nil => 1
  | .ptr d => uptoBulk d + 1
  | .slice elems spare => uptoBulkAll elems + uptoBulkAll spare + 1
  | .agg parts => uptoBulkAll parts + 1
  | .iface _ d => uptoBulk d + 1
  | .map entries => uptoBulkEntries entries + 1
  | .held _ => 1
def uptoBulkAll {H : Type} : List (DataW H) → Nat
  | [] => 0
  | d :: r => uptoBulk d + uptoBulkAll r
def uptoBulkEntries {H : Type} : List (Lit × DataW H) → Nat
  | [] => 0
  | x :: r => uptoBulkEntry x + uptoBulkEntries r
def uptoBulkEntry {H : Type} : Lit × DataW H → Nat
  | (.string bytes, d) => bytes.length + uptoBulk d + 1
  | (_, d) => uptoBulk d + 1
 end
def uptoSmall : (H : Type) → List (DataW H) → Bool := fun _ ds => decide (uptoBulkAll ds ≤ 1048576)
def OpenSpec.upto (s : _root_.Go.ChangeSpec) : _root_.Go.OpenSpec := { _root_.Go.OpenSpec.ofChange s with cond := some uptoSmall }

/-- 'crossroadslaw6.DpllSolves', WHERE WHAT IT READS IS OF BULK AT MOST 1048576: true; the input reads as it did. -/
def dpllSolvesUptoRow : OpenClaim := { program := "ytnhpfdnhnocgjaa", sum := "977a5c8b61056a51d7ee1e8047f4295f4168220807e88fc9d55d9b4d26d7203c", func := "crossroads/crossroadslaw6.DpllSolves", spec := "dpllSolves", unfollowed := true, recurses := true, apart := false, narrowed := true }
def DpllSolvesUptoSaid : Prop := dpllSolvesUptoRow.holds Try.pinned (OpenSpec.upto dpllSolvesSpec)

/-- 'crossroadslaw6.DpllMany', WHERE WHAT IT READS IS OF BULK AT MOST 1048576: true; the input reads as it did. -/
def dpllManyUptoRow : OpenClaim := { program := "ytnhpfdnhnocgjaa", sum := "977a5c8b61056a51d7ee1e8047f4295f4168220807e88fc9d55d9b4d26d7203c", func := "crossroads/crossroadslaw6.DpllMany", spec := "dpllMany", unfollowed := true, recurses := true, apart := false, narrowed := true }
def DpllManyUptoSaid : Prop := dpllManyUptoRow.holds Try.pinned (OpenSpec.upto dpllManySpec)

/-- 'crossroadslaw6.DpllKnown', WHERE WHAT IT READS IS OF BULK AT MOST 1048576: true; the input reads as it did. -/
def dpllKnownUptoRow : OpenClaim := { program := "ytnhpfdnhnocgjaa", sum := "977a5c8b61056a51d7ee1e8047f4295f4168220807e88fc9d55d9b4d26d7203c", func := "crossroads/crossroadslaw6.DpllKnown", spec := "dpllKnown", unfollowed := true, recurses := true, apart := false, narrowed := true }
def DpllKnownUptoSaid : Prop := dpllKnownUptoRow.holds Try.pinned (OpenSpec.upto dpllKnownSpec)

/-- 'crossroadslaw6.DpllNames', WHERE WHAT IT READS IS OF BULK AT MOST 1048576: true; the input reads as it did. -/
def dpllNamesUptoRow : OpenClaim := { program := "ytnhpfdnhnocgjaa", sum := "977a5c8b61056a51d7ee1e8047f4295f4168220807e88fc9d55d9b4d26d7203c", func := "crossroads/crossroadslaw6.DpllNames", spec := "dpllNames", unfollowed := true, recurses := true, apart := false, narrowed := true }
def DpllNamesUptoSaid : Prop := dpllNamesUptoRow.holds Try.pinned (OpenSpec.upto dpllNamesSpec)

/-- 'crossroadslaw6.DpllMore', WHERE WHAT IT READS IS OF BULK AT MOST 1048576: true; the input reads as it did. -/
def dpllMoreUptoRow : OpenClaim := { program := "ytnhpfdnhnocgjaa", sum := "977a5c8b61056a51d7ee1e8047f4295f4168220807e88fc9d55d9b4d26d7203c", func := "crossroads/crossroadslaw6.DpllMore", spec := "dpllMore", unfollowed := true, recurses := true, apart := false, narrowed := true }
def DpllMoreUptoSaid : Prop := dpllMoreUptoRow.holds Try.pinned (OpenSpec.upto dpllMoreSpec)

/-- 'crossroadslaw6.DpllUnits', WHERE WHAT IT READS IS OF BULK AT MOST 1048576: true; the input reads as it did. -/
def dpllUnitsUptoRow : OpenClaim := { program := "ytnhpfdnhnocgjaa", sum := "977a5c8b61056a51d7ee1e8047f4295f4168220807e88fc9d55d9b4d26d7203c", func := "crossroads/crossroadslaw6.DpllUnits", spec := "dpllUnits", unfollowed := true, recurses := true, apart := false, narrowed := true }
def DpllUnitsUptoSaid : Prop := dpllUnitsUptoRow.holds Try.pinned (OpenSpec.upto dpllUnitsSpec)

/-- 'crossroadslaw6.DpllPigeons', WHERE WHAT IT READS IS OF BULK AT MOST 1048576: true; the input reads as it did. -/
def dpllPigeonsUptoRow : OpenClaim := { program := "ytnhpfdnhnocgjaa", sum := "977a5c8b61056a51d7ee1e8047f4295f4168220807e88fc9d55d9b4d26d7203c", func := "crossroads/crossroadslaw6.DpllPigeons", spec := "dpllPigeons", unfollowed := true, recurses := true, apart := false, narrowed := true }
def DpllPigeonsUptoSaid : Prop := dpllPigeonsUptoRow.holds Try.pinned (OpenSpec.upto dpllPigeonsSpec)

end Rows
end Go.Proofs.Ytnhpfdnhnocgjaa
