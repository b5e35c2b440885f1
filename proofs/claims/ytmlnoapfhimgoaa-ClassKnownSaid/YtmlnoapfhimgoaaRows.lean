/-
  No cell of these rows narrows 'for every input' (looked for: loops, veiled, ifaces, maps, wideKeys, modest, calm, conditions, laid).
  DERIVED. THE GIVEN ROWS OF THIS SEAT. 6 by the template 'for every input the law returns true; each argument reads behind the call as it read before'; 0 by the template 'total and deterministic' (their statements: YtmlnoapfhimgoaaTotals.lean).
  GIVEN WITH THE SEED: the statements are not yours to turn. If you find one false, say at which input.
  Laid BY PROGRAM, IN A SANDBOX (cutbox-rows.mjs): the forced cells as the released guide's own fill.sh prints them over the translation 796bc1a787a405c3… (all of the seat's roots in one cut). By AI agents, Wed Nov 11 2026. No macro, syntax, notation, axiom, sorry.
-/
import Derived.Test.YtmlnoapfhimgoaaChecked
import GoSem.Claim
import GoSem.ClaimJoined
import GoSem.ClaimMapViews
import Derived.JoinedTies
import Derived.KernelRfl
namespace Go.Proofs.Ytmlnoapfhimgoaa
/- THE CELL 'sum', in the pinned program and in every row, IS THE sha256 OF THE DUMP (.gsa) THAT YtmlnoapfhimgoaaProg.lean LOADS. Nothing in Lean hashes anything: it is a label: what it is worth is what the hold of that sum in a sandbox is worth. -/
noncomputable def Try.pinned : Pinned := { name := "ytmlnoapfhimgoaa", sum := "796bc1a787a405c3ca914b66af345764710595b9069d48a9247650f323b60c88", checked := Try.checked }
namespace Rows
def none {H : Type} : Left H := { results := [], args := [] }

/-- 'crossroadslaw17.ClassCounts': WHATEVER THE INPUT: true; the input reads as it did. -/
def classCountsSpec : ChangeSpec := { name := "classCounts", fn := fun _ => fun
  | [d1, d2] => { results := [.lit (.bool true)], args := [d1, d2] }
  | _ => none }
def classCountsRow : OpenClaim := { program := "ytmlnoapfhimgoaa", sum := "796bc1a787a405c3ca914b66af345764710595b9069d48a9247650f323b60c88", func := "crossroads/crossroadslaw17.ClassCounts", spec := "classCounts", inPlace := ["internal/bytealg.IndexByteString", "internal/bytealg.IndexString"], recurses := true, named := ["internal/bytealg.MaxLen"], plainKeys := false, apart := false }
def ClassCountsSaid : Prop := classCountsRow.holds Try.pinned (OpenSpec.ofChange classCountsSpec)

/-- ITS FALSE NEIGHBOUR: 'it returns false'. Refute it at one input. -/
def classCountsWrong : ChangeSpec := { name := "classCounts", fn := fun _ => fun
  | [d1, d2] => { results := [.lit (.bool false)], args := [d1, d2] }
  | _ => none }
def ClassCountsWrongFalsely : Prop := classCountsRow.holds Try.pinned (OpenSpec.ofChange classCountsWrong)

/-- 'crossroadslaw17.ClassHas': WHATEVER THE INPUT: true; the input reads as it did. -/
def classHasSpec : ChangeSpec := { name := "classHas", fn := fun _ => fun
  | [d1, d2] => { results := [.lit (.bool true)], args := [d1, d2] }
  | _ => none }
def classHasRow : OpenClaim := { program := "ytmlnoapfhimgoaa", sum := "796bc1a787a405c3ca914b66af345764710595b9069d48a9247650f323b60c88", func := "crossroads/crossroadslaw17.ClassHas", spec := "classHas", inPlace := ["internal/bytealg.IndexByteString", "internal/bytealg.IndexString"], recurses := true, named := ["internal/bytealg.MaxLen"], plainKeys := false, apart := false }
def ClassHasSaid : Prop := classHasRow.holds Try.pinned (OpenSpec.ofChange classHasSpec)

/-- ITS FALSE NEIGHBOUR: 'it returns false'. Refute it at one input. -/
def classHasWrong : ChangeSpec := { name := "classHas", fn := fun _ => fun
  | [d1, d2] => { results := [.lit (.bool false)], args := [d1, d2] }
  | _ => none }
def ClassHasWrongFalsely : Prop := classHasRow.holds Try.pinned (OpenSpec.ofChange classHasWrong)

/-- 'crossroadslaw17.ClassKnown': WHATEVER THE INPUT: true; the input reads as it did. -/
def classKnownSpec : ChangeSpec := { name := "classKnown", fn := fun _ => fun
  | [] => { results := [.lit (.bool true)], args := [] }
  | _ => none }
def classKnownRow : OpenClaim := { program := "ytmlnoapfhimgoaa", sum := "796bc1a787a405c3ca914b66af345764710595b9069d48a9247650f323b60c88", func := "crossroads/crossroadslaw17.ClassKnown", spec := "classKnown", inPlace := ["internal/bytealg.IndexByteString", "internal/bytealg.IndexString"], recurses := true, named := ["internal/bytealg.MaxLen"], plainKeys := false, apart := false }
def ClassKnownSaid : Prop := classKnownRow.holds Try.pinned (OpenSpec.ofChange classKnownSpec)

/-- ITS FALSE NEIGHBOUR: 'it returns false'. Refute it at one input. -/
def classKnownWrong : ChangeSpec := { name := "classKnown", fn := fun _ => fun
  | [] => { results := [.lit (.bool false)], args := [] }
  | _ => none }
def ClassKnownWrongFalsely : Prop := classKnownRow.holds Try.pinned (OpenSpec.ofChange classKnownWrong)

/-- 'crossroadslaw17.ClassApart': WHATEVER THE INPUT: true; the input reads as it did. -/
def classApartSpec : ChangeSpec := { name := "classApart", fn := fun _ => fun
  | [d1, d2, d3] => { results := [.lit (.bool true)], args := [d1, d2, d3] }
  | _ => none }
def classApartRow : OpenClaim := { program := "ytmlnoapfhimgoaa", sum := "796bc1a787a405c3ca914b66af345764710595b9069d48a9247650f323b60c88", func := "crossroads/crossroadslaw17.ClassApart", spec := "classApart", inPlace := ["internal/bytealg.IndexByteString", "internal/bytealg.IndexString"], recurses := true, named := ["internal/bytealg.MaxLen"], plainKeys := false, apart := false }
def ClassApartSaid : Prop := classApartRow.holds Try.pinned (OpenSpec.ofChange classApartSpec)

/-- ITS FALSE NEIGHBOUR: 'it returns false'. Refute it at one input. -/
def classApartWrong : ChangeSpec := { name := "classApart", fn := fun _ => fun
  | [d1, d2, d3] => { results := [.lit (.bool false)], args := [d1, d2, d3] }
  | _ => none }
def ClassApartWrongFalsely : Prop := classApartRow.holds Try.pinned (OpenSpec.ofChange classApartWrong)

/-- 'crossroadslaw17.ClassAll': WHATEVER THE INPUT: true; the input reads as it did. -/
def classAllSpec : ChangeSpec := { name := "classAll", fn := fun _ => fun
  | [d1, d2] => { results := [.lit (.bool true)], args := [d1, d2] }
  | _ => none }
def classAllRow : OpenClaim := { program := "ytmlnoapfhimgoaa", sum := "796bc1a787a405c3ca914b66af345764710595b9069d48a9247650f323b60c88", func := "crossroads/crossroadslaw17.ClassAll", spec := "classAll", inPlace := ["internal/bytealg.IndexByteString", "internal/bytealg.IndexString"], recurses := true, named := ["internal/bytealg.MaxLen"], plainKeys := false, apart := false }
def ClassAllSaid : Prop := classAllRow.holds Try.pinned (OpenSpec.ofChange classAllSpec)

/-- ITS FALSE NEIGHBOUR: 'it returns false'. Refute it at one input. -/
def classAllWrong : ChangeSpec := { name := "classAll", fn := fun _ => fun
  | [d1, d2] => { results := [.lit (.bool false)], args := [d1, d2] }
  | _ => none }
def ClassAllWrongFalsely : Prop := classAllRow.holds Try.pinned (OpenSpec.ofChange classAllWrong)

/-- 'crossroadslaw17.ClassFails': WHATEVER THE INPUT: true; the input reads as it did. -/
def classFailsSpec : ChangeSpec := { name := "classFails", fn := fun _ => fun
  | [d1, d2] => { results := [.lit (.bool true)], args := [d1, d2] }
  | _ => none }
def classFailsRow : OpenClaim := { program := "ytmlnoapfhimgoaa", sum := "796bc1a787a405c3ca914b66af345764710595b9069d48a9247650f323b60c88", func := "crossroads/crossroadslaw17.ClassFails", spec := "classFails", inPlace := ["internal/bytealg.IndexByteString", "internal/bytealg.IndexString"], recurses := true, named := ["internal/bytealg.MaxLen"], plainKeys := false, apart := false }
def ClassFailsSaid : Prop := classFailsRow.holds Try.pinned (OpenSpec.ofChange classFailsSpec)

/-- ITS FALSE NEIGHBOUR: 'it returns false'. Refute it at one input. -/
def classFailsWrong : ChangeSpec := { name := "classFails", fn := fun _ => fun
  | [d1, d2] => { results := [.lit (.bool false)], args := [d1, d2] }
  | _ => none }
def ClassFailsWrongFalsely : Prop := classFailsRow.holds Try.pinned (OpenSpec.ofChange classFailsWrong)

/- THE SECOND FORM. 'bulk': how many values and letters a reading holds, each counted each time it is reached (what is shared counts as often as it is met; a slice's spare places count too). A statement '..UptoSaid' is the law's where the arguments, and the package variables that the reading takes, are together of bulk at most 1048576: NARROWER than '..Said'. Prove '..Said' where nothing that the law and all that it calls make is longer than what came in: it says more and counts as full. Else prove '..UptoSaid'. A law counts once. -/
mutual
def uptoBulk {H : Type} : DataW H → Nat
  | .lit (.string bytes) => bytes.length + 1
  | .lit _ => 1
  | .nil => 1
  | .ptr d => uptoBulk d + 1
  | .slice elems spare => uptoBulkAll elems + uptoBulkAll spare + 1
  | .agg parts => uptoBulkAll parts + 1
  | .iface _ d => uptoBulk d + 1
  | .map entries => uptoBulkEntries entries + 1
  | .held _ => 1
def uptoBulkAll {H : Type} : List (DataW H) → Nat
  | [] => 0
  | d :: r => uptoBulk d + uptoBulkAll r
def uptoBulkEntries {H : Type} : List (Lit × DataW H) → Nat
  | [] => 0
  | x :: r => uptoBulkEntry x + uptoBulkEntries r
def uptoBulkEntry {H : Type} : Lit × DataW H → Nat
  | (.string bytes, d) => bytes.length + uptoBulk d + 1
  | (_, d) => uptoBulk d + 1
 end
def uptoSmall : (H : Type) → List (DataW H) → Bool := fun _ ds => decide (uptoBulkAll ds ≤ 1048576)
def OpenSpec.upto (s : _root_.Go.ChangeSpec) : _root_.Go.OpenSpec := { _root_.Go.OpenSpec.ofChange s with cond := some uptoSmall }

/-- 'crossroadslaw17.ClassCounts', WHERE WHAT IT READS IS OF BULK AT MOST 1048576: true; the input reads as it did. -/
def classCountsUptoRow : OpenClaim := { program := "ytmlnoapfhimgoaa", sum := "796bc1a787a405c3ca914b66af345764710595b9069d48a9247650f323b60c88", func := "crossroads/crossroadslaw17.ClassCounts", spec := "classCounts", inPlace := ["internal/bytealg.IndexByteString", "internal/bytealg.IndexString"], recurses := true, named := ["internal/bytealg.MaxLen"], plainKeys := false, apart := false, narrowed := true }
def ClassCountsUptoSaid : Prop := classCountsUptoRow.holds Try.pinned (OpenSpec.upto classCountsSpec)

/-- 'crossroadslaw17.ClassHas', WHERE WHAT IT READS IS OF BULK AT MOST 1048576: true; the input reads as it did. -/
def classHasUptoRow : OpenClaim := { program := "ytmlnoapfhimgoaa", sum := "796bc1a787a405c3ca914b66af345764710595b9069d48a9247650f323b60c88", func := "crossroads/crossroadslaw17.ClassHas", spec := "classHas", inPlace := ["internal/bytealg.IndexByteString", "internal/bytealg.IndexString"], recurses := true, named := ["internal/bytealg.MaxLen"], plainKeys := false, apart := false, narrowed := true }
def ClassHasUptoSaid : Prop := classHasUptoRow.holds Try.pinned (OpenSpec.upto classHasSpec)

/-- 'crossroadslaw17.ClassKnown', WHERE WHAT IT READS IS OF BULK AT MOST 1048576: true; the input reads as it did. -/
def classKnownUptoRow : OpenClaim := { program := "ytmlnoapfhimgoaa", sum := "796bc1a787a405c3ca914b66af345764710595b9069d48a9247650f323b60c88", func := "crossroads/crossroadslaw17.ClassKnown", spec := "classKnown", inPlace := ["internal/bytealg.IndexByteString", "internal/bytealg.IndexString"], recurses := true, named := ["internal/bytealg.MaxLen"], plainKeys := false, apart := false, narrowed := true }
def ClassKnownUptoSaid : Prop := classKnownUptoRow.holds Try.pinned (OpenSpec.upto classKnownSpec)

/-- 'crossroadslaw17.ClassApart', WHERE WHAT IT READS IS OF BULK AT MOST 1048576: true; the input reads as it did. -/
def classApartUptoRow : OpenClaim := { program := "ytmlnoapfhimgoaa", sum := "796bc1a787a405c3ca914b66af345764710595b9069d48a9247650f323b60c88", func := "crossroads/crossroadslaw17.ClassApart", spec := "classApart", inPlace := ["internal/bytealg.IndexByteString", "internal/bytealg.IndexString"], recurses := true, named := ["internal/bytealg.MaxLen"], plainKeys := false, apart := false, narrowed := true }
def ClassApartUptoSaid : Prop := classApartUptoRow.holds Try.pinned (OpenSpec.upto classApartSpec)

/-- 'crossroadslaw17.ClassAll', WHERE WHAT IT READS IS OF BULK AT MOST 1048576: true; the input reads as it did. -/
def classAllUptoRow : OpenClaim := { program := "ytmlnoapfhimgoaa", sum := "796bc1a787a405c3ca914b66af345764710595b9069d48a9247650f323b60c88", func := "crossroads/crossroadslaw17.ClassAll", spec := "classAll", inPlace := ["internal/bytealg.IndexByteString", "internal/bytealg.IndexString"], recurses := true, named := ["internal/bytealg.MaxLen"], plainKeys := false, apart := false, narrowed := true }
def ClassAllUptoSaid : Prop := classAllUptoRow.holds Try.pinned (OpenSpec.upto classAllSpec)

/-- 'crossroadslaw17.ClassFails', WHERE WHAT IT READS IS OF BULK AT MOST 1048576: true; the input reads as it did. -/
def classFailsUptoRow : OpenClaim := { program := "ytmlnoapfhimgoaa", sum := "796bc1a787a405c3ca914b66af345764710595b9069d48a9247650f323b60c88", func := "crossroads/crossroadslaw17.ClassFails", spec := "classFails", inPlace := ["internal/bytealg.IndexByteString", "internal/bytealg.IndexString"], recurses := true, named := ["internal/bytealg.MaxLen"], plainKeys := false, apart := false, narrowed := true }
def ClassFailsUptoSaid : Prop := classFailsUptoRow.holds Try.pinned (OpenSpec.upto classFailsSpec)

end Rows
end Go.Proofs.Ytmlnoapfhimgoaa
