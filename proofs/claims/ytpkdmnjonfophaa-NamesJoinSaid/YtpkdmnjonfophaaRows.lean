/-
  No cell of these rows narrows 'for every input' (looked for: loops, veiled, ifaces, maps, wideKeys, modest, calm, conditions, laid).
  DERIVED. THE GIVEN ROWS OF THIS SEAT. 4 by the template 'for every input the law returns true; each argument reads behind the call as it read before'; 0 by the template 'total and deterministic' (their statements: YtpkdmnjonfophaaTotals.lean).
  GIVEN WITH THE SEED: the statements are not yours to turn. If you find one false, say at which input.
  Laid BY PROGRAM, IN A SANDBOX (cutbox-rows.mjs): the forced cells as the released guide's own fill.sh prints them over the translation 29beee39d9c53c4b… (all of the seat's roots in one cut). By AI agents, Wed Nov 11 2026. No macro, syntax, notation, axiom, sorry.
-/
import Derived.Test.YtpkdmnjonfophaaChecked
import GoSem.Claim
import GoSem.ClaimJoined
import GoSem.ClaimMapViews
import Derived.JoinedTies
import Derived.KernelRfl
namespace Go.Proofs.Ytpkdmnjonfophaa
/- THE CELL 'sum', in the pinned program and in every row, IS THE sha256 OF THE DUMP (.gsa) THAT YtpkdmnjonfophaaProg.lean LOADS. Nothing in Lean hashes anything: it is a label: what it is worth is what the hold of that sum in a sandbox is worth. -/
noncomputable def Try.pinned : Pinned := { name := "ytpkdmnjonfophaa", sum := "29beee39d9c53c4b92a228bfc040414a1571f29d3e4ad8c8030b8dba2b277ca2", checked := Try.checked }
namespace Rows
def none {H : Type} : Left H := { results := [], args := [] }

/-- 'crossroadslaw12.NamesSplit': WHATEVER THE INPUT: true; the input reads as it did. -/
def namesSplitSpec : ChangeSpec := { name := "namesSplit", fn := fun _ => fun
  | [d1, d2] => { results := [.lit (.bool true)], args := [d1, d2] }
  | _ => none }
def namesSplitRow : OpenClaim := { program := "ytpkdmnjonfophaa", sum := "29beee39d9c53c4b92a228bfc040414a1571f29d3e4ad8c8030b8dba2b277ca2", func := "crossroads/crossroadslaw12.NamesSplit", spec := "namesSplit", inPlace := ["internal/bytealg.IndexByteString", "internal/bytealg.IndexString", "internal/bytealg.CountString"], named := ["internal/bytealg.MaxLen"], apart := false }
def NamesSplitSaid : Prop := namesSplitRow.holds Try.pinned (OpenSpec.ofChange namesSplitSpec)

/-- ITS FALSE NEIGHBOUR: 'it returns false'. Refute it at one input. -/
def namesSplitWrong : ChangeSpec := { name := "namesSplit", fn := fun _ => fun
  | [d1, d2] => { results := [.lit (.bool false)], args := [d1, d2] }
  | _ => none }
def NamesSplitWrongFalsely : Prop := namesSplitRow.holds Try.pinned (OpenSpec.ofChange namesSplitWrong)

/-- 'crossroadslaw12.NamesKnown': WHATEVER THE INPUT: true; the input reads as it did. -/
def namesKnownSpec : ChangeSpec := { name := "namesKnown", fn := fun _ => fun
  | [] => { results := [.lit (.bool true)], args := [] }
  | _ => none }
def namesKnownRow : OpenClaim := { program := "ytpkdmnjonfophaa", sum := "29beee39d9c53c4b92a228bfc040414a1571f29d3e4ad8c8030b8dba2b277ca2", func := "crossroads/crossroadslaw12.NamesKnown", spec := "namesKnown", inPlace := ["internal/bytealg.IndexByteString", "internal/bytealg.IndexString", "internal/bytealg.CountString"], named := ["internal/bytealg.MaxLen"], apart := false }
def NamesKnownSaid : Prop := namesKnownRow.holds Try.pinned (OpenSpec.ofChange namesKnownSpec)

/-- ITS FALSE NEIGHBOUR: 'it returns false'. Refute it at one input. -/
def namesKnownWrong : ChangeSpec := { name := "namesKnown", fn := fun _ => fun
  | [] => { results := [.lit (.bool false)], args := [] }
  | _ => none }
def NamesKnownWrongFalsely : Prop := namesKnownRow.holds Try.pinned (OpenSpec.ofChange namesKnownWrong)

/-- 'crossroadslaw12.NamesOrder': WHATEVER THE INPUT: true; the input reads as it did. -/
def namesOrderSpec : ChangeSpec := { name := "namesOrder", fn := fun _ => fun
  | [d1, d2, d3] => { results := [.lit (.bool true)], args := [d1, d2, d3] }
  | _ => none }
def namesOrderRow : OpenClaim := { program := "ytpkdmnjonfophaa", sum := "29beee39d9c53c4b92a228bfc040414a1571f29d3e4ad8c8030b8dba2b277ca2", func := "crossroads/crossroadslaw12.NamesOrder", spec := "namesOrder", inPlace := ["internal/bytealg.IndexByteString", "internal/bytealg.IndexString", "internal/bytealg.CountString"], named := ["internal/bytealg.MaxLen"], apart := false }
def NamesOrderSaid : Prop := namesOrderRow.holds Try.pinned (OpenSpec.ofChange namesOrderSpec)

/-- ITS FALSE NEIGHBOUR: 'it returns false'. Refute it at one input. -/
def namesOrderWrong : ChangeSpec := { name := "namesOrder", fn := fun _ => fun
  | [d1, d2, d3] => { results := [.lit (.bool false)], args := [d1, d2, d3] }
  | _ => none }
def NamesOrderWrongFalsely : Prop := namesOrderRow.holds Try.pinned (OpenSpec.ofChange namesOrderWrong)

/-- 'crossroadslaw12.NamesJoin': WHATEVER THE INPUT: true; the input reads as it did. -/
def namesJoinSpec : ChangeSpec := { name := "namesJoin", fn := fun _ => fun
  | [d1, d2, d3] => { results := [.lit (.bool true)], args := [d1, d2, d3] }
  | _ => none }
def namesJoinRow : OpenClaim := { program := "ytpkdmnjonfophaa", sum := "29beee39d9c53c4b92a228bfc040414a1571f29d3e4ad8c8030b8dba2b277ca2", func := "crossroads/crossroadslaw12.NamesJoin", spec := "namesJoin", inPlace := ["internal/bytealg.IndexByteString", "internal/bytealg.IndexString", "internal/bytealg.CountString"], named := ["internal/bytealg.MaxLen"], apart := false }
def NamesJoinSaid : Prop := namesJoinRow.holds Try.pinned (OpenSpec.ofChange namesJoinSpec)

/-- ITS FALSE NEIGHBOUR: 'it returns false'. Refute it at one input. -/
def namesJoinWrong : ChangeSpec := { name := "namesJoin", fn := fun _ => fun
  | [d1, d2, d3] => { results := [.lit (.bool false)], args := [d1, d2, d3] }
  | _ => none }
def NamesJoinWrongFalsely : Prop := namesJoinRow.holds Try.pinned (OpenSpec.ofChange namesJoinWrong)

/- THE SECOND FORM. 'bulk': how many values and letters a reading holds, each counted each time it is reached (what is shared counts as often as it is met; a slice's spare places count too). A statement '..UptoSaid' is the law's where the arguments, and the package variables that the reading takes, are together of bulk at most 1048576: NARROWER than '..Said'. Prove '..Said' where nothing that the law and all that it calls make is longer than what came in: it says more and counts as full. Else prove '..UptoSaid'. A law counts once. -/
mutual
def uptoBulk {H : Type} : DataW H → Nat
  | .lit (.string bytes) => bytes.length + 1
  | .lit _ => 1
  | .nil => 1
  | .ptr d => uptoBulk d + 1
  | .slice elems spare => uptoBulkAll elems + uptoBulkAll spare + 1
  | .agg parts => uptoBulkAll parts + 1
  | .iface _ d => uptoBulk d + 1
  | .map entries => uptoBulkEntries entries + 1
  | .held _ => 1
def uptoBulkAll {H : Type} : List (DataW H) → Nat
  | [] => 0
  | d :: r => uptoBulk d + uptoBulkAll r
def uptoBulkEntries {H : Type} : List (Lit × DataW H) → Nat
  | [] => 0
  | x :: r => uptoBulkEntry x + uptoBulkEntries r
def uptoBulkEntry {H : Type} : Lit × DataW H → Nat
  | (.string bytes, d) => bytes.length + uptoBulk d + 1
  | (_, d) => uptoBulk d + 1
 end
def uptoSmall : (H : Type) → List (DataW H) → Bool := fun _ ds => decide (uptoBulkAll ds ≤ 1048576)
def OpenSpec.upto (s : _root_.Go.ChangeSpec) : _root_.Go.OpenSpec := { _root_.Go.OpenSpec.ofChange s with cond := some uptoSmall }

/-- 'crossroadslaw12.NamesSplit', WHERE WHAT IT READS IS OF BULK AT MOST 1048576: true; the input reads as it did. -/
def namesSplitUptoRow : OpenClaim := { program := "ytpkdmnjonfophaa", sum := "29beee39d9c53c4b92a228bfc040414a1571f29d3e4ad8c8030b8dba2b277ca2", func := "crossroads/crossroadslaw12.NamesSplit", spec := "namesSplit", inPlace := ["internal/bytealg.IndexByteString", "internal/bytealg.IndexString", "internal/bytealg.CountString"], named := ["internal/bytealg.MaxLen"], apart := false, narrowed := true }
def NamesSplitUptoSaid : Prop := namesSplitUptoRow.holds Try.pinned (OpenSpec.upto namesSplitSpec)

/-- 'crossroadslaw12.NamesKnown', WHERE WHAT IT READS IS OF BULK AT MOST 1048576: true; the input reads as it did. -/
def namesKnownUptoRow : OpenClaim := { program := "ytpkdmnjonfophaa", sum := "29beee39d9c53c4b92a228bfc040414a1571f29d3e4ad8c8030b8dba2b277ca2", func := "crossroads/crossroadslaw12.NamesKnown", spec := "namesKnown", inPlace := ["internal/bytealg.IndexByteString", "internal/bytealg.IndexString", "internal/bytealg.CountString"], named := ["internal/bytealg.MaxLen"], apart := false, narrowed := true }
def NamesKnownUptoSaid : Prop := namesKnownUptoRow.holds Try.pinned (OpenSpec.upto namesKnownSpec)

/-- 'crossroadslaw12.NamesOrder', WHERE WHAT IT READS IS OF BULK AT MOST 1048576: true; the input reads as it did. -/
def namesOrderUptoRow : OpenClaim := { program := "ytpkdmnjonfophaa", sum := "29beee39d9c53c4b92a228bfc040414a1571f29d3e4ad8c8030b8dba2b277ca2", func := "crossroads/crossroadslaw12.NamesOrder", spec := "namesOrder", inPlace := ["internal/bytealg.IndexByteString", "internal/bytealg.IndexString", "internal/bytealg.CountString"], named := ["internal/bytealg.MaxLen"], apart := false, narrowed := true }
def NamesOrderUptoSaid : Prop := namesOrderUptoRow.holds Try.pinned (OpenSpec.upto namesOrderSpec)

/-- 'crossroadslaw12.NamesJoin', WHERE WHAT IT READS IS OF BULK AT MOST 1048576: true; the input reads as it did. -/
def namesJoinUptoRow : OpenClaim := { program := "ytpkdmnjonfophaa", sum := "29beee39d9c53c4b92a228bfc040414a1571f29d3e4ad8c8030b8dba2b277ca2", func := "crossroads/crossroadslaw12.NamesJoin", spec := "namesJoin", inPlace := ["internal/bytealg.IndexByteString", "internal/bytealg.IndexString", "internal/bytealg.CountString"], named := ["internal/bytealg.MaxLen"], apart := false, narrowed := true }
def NamesJoinUptoSaid : Prop := namesJoinUptoRow.holds Try.pinned (OpenSpec.upto namesJoinSpec)

end Rows
end Go.Proofs.Ytpkdmnjonfophaa
