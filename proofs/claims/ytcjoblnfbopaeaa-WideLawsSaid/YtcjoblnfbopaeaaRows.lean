/-
  No cell of these rows narrows 'for every input' (looked for: loops, veiled, ifaces, maps, wideKeys, modest, calm, conditions, laid).
  DERIVED. THE GIVEN ROWS OF THIS SEAT. 6 by the template 'for every input the law returns true; each argument reads behind the call as it read before'; 0 by the template 'total and deterministic' (their statements: YtcjoblnfbopaeaaTotals.lean).
  GIVEN WITH THE SEED: the statements are not yours to turn. If you find one false, say at which input.
  Laid BY PROGRAM, IN A SANDBOX (cutbox-rows.mjs): the forced cells as the released guide's own fill.sh prints them over the translation b6931caa10705e83… (all of the seat's roots in one cut). By AI agents, Wed Nov 11 2026. No macro, syntax, notation, axiom, sorry.
-/
import Derived.Test.YtcjoblnfbopaeaaChecked
import GoSem.Claim
import GoSem.ClaimJoined
import GoSem.ClaimMapViews
import Derived.JoinedTies
import Derived.KernelRfl
namespace Go.Proofs.Ytcjoblnfbopaeaa
/- THE CELL 'sum', in the pinned program and in every row, IS THE sha256 OF THE DUMP (.gsa) THAT YtcjoblnfbopaeaaProg.lean LOADS. Nothing in Lean hashes anything: it is a label: what it is worth is what the hold of that sum in a sandbox is worth. -/
noncomputable def Try.pinned : Pinned := { name := "ytcjoblnfbopaeaa", sum := "b6931caa10705e8371b9cc60ef83aa2dafb51aba0edc97000acf49718a08a1c5", checked := Try.checked }
namespace Rows
def none {H : Type} : Left H := { results := [], args := [] }

/-- 'crossroadslaw1.WideDoes': WHATEVER THE INPUT: true; the input reads as it did. -/
def wideDoesSpec : ChangeSpec := { name := "wideDoes", fn := fun _ => fun
  | [d1, d2, d3] => { results := [.lit (.bool true)], args := [d1, d2, d3] }
  | _ => none }
def wideDoesRow : OpenClaim := { program := "ytcjoblnfbopaeaa", sum := "b6931caa10705e8371b9cc60ef83aa2dafb51aba0edc97000acf49718a08a1c5", func := "crossroads/crossroadslaw1.WideDoes", spec := "wideDoes", apart := false }
def WideDoesSaid : Prop := wideDoesRow.holds Try.pinned (OpenSpec.ofChange wideDoesSpec)

/-- ITS FALSE NEIGHBOUR: 'it returns false'. Refute it at one input. -/
def wideDoesWrong : ChangeSpec := { name := "wideDoes", fn := fun _ => fun
  | [d1, d2, d3] => { results := [.lit (.bool false)], args := [d1, d2, d3] }
  | _ => none }
def WideDoesWrongFalsely : Prop := wideDoesRow.holds Try.pinned (OpenSpec.ofChange wideDoesWrong)

/-- 'crossroadslaw1.WideKnown': WHATEVER THE INPUT: true; the input reads as it did. -/
def wideKnownSpec : ChangeSpec := { name := "wideKnown", fn := fun _ => fun
  | [] => { results := [.lit (.bool true)], args := [] }
  | _ => none }
def wideKnownRow : OpenClaim := { program := "ytcjoblnfbopaeaa", sum := "b6931caa10705e8371b9cc60ef83aa2dafb51aba0edc97000acf49718a08a1c5", func := "crossroads/crossroadslaw1.WideKnown", spec := "wideKnown", apart := false }
def WideKnownSaid : Prop := wideKnownRow.holds Try.pinned (OpenSpec.ofChange wideKnownSpec)

/-- ITS FALSE NEIGHBOUR: 'it returns false'. Refute it at one input. -/
def wideKnownWrong : ChangeSpec := { name := "wideKnown", fn := fun _ => fun
  | [] => { results := [.lit (.bool false)], args := [] }
  | _ => none }
def WideKnownWrongFalsely : Prop := wideKnownRow.holds Try.pinned (OpenSpec.ofChange wideKnownWrong)

/-- 'crossroadslaw1.WideLaws': WHATEVER THE INPUT: true; the input reads as it did. -/
def wideLawsSpec : ChangeSpec := { name := "wideLaws", fn := fun _ => fun
  | [d1, d2, d3] => { results := [.lit (.bool true)], args := [d1, d2, d3] }
  | _ => none }
def wideLawsRow : OpenClaim := { program := "ytcjoblnfbopaeaa", sum := "b6931caa10705e8371b9cc60ef83aa2dafb51aba0edc97000acf49718a08a1c5", func := "crossroads/crossroadslaw1.WideLaws", spec := "wideLaws", unfollowed := true, recurses := true, apart := false }
def WideLawsSaid : Prop := wideLawsRow.holds Try.pinned (OpenSpec.ofChange wideLawsSpec)

/-- ITS FALSE NEIGHBOUR: 'it returns false'. Refute it at one input. -/
def wideLawsWrong : ChangeSpec := { name := "wideLaws", fn := fun _ => fun
  | [d1, d2, d3] => { results := [.lit (.bool false)], args := [d1, d2, d3] }
  | _ => none }
def WideLawsWrongFalsely : Prop := wideLawsRow.holds Try.pinned (OpenSpec.ofChange wideLawsWrong)

/-- 'crossroadslaw1.WideShifts': WHATEVER THE INPUT: true; the input reads as it did. -/
def wideShiftsSpec : ChangeSpec := { name := "wideShifts", fn := fun _ => fun
  | [d1, d2, d3] => { results := [.lit (.bool true)], args := [d1, d2, d3] }
  | _ => none }
def wideShiftsRow : OpenClaim := { program := "ytcjoblnfbopaeaa", sum := "b6931caa10705e8371b9cc60ef83aa2dafb51aba0edc97000acf49718a08a1c5", func := "crossroads/crossroadslaw1.WideShifts", spec := "wideShifts", apart := false }
def WideShiftsSaid : Prop := wideShiftsRow.holds Try.pinned (OpenSpec.ofChange wideShiftsSpec)

/-- ITS FALSE NEIGHBOUR: 'it returns false'. Refute it at one input. -/
def wideShiftsWrong : ChangeSpec := { name := "wideShifts", fn := fun _ => fun
  | [d1, d2, d3] => { results := [.lit (.bool false)], args := [d1, d2, d3] }
  | _ => none }
def WideShiftsWrongFalsely : Prop := wideShiftsRow.holds Try.pinned (OpenSpec.ofChange wideShiftsWrong)

/-- 'crossroadslaw1.WideWidths': WHATEVER THE INPUT: true; the input reads as it did. -/
def wideWidthsSpec : ChangeSpec := { name := "wideWidths", fn := fun _ => fun
  | [d1, d2, d3] => { results := [.lit (.bool true)], args := [d1, d2, d3] }
  | _ => none }
def wideWidthsRow : OpenClaim := { program := "ytcjoblnfbopaeaa", sum := "b6931caa10705e8371b9cc60ef83aa2dafb51aba0edc97000acf49718a08a1c5", func := "crossroads/crossroadslaw1.WideWidths", spec := "wideWidths", apart := false }
def WideWidthsSaid : Prop := wideWidthsRow.holds Try.pinned (OpenSpec.ofChange wideWidthsSpec)

/-- ITS FALSE NEIGHBOUR: 'it returns false'. Refute it at one input. -/
def wideWidthsWrong : ChangeSpec := { name := "wideWidths", fn := fun _ => fun
  | [d1, d2, d3] => { results := [.lit (.bool false)], args := [d1, d2, d3] }
  | _ => none }
def WideWidthsWrongFalsely : Prop := wideWidthsRow.holds Try.pinned (OpenSpec.ofChange wideWidthsWrong)

/-- 'crossroadslaw1.WideOrder': WHATEVER THE INPUT: true; the input reads as it did. -/
def wideOrderSpec : ChangeSpec := { name := "wideOrder", fn := fun _ => fun
  | [d1, d2, d3] => { results := [.lit (.bool true)], args := [d1, d2, d3] }
  | _ => none }
def wideOrderRow : OpenClaim := { program := "ytcjoblnfbopaeaa", sum := "b6931caa10705e8371b9cc60ef83aa2dafb51aba0edc97000acf49718a08a1c5", func := "crossroads/crossroadslaw1.WideOrder", spec := "wideOrder", apart := false }
def WideOrderSaid : Prop := wideOrderRow.holds Try.pinned (OpenSpec.ofChange wideOrderSpec)

/-- ITS FALSE NEIGHBOUR: 'it returns false'. Refute it at one input. -/
def wideOrderWrong : ChangeSpec := { name := "wideOrder", fn := fun _ => fun
  | [d1, d2, d3] => { results := [.lit (.bool false)], args := [d1, d2, d3] }
  | _ => none }
def WideOrderWrongFalsely : Prop := wideOrderRow.holds Try.pinned (OpenSpec.ofChange wideOrderWrong)

/- THE SECOND FORM. 'bulk': how many values and letters a reading holds, each counted each time it is reached (what is shared counts as often as it is met; a slice's spare places count too). A statement '..UptoSaid' is the law's where the arguments, and the package variables that the reading takes, are together of bulk at most 1048576: NARROWER than '..Said'. Prove '..Said' where nothing that the law and all that it calls make is longer than what came in: it says more and counts as full. Else prove '..UptoSaid'. A law counts once. -/
mutual
def uptoBulk {H : Type} : DataW H → Nat
  | .lit (.string bytes) => bytes.length + 1
  | .lit _ => 1
  | .nil => 1
  | .ptr d => uptoBulk d + 1
  | .slice elems spare => uptoBulkAll elems + uptoBulkAll spare + 1
  | .agg parts => uptoBulkAll parts + 1
  | .iface _ d => uptoBulk d + 1
  | .map entries => uptoBulkEntries entries + 1
  | .held _ => 1
def uptoBulkAll {H : Type} : List (DataW H) → Nat
  | [] => 0
  | d :: r => uptoBulk d + uptoBulkAll r
def uptoBulkEntries {H : Type} : List (Lit × DataW H) → Nat
  | [] => 0
  | x :: r => uptoBulkEntry x + uptoBulkEntries r
def uptoBulkEntry {H : Type} : Lit × DataW H → Nat
  | (.string bytes, d) => bytes.length + uptoBulk d + 1
  | (_, d) => uptoBulk d + 1
 end
def uptoSmall : (H : Type) → List (DataW H) → Bool := fun _ ds => decide (uptoBulkAll ds ≤ 1048576)
def OpenSpec.upto (s : _root_.Go.ChangeSpec) : _root_.Go.OpenSpec := { _root_.Go.OpenSpec.ofChange s with cond := some uptoSmall }

/-- 'crossroadslaw1.WideDoes', WHERE WHAT IT READS IS OF BULK AT MOST 1048576: true; the input reads as it did. -/
def wideDoesUptoRow : OpenClaim := { program := "ytcjoblnfbopaeaa", sum := "b6931caa10705e8371b9cc60ef83aa2dafb51aba0edc97000acf49718a08a1c5", func := "crossroads/crossroadslaw1.WideDoes", spec := "wideDoes", apart := false, narrowed := true }
def WideDoesUptoSaid : Prop := wideDoesUptoRow.holds Try.pinned (OpenSpec.upto wideDoesSpec)

/-- 'crossroadslaw1.WideKnown', WHERE WHAT IT READS IS OF BULK AT MOST 1048576: true; the input reads as it did. -/
def wideKnownUptoRow : OpenClaim := { program := "ytcjoblnfbopaeaa", sum := "b6931caa10705e8371b9cc60ef83aa2dafb51aba0edc97000acf49718a08a1c5", func := "crossroads/crossroadslaw1.WideKnown", spec := "wideKnown", apart := false, narrowed := true }
def WideKnownUptoSaid : Prop := wideKnownUptoRow.holds Try.pinned (OpenSpec.upto wideKnownSpec)

/-- 'crossroadslaw1.WideLaws', WHERE WHAT IT READS IS OF BULK AT MOST 1048576: true; the input reads as it did. -/
def wideLawsUptoRow : OpenClaim := { program := "ytcjoblnfbopaeaa", sum := "b6931caa10705e8371b9cc60ef83aa2dafb51aba0edc97000acf49718a08a1c5", func := "crossroads/crossroadslaw1.WideLaws", spec := "wideLaws", unfollowed := true, recurses := true, apart := false, narrowed := true }
def WideLawsUptoSaid : Prop := wideLawsUptoRow.holds Try.pinned (OpenSpec.upto wideLawsSpec)

/-- 'crossroadslaw1.WideShifts', WHERE WHAT IT READS IS OF BULK AT MOST 1048576: true; the input reads as it did. -/
def wideShiftsUptoRow : OpenClaim := { program := "ytcjoblnfbopaeaa", sum := "b6931caa10705e8371b9cc60ef83aa2dafb51aba0edc97000acf49718a08a1c5", func := "crossroads/crossroadslaw1.WideShifts", spec := "wideShifts", apart := false, narrowed := true }
def WideShiftsUptoSaid : Prop := wideShiftsUptoRow.holds Try.pinned (OpenSpec.upto wideShiftsSpec)

/-- 'crossroadslaw1.WideWidths', WHERE WHAT IT READS IS OF BULK AT MOST 1048576: true; the input reads as it did. -/
def wideWidthsUptoRow : OpenClaim := { program := "ytcjoblnfbopaeaa", sum := "b6931caa10705e8371b9cc60ef83aa2dafb51aba0edc97000acf49718a08a1c5", func := "crossroads/crossroadslaw1.WideWidths", spec := "wideWidths", apart := false, narrowed := true }
def WideWidthsUptoSaid : Prop := wideWidthsUptoRow.holds Try.pinned (OpenSpec.upto wideWidthsSpec)

/-- 'crossroadslaw1.WideOrder', WHERE WHAT IT READS IS OF BULK AT MOST 1048576: true; the input reads as it did. -/
def wideOrderUptoRow : OpenClaim := { program := "ytcjoblnfbopaeaa", sum := "b6931caa10705e8371b9cc60ef83aa2dafb51aba0edc97000acf49718a08a1c5", func := "crossroads/crossroadslaw1.WideOrder", spec := "wideOrder", apart := false, narrowed := true }
def WideOrderUptoSaid : Prop := wideOrderUptoRow.holds Try.pinned (OpenSpec.upto wideOrderSpec)

end Rows
end Go.Proofs.Ytcjoblnfbopaeaa
