/-
  No cell of these rows narrows 'for every input' (looked for: loops, veiled, ifaces, maps, wideKeys, modest, calm, conditions, laid).
  DERIVED. THE GIVEN ROWS OF THIS SEAT. 6 by the template 'for every input the law returns true; each argument reads behind the call as it read before'; 0 by the template 'total and deterministic' (their statements: YtlfghalebkgclaaTotals.lean).
  GIVEN WITH THE SEED: the statements are not yours to turn. If you find one false, say at which input.
  Laid BY PROGRAM, IN A SANDBOX (cutbox-rows.mjs): the forced cells as the released guide's own fill.sh prints them over the translation 5fd24e4f66f08d90… (all of the seat's roots in one cut). By AI agents, Wed Nov 11 2026. No macro, syntax, notation, axiom, sorry.
-/
import Derived.Test.YtlfghalebkgclaaChecked
import GoSem.Claim
import GoSem.ClaimJoined
import GoSem.ClaimMapViews
import Derived.JoinedTies
import Derived.KernelRfl
namespace Go.Proofs.Ytlfghalebkgclaa
/- THE CELL 'sum', in the pinned program and in every row, IS THE sha256 OF THE DUMP (.gsa) THAT YtlfghalebkgclaaProg.lean LOADS. Nothing in Lean hashes anything: it is a label: what it is worth is what the hold of that sum in a sandbox is worth. -/
noncomputable def Try.pinned : Pinned := { name := "ytlfghalebkgclaa", sum := "5fd24e4f66f08d9064ec61319e6df689ba330cbc21a444d7ffec7d87a54846ad", checked := Try.checked }
namespace Rows
def none {H : Type} : Left H := { results := [], args := [] }

/-- 'crossroadslaw4.ClauseNormal': WHATEVER THE INPUT: true; the input reads as it did. -/
def clauseNormalSpec : ChangeSpec := { name := "clauseNormal", fn := fun _ => fun
  | [d1, d2] => { results := [.lit (.bool true)], args := [d1, d2] }
  | _ => none }
def clauseNormalRow : OpenClaim := { program := "ytlfghalebkgclaa", sum := "5fd24e4f66f08d9064ec61319e6df689ba330cbc21a444d7ffec7d87a54846ad", func := "crossroads/crossroadslaw4.ClauseNormal", spec := "clauseNormal", unfollowed := true, recurses := true, apart := false }
def ClauseNormalSaid : Prop := clauseNormalRow.holds Try.pinned (OpenSpec.ofChange clauseNormalSpec)

/-- ITS FALSE NEIGHBOUR: 'it returns false'. Refute it at one input. -/
def clauseNormalWrong : ChangeSpec := { name := "clauseNormal", fn := fun _ => fun
  | [d1, d2] => { results := [.lit (.bool false)], args := [d1, d2] }
  | _ => none }
def ClauseNormalWrongFalsely : Prop := clauseNormalRow.holds Try.pinned (OpenSpec.ofChange clauseNormalWrong)

/-- 'crossroadslaw4.ClauseOrders': WHATEVER THE INPUT: true; the input reads as it did. -/
def clauseOrdersSpec : ChangeSpec := { name := "clauseOrders", fn := fun _ => fun
  | [d1, d2] => { results := [.lit (.bool true)], args := [d1, d2] }
  | _ => none }
def clauseOrdersRow : OpenClaim := { program := "ytlfghalebkgclaa", sum := "5fd24e4f66f08d9064ec61319e6df689ba330cbc21a444d7ffec7d87a54846ad", func := "crossroads/crossroadslaw4.ClauseOrders", spec := "clauseOrders", unfollowed := true, recurses := true, apart := false }
def ClauseOrdersSaid : Prop := clauseOrdersRow.holds Try.pinned (OpenSpec.ofChange clauseOrdersSpec)

/-- ITS FALSE NEIGHBOUR: 'it returns false'. Refute it at one input. -/
def clauseOrdersWrong : ChangeSpec := { name := "clauseOrders", fn := fun _ => fun
  | [d1, d2] => { results := [.lit (.bool false)], args := [d1, d2] }
  | _ => none }
def ClauseOrdersWrongFalsely : Prop := clauseOrdersRow.holds Try.pinned (OpenSpec.ofChange clauseOrdersWrong)

/-- 'crossroadslaw4.ClauseEvals': WHATEVER THE INPUT: true; the input reads as it did. -/
def clauseEvalsSpec : ChangeSpec := { name := "clauseEvals", fn := fun _ => fun
  | [d1, d2, d3] => { results := [.lit (.bool true)], args := [d1, d2, d3] }
  | _ => none }
def clauseEvalsRow : OpenClaim := { program := "ytlfghalebkgclaa", sum := "5fd24e4f66f08d9064ec61319e6df689ba330cbc21a444d7ffec7d87a54846ad", func := "crossroads/crossroadslaw4.ClauseEvals", spec := "clauseEvals", unfollowed := true, recurses := true, apart := false }
def ClauseEvalsSaid : Prop := clauseEvalsRow.holds Try.pinned (OpenSpec.ofChange clauseEvalsSpec)

/-- ITS FALSE NEIGHBOUR: 'it returns false'. Refute it at one input. -/
def clauseEvalsWrong : ChangeSpec := { name := "clauseEvals", fn := fun _ => fun
  | [d1, d2, d3] => { results := [.lit (.bool false)], args := [d1, d2, d3] }
  | _ => none }
def ClauseEvalsWrongFalsely : Prop := clauseEvalsRow.holds Try.pinned (OpenSpec.ofChange clauseEvalsWrong)

/-- 'crossroadslaw4.ClauseAsks': WHATEVER THE INPUT: true; the input reads as it did. -/
def clauseAsksSpec : ChangeSpec := { name := "clauseAsks", fn := fun _ => fun
  | [d1, d2, d3] => { results := [.lit (.bool true)], args := [d1, d2, d3] }
  | _ => none }
def clauseAsksRow : OpenClaim := { program := "ytlfghalebkgclaa", sum := "5fd24e4f66f08d9064ec61319e6df689ba330cbc21a444d7ffec7d87a54846ad", func := "crossroads/crossroadslaw4.ClauseAsks", spec := "clauseAsks", unfollowed := true, recurses := true, apart := false }
def ClauseAsksSaid : Prop := clauseAsksRow.holds Try.pinned (OpenSpec.ofChange clauseAsksSpec)

/-- ITS FALSE NEIGHBOUR: 'it returns false'. Refute it at one input. -/
def clauseAsksWrong : ChangeSpec := { name := "clauseAsks", fn := fun _ => fun
  | [d1, d2, d3] => { results := [.lit (.bool false)], args := [d1, d2, d3] }
  | _ => none }
def ClauseAsksWrongFalsely : Prop := clauseAsksRow.holds Try.pinned (OpenSpec.ofChange clauseAsksWrong)

/-- 'crossroadslaw4.ClauseKnown': WHATEVER THE INPUT: true; the input reads as it did. -/
def clauseKnownSpec : ChangeSpec := { name := "clauseKnown", fn := fun _ => fun
  | [] => { results := [.lit (.bool true)], args := [] }
  | _ => none }
def clauseKnownRow : OpenClaim := { program := "ytlfghalebkgclaa", sum := "5fd24e4f66f08d9064ec61319e6df689ba330cbc21a444d7ffec7d87a54846ad", func := "crossroads/crossroadslaw4.ClauseKnown", spec := "clauseKnown", unfollowed := true, recurses := true, apart := false }
def ClauseKnownSaid : Prop := clauseKnownRow.holds Try.pinned (OpenSpec.ofChange clauseKnownSpec)

/-- ITS FALSE NEIGHBOUR: 'it returns false'. Refute it at one input. -/
def clauseKnownWrong : ChangeSpec := { name := "clauseKnown", fn := fun _ => fun
  | [] => { results := [.lit (.bool false)], args := [] }
  | _ => none }
def ClauseKnownWrongFalsely : Prop := clauseKnownRow.holds Try.pinned (OpenSpec.ofChange clauseKnownWrong)

/-- 'crossroadslaw4.ClausePure': WHATEVER THE INPUT: true; the input reads as it did. -/
def clausePureSpec : ChangeSpec := { name := "clausePure", fn := fun _ => fun
  | [d1, d2, d3] => { results := [.lit (.bool true)], args := [d1, d2, d3] }
  | _ => none }
def clausePureRow : OpenClaim := { program := "ytlfghalebkgclaa", sum := "5fd24e4f66f08d9064ec61319e6df689ba330cbc21a444d7ffec7d87a54846ad", func := "crossroads/crossroadslaw4.ClausePure", spec := "clausePure", unfollowed := true, recurses := true, apart := false }
def ClausePureSaid : Prop := clausePureRow.holds Try.pinned (OpenSpec.ofChange clausePureSpec)

/-- ITS FALSE NEIGHBOUR: 'it returns false'. Refute it at one input. -/
def clausePureWrong : ChangeSpec := { name := "clausePure", fn := fun _ => fun
  | [d1, d2, d3] => { results := [.lit (.bool false)], args := [d1, d2, d3] }
  | _ => none }
def ClausePureWrongFalsely : Prop := clausePureRow.holds Try.pinned (OpenSpec.ofChange clausePureWrong)

/- THE SECOND FORM. 'bulk': how many values and letters a reading holds, each counted each time it is reached (what is shared counts as often as it is met; a slice's spare places count too). A statement '..UptoSaid' is the law's where the arguments, and the package variables that the reading takes, are together of bulk at most 1048576: NARROWER than '..Said'. Prove '..Said' where nothing that the law and all that it calls make is longer than what came in: it says more and counts as full. Else prove '..UptoSaid'. A law counts once. -/
mutual
def uptoBulk {H : Type} : DataW H → Nat
  | .lit (.string bytes) => bytes.length + 1
  | .lit _ => 1
  | .nil => 1
  | .ptr d => uptoBulk d + 1
  | .slice elems spare => uptoBulkAll elems + uptoBulkAll spare + 1
  | .agg parts => uptoBulkAll parts + 1
  | .iface _ d => uptoBulk d + 1
  | .map entries => uptoBulkEntries entries + 1
  | .held _ => 1
def uptoBulkAll {H : Type} : List (DataW H) → Nat
  | [] => 0
  | d :: r => uptoBulk d + uptoBulkAll r
def uptoBulkEntries {H : Type} : List (Lit × DataW H) → Nat
  | [] => 0
  | x :: r => uptoBulkEntry x + uptoBulkEntries r
def uptoBulkEntry {H : Type} : Lit × DataW H → Nat
  | (.string bytes, d) => bytes.length + uptoBulk d + 1
  | (_, d) => uptoBulk d + 1
 end
def uptoSmall : (H : Type) → List (DataW H) → Bool := fun _ ds => decide (uptoBulkAll ds ≤ 1048576)
def OpenSpec.upto (s : _root_.Go.ChangeSpec) : _root_.Go.OpenSpec := { _root_.Go.OpenSpec.ofChange s with cond := some uptoSmall }

/-- 'crossroadslaw4.ClauseNormal', WHERE WHAT IT READS IS OF BULK AT MOST 1048576: true; the input reads as it did. -/
def clauseNormalUptoRow : OpenClaim := { program := "ytlfghalebkgclaa", sum := "5fd24e4f66f08d9064ec61319e6df689ba330cbc21a444d7ffec7d87a54846ad", func := "crossroads/crossroadslaw4.ClauseNormal", spec := "clauseNormal", unfollowed := true, recurses := true, apart := false, narrowed := true }
def ClauseNormalUptoSaid : Prop := clauseNormalUptoRow.holds Try.pinned (OpenSpec.upto clauseNormalSpec)

/-- 'crossroadslaw4.ClauseOrders', WHERE WHAT IT READS IS OF BULK AT MOST 1048576: true; the input reads as it did. -/
def clauseOrdersUptoRow : OpenClaim := { program := "ytlfghalebkgclaa", sum := "5fd24e4f66f08d9064ec61319e6df689ba330cbc21a444d7ffec7d87a54846ad", func := "crossroads/crossroadslaw4.ClauseOrders", spec := "clauseOrders", unfollowed := true, recurses := true, apart := false, narrowed := true }
def ClauseOrdersUptoSaid : Prop := clauseOrdersUptoRow.holds Try.pinned (OpenSpec.upto clauseOrdersSpec)

/-- 'crossroadslaw4.ClauseEvals', WHERE WHAT IT READS IS OF BULK AT MOST 1048576: true; the input reads as it did. -/
def clauseEvalsUptoRow : OpenClaim := { program := "ytlfghalebkgclaa", sum := "5fd24e4f66f08d9064ec61319e6df689ba330cbc21a444d7ffec7d87a54846ad", func := "crossroads/crossroadslaw4.ClauseEvals", spec := "clauseEvals", unfollowed := true, recurses := true, apart := false, narrowed := true }
def ClauseEvalsUptoSaid : Prop := clauseEvalsUptoRow.holds Try.pinned (OpenSpec.upto clauseEvalsSpec)

/-- 'crossroadslaw4.ClauseAsks', WHERE WHAT IT READS IS OF BULK AT MOST 1048576: true; the input reads as it did. -/
def clauseAsksUptoRow : OpenClaim := { program := "ytlfghalebkgclaa", sum := "5fd24e4f66f08d9064ec61319e6df689ba330cbc21a444d7ffec7d87a54846ad", func := "crossroads/crossroadslaw4.ClauseAsks", spec := "clauseAsks", unfollowed := true, recurses := true, apart := false, narrowed := true }
def ClauseAsksUptoSaid : Prop := clauseAsksUptoRow.holds Try.pinned (OpenSpec.upto clauseAsksSpec)

/-- 'crossroadslaw4.ClauseKnown', WHERE WHAT IT READS IS OF BULK AT MOST 1048576: true; the input reads as it did. -/
def clauseKnownUptoRow : OpenClaim := { program := "ytlfghalebkgclaa", sum := "5fd24e4f66f08d9064ec61319e6df689ba330cbc21a444d7ffec7d87a54846ad", func := "crossroads/crossroadslaw4.ClauseKnown", spec := "clauseKnown", unfollowed := true, recurses := true, apart := false, narrowed := true }
def ClauseKnownUptoSaid : Prop := clauseKnownUptoRow.holds Try.pinned (OpenSpec.upto clauseKnownSpec)

/-- 'crossroadslaw4.ClausePure', WHERE WHAT IT READS IS OF BULK AT MOST 1048576: true; the input reads as it did. -/
def clausePureUptoRow : OpenClaim := { program := "ytlfghalebkgclaa", sum := "5fd24e4f66f08d9064ec61319e6df689ba330cbc21a444d7ffec7d87a54846ad", func := "crossroads/crossroadslaw4.ClausePure", spec := "clausePure", unfollowed := true, recurses := true, apart := false, narrowed := true }
def ClausePureUptoSaid : Prop := clausePureUptoRow.holds Try.pinned (OpenSpec.upto clausePureSpec)

end Rows
end Go.Proofs.Ytlfghalebkgclaa
