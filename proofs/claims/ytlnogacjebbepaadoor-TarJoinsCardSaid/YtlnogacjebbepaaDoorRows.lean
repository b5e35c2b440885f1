/-
  NARROWER THAN 'FOR EVERY INPUT', by the rows' own cells (each row's printed sentence says how): TarWrites: laid · TarReads: laid · TarSums: laid · TarJoins: laid · TarBytes: laid.
  DERIVED. THE GIVEN ROWS OF THIS SEAT. 5 by the template 'for every input the law returns true; each argument reads behind the call as it read before'; 0 by the template 'total and deterministic' (their statements: YtlnogacjebbepaaDoorTotals.lean).
  GIVEN WITH THE SEED: the statements are not yours to turn. If you find one false, say at which input.
  Laid BY PROGRAM, IN A SANDBOX (cutbox-rows.mjs): the forced cells as the released guide's own fill.sh prints them over the translation 14aa91042e431643… (all of the seat's roots in one cut). By AI agents, Wed Nov 11 2026. No macro, syntax, notation, axiom, sorry.
-/
import Derived.Test.YtlnogacjebbepaaDoorChecked
import GoSem.PinnedTables
import GoSem.Claim
import GoSem.ClaimJoined
import GoSem.ClaimMapViews
import Derived.JoinedTies
import Derived.KernelRfl
namespace Go.Proofs.YtlnogacjebbepaaDoor
/- THE CELL 'sum', in the pinned program and in every row, IS THE sha256 OF THE DUMP (.gsa) THAT YtlnogacjebbepaaDoorProg.lean LOADS. Nothing in Lean hashes anything: it is a label: what it is worth is what the hold of that sum in a sandbox is worth. -/
noncomputable def Tryd.pinned : Pinned := { name := "ytlnogacjebbepaadoor", sum := "14aa91042e4316435f33aa2576be3e7c8f670673381fa538a5fd468ec76f9f1d", checked := Tryd.checked }
namespace Rows
def none {H : Type} : Left H := { results := [], args := [] }

/- WHAT THE LISTED PACKAGE-LEVEL VARIABLES READ AS WHEN THE CALL BEGINS. Each datum BY PROGRAM (the guide's laid-datum.mjs) off the statement by which the dump's own 'gosem.cut.vars' lays the variable. In a bare row this is a premise. The card (YtlnogacjebbepaaDoorCards.lean) ties it to the program's text. -/
def laid_unicode_utf8_acceptRanges {H : Type} : DataW H := .agg [.agg [.lit (.int .u8 128), .lit (.int .u8 191)], .agg [.lit (.int .u8 160), .lit (.int .u8 191)], .agg [.lit (.int .u8 128), .lit (.int .u8 159)], .agg [.lit (.int .u8 144), .lit (.int .u8 191)], .agg [.lit (.int .u8 128), .lit (.int .u8 143)], .agg [.lit (.int .u8 0), .lit (.int .u8 0)], .agg [.lit (.int .u8 0), .lit (.int .u8 0)], .agg [.lit (.int .u8 0), .lit (.int .u8 0)], .agg [.lit (.int .u8 0), .lit (.int .u8 0)], .agg [.lit (.int .u8 0), .lit (.int .u8 0)], .agg [.lit (.int .u8 0), .lit (.int .u8 0)], .agg [.lit (.int .u8 0), .lit (.int .u8 0)], .agg [.lit (.int .u8 0), .lit (.int .u8 0)], .agg [.lit (.int .u8 0), .lit (.int .u8 0)], .agg [.lit (.int .u8 0), .lit (.int .u8 0)], .agg [.lit (.int .u8 0), .lit (.int .u8 0)]]
/-- One of Go's own tables, pinned by name: the form's constant. -/
def laid_unicode_utf8_first : DataW Unit := Go.Pinned.utf8First

/-- 'crossroadslaw22.TarWrites': WHATEVER THE INPUT: true; the input reads as it did. -/
def tarWritesSpec : ChangeSpec := { name := "tarWrites", fn := fun _ => fun
  | [d] => { results := [.lit (.bool true)], args := [d] }
  | _ => none }
def tarWritesRow : OpenClaim := { program := "ytlnogacjebbepaadoor", sum := "14aa91042e4316435f33aa2576be3e7c8f670673381fa538a5fd468ec76f9f1d", func := "crossroads/crossroadslaw22.TarWrites", spec := "tarWrites", inPlace := ["internal/bytealg.IndexByteString", "internal/bytealg.IndexByte", "internal/bytealg.Index"], named := ["unicode/utf8.first", "unicode/utf8.acceptRanges", "internal/bytealg.MaxLen"], apart := false, laid := [("unicode/utf8.acceptRanges", laid_unicode_utf8_acceptRanges), ("unicode/utf8.first", laid_unicode_utf8_first)] }
def TarWritesSaid : Prop := tarWritesRow.holds Tryd.pinned (OpenSpec.ofChange tarWritesSpec)

/-- ITS FALSE NEIGHBOUR: 'it returns false'. Refute it at one input. -/
def tarWritesWrong : ChangeSpec := { name := "tarWrites", fn := fun _ => fun
  | [d] => { results := [.lit (.bool false)], args := [d] }
  | _ => none }
def TarWritesWrongFalsely : Prop := tarWritesRow.holds Tryd.pinned (OpenSpec.ofChange tarWritesWrong)

/-- 'crossroadslaw22.TarReads': WHATEVER THE INPUT: true; the input reads as it did. -/
def tarReadsSpec : ChangeSpec := { name := "tarReads", fn := fun _ => fun
  | [d] => { results := [.lit (.bool true)], args := [d] }
  | _ => none }
def tarReadsRow : OpenClaim := { program := "ytlnogacjebbepaadoor", sum := "14aa91042e4316435f33aa2576be3e7c8f670673381fa538a5fd468ec76f9f1d", func := "crossroads/crossroadslaw22.TarReads", spec := "tarReads", inPlace := ["internal/bytealg.IndexByteString", "internal/bytealg.IndexByte", "internal/bytealg.Index"], named := ["unicode/utf8.first", "unicode/utf8.acceptRanges", "internal/bytealg.MaxLen"], apart := false, laid := [("unicode/utf8.acceptRanges", laid_unicode_utf8_acceptRanges), ("unicode/utf8.first", laid_unicode_utf8_first)] }
def TarReadsSaid : Prop := tarReadsRow.holds Tryd.pinned (OpenSpec.ofChange tarReadsSpec)

/-- ITS FALSE NEIGHBOUR: 'it returns false'. Refute it at one input. -/
def tarReadsWrong : ChangeSpec := { name := "tarReads", fn := fun _ => fun
  | [d] => { results := [.lit (.bool false)], args := [d] }
  | _ => none }
def TarReadsWrongFalsely : Prop := tarReadsRow.holds Tryd.pinned (OpenSpec.ofChange tarReadsWrong)

/-- 'crossroadslaw22.TarSums': WHATEVER THE INPUT: true; the input reads as it did. -/
def tarSumsSpec : ChangeSpec := { name := "tarSums", fn := fun _ => fun
  | [d1, d2, d3] => { results := [.lit (.bool true)], args := [d1, d2, d3] }
  | _ => none }
def tarSumsRow : OpenClaim := { program := "ytlnogacjebbepaadoor", sum := "14aa91042e4316435f33aa2576be3e7c8f670673381fa538a5fd468ec76f9f1d", func := "crossroads/crossroadslaw22.TarSums", spec := "tarSums", inPlace := ["internal/bytealg.IndexByteString", "internal/bytealg.IndexByte", "internal/bytealg.Index"], named := ["unicode/utf8.first", "unicode/utf8.acceptRanges", "internal/bytealg.MaxLen"], apart := false, laid := [("unicode/utf8.acceptRanges", laid_unicode_utf8_acceptRanges), ("unicode/utf8.first", laid_unicode_utf8_first)] }
def TarSumsSaid : Prop := tarSumsRow.holds Tryd.pinned (OpenSpec.ofChange tarSumsSpec)

/-- ITS FALSE NEIGHBOUR: 'it returns false'. Refute it at one input. -/
def tarSumsWrong : ChangeSpec := { name := "tarSums", fn := fun _ => fun
  | [d1, d2, d3] => { results := [.lit (.bool false)], args := [d1, d2, d3] }
  | _ => none }
def TarSumsWrongFalsely : Prop := tarSumsRow.holds Tryd.pinned (OpenSpec.ofChange tarSumsWrong)

/-- 'crossroadslaw22.TarJoins': WHATEVER THE INPUT: true; the input reads as it did. -/
def tarJoinsSpec : ChangeSpec := { name := "tarJoins", fn := fun _ => fun
  | [d1, d2] => { results := [.lit (.bool true)], args := [d1, d2] }
  | _ => none }
def tarJoinsRow : OpenClaim := { program := "ytlnogacjebbepaadoor", sum := "14aa91042e4316435f33aa2576be3e7c8f670673381fa538a5fd468ec76f9f1d", func := "crossroads/crossroadslaw22.TarJoins", spec := "tarJoins", inPlace := ["internal/bytealg.IndexByteString", "internal/bytealg.IndexByte", "internal/bytealg.Index"], named := ["unicode/utf8.first", "unicode/utf8.acceptRanges", "internal/bytealg.MaxLen"], apart := false, laid := [("unicode/utf8.acceptRanges", laid_unicode_utf8_acceptRanges), ("unicode/utf8.first", laid_unicode_utf8_first)] }
def TarJoinsSaid : Prop := tarJoinsRow.holds Tryd.pinned (OpenSpec.ofChange tarJoinsSpec)

/-- ITS FALSE NEIGHBOUR: 'it returns false'. Refute it at one input. -/
def tarJoinsWrong : ChangeSpec := { name := "tarJoins", fn := fun _ => fun
  | [d1, d2] => { results := [.lit (.bool false)], args := [d1, d2] }
  | _ => none }
def TarJoinsWrongFalsely : Prop := tarJoinsRow.holds Tryd.pinned (OpenSpec.ofChange tarJoinsWrong)

/-- 'crossroadslaw22.TarBytes': WHATEVER THE INPUT: true; the input reads as it did. -/
def tarBytesSpec : ChangeSpec := { name := "tarBytes", fn := fun _ => fun
  | [d1, d2, d3] => { results := [.lit (.bool true)], args := [d1, d2, d3] }
  | _ => none }
def tarBytesRow : OpenClaim := { program := "ytlnogacjebbepaadoor", sum := "14aa91042e4316435f33aa2576be3e7c8f670673381fa538a5fd468ec76f9f1d", func := "crossroads/crossroadslaw22.TarBytes", spec := "tarBytes", inPlace := ["internal/bytealg.IndexByteString", "internal/bytealg.IndexByte", "internal/bytealg.Index"], named := ["unicode/utf8.first", "unicode/utf8.acceptRanges", "internal/bytealg.MaxLen"], apart := false, laid := [("unicode/utf8.acceptRanges", laid_unicode_utf8_acceptRanges), ("unicode/utf8.first", laid_unicode_utf8_first)] }
def TarBytesSaid : Prop := tarBytesRow.holds Tryd.pinned (OpenSpec.ofChange tarBytesSpec)

/-- ITS FALSE NEIGHBOUR: 'it returns false'. Refute it at one input. -/
def tarBytesWrong : ChangeSpec := { name := "tarBytes", fn := fun _ => fun
  | [d1, d2, d3] => { results := [.lit (.bool false)], args := [d1, d2, d3] }
  | _ => none }
def TarBytesWrongFalsely : Prop := tarBytesRow.holds Tryd.pinned (OpenSpec.ofChange tarBytesWrong)

/- THE SECOND FORM. 'bulk': how many values and letters a reading holds, each counted each time it is reached (what is shared counts as often as it is met; a slice's spare places count too). A statement '..UptoSaid' is the law's where the arguments, and the package variables that the reading takes, are together of bulk at most 1048576: NARROWER than '..Said'. Prove '..Said' where nothing that the law and all that it calls make is longer than what came in: it says more and counts as full. Else prove '..UptoSaid'. A law counts once. -/
mutual
def uptoBulk {H : Type} : DataW H → Nat
  | .lit (.string bytes) => bytes.length + 1
  | .lit _ => 1
  | .nil => 1
  | .ptr d => uptoBulk d + 1
  | .slice elems spare => uptoBulkAll elems + uptoBulkAll spare + 1
  | .agg parts => uptoBulkAll parts + 1
  | .iface _ d => uptoBulk d + 1
  | .map entries => uptoBulkEntries entries + 1
  | .held _ => 1
def uptoBulkAll {H : Type} : List (DataW H) → Nat
  | [] => 0
  | d :: r => uptoBulk d + uptoBulkAll r
def uptoBulkEntries {H : Type} : List (Lit × DataW H) → Nat
  | [] => 0
  | x :: r => uptoBulkEntry x + uptoBulkEntries r
def uptoBulkEntry {H : Type} : Lit × DataW H → Nat
  | (.string bytes, d) => bytes.length + uptoBulk d + 1
  | (_, d) => uptoBulk d + 1
 end
def uptoSmall : (H : Type) → List (DataW H) → Bool := fun _ ds => decide (uptoBulkAll ds ≤ 1048576)
def OpenSpec.upto (s : _root_.Go.ChangeSpec) : _root_.Go.OpenSpec := { _root_.Go.OpenSpec.ofChange s with cond := some uptoSmall }

/-- 'crossroadslaw22.TarWrites', WHERE WHAT IT READS IS OF BULK AT MOST 1048576: true; the input reads as it did. -/
def tarWritesUptoRow : OpenClaim := { program := "ytlnogacjebbepaadoor", sum := "14aa91042e4316435f33aa2576be3e7c8f670673381fa538a5fd468ec76f9f1d", func := "crossroads/crossroadslaw22.TarWrites", spec := "tarWrites", inPlace := ["internal/bytealg.IndexByteString", "internal/bytealg.IndexByte", "internal/bytealg.Index"], named := ["unicode/utf8.first", "unicode/utf8.acceptRanges", "internal/bytealg.MaxLen"], apart := false, laid := [("unicode/utf8.acceptRanges", laid_unicode_utf8_acceptRanges), ("unicode/utf8.first", laid_unicode_utf8_first)], narrowed := true }
def TarWritesUptoSaid : Prop := tarWritesUptoRow.holds Tryd.pinned (OpenSpec.upto tarWritesSpec)

/-- 'crossroadslaw22.TarReads', WHERE WHAT IT READS IS OF BULK AT MOST 1048576: true; the input reads as it did. -/
def tarReadsUptoRow : OpenClaim := { program := "ytlnogacjebbepaadoor", sum := "14aa91042e4316435f33aa2576be3e7c8f670673381fa538a5fd468ec76f9f1d", func := "crossroads/crossroadslaw22.TarReads", spec := "tarReads", inPlace := ["internal/bytealg.IndexByteString", "internal/bytealg.IndexByte", "internal/bytealg.Index"], named := ["unicode/utf8.first", "unicode/utf8.acceptRanges", "internal/bytealg.MaxLen"], apart := false, laid := [("unicode/utf8.acceptRanges", laid_unicode_utf8_acceptRanges), ("unicode/utf8.first", laid_unicode_utf8_first)], narrowed := true }
def TarReadsUptoSaid : Prop := tarReadsUptoRow.holds Tryd.pinned (OpenSpec.upto tarReadsSpec)

/-- 'crossroadslaw22.TarSums', WHERE WHAT IT READS IS OF BULK AT MOST 1048576: true; the input reads as it did. -/
def tarSumsUptoRow : OpenClaim := { program := "ytlnogacjebbepaadoor", sum := "14aa91042e4316435f33aa2576be3e7c8f670673381fa538a5fd468ec76f9f1d", func := "crossroads/crossroadslaw22.TarSums", spec := "tarSums", inPlace := ["internal/bytealg.IndexByteString", "internal/bytealg.IndexByte", "internal/bytealg.Index"], named := ["unicode/utf8.first", "unicode/utf8.acceptRanges", "internal/bytealg.MaxLen"], apart := false, laid := [("unicode/utf8.acceptRanges", laid_unicode_utf8_acceptRanges), ("unicode/utf8.first", laid_unicode_utf8_first)], narrowed := true }
def TarSumsUptoSaid : Prop := tarSumsUptoRow.holds Tryd.pinned (OpenSpec.upto tarSumsSpec)

/-- 'crossroadslaw22.TarJoins', WHERE WHAT IT READS IS OF BULK AT MOST 1048576: true; the input reads as it did. -/
def tarJoinsUptoRow : OpenClaim := { program := "ytlnogacjebbepaadoor", sum := "14aa91042e4316435f33aa2576be3e7c8f670673381fa538a5fd468ec76f9f1d", func := "crossroads/crossroadslaw22.TarJoins", spec := "tarJoins", inPlace := ["internal/bytealg.IndexByteString", "internal/bytealg.IndexByte", "internal/bytealg.Index"], named := ["unicode/utf8.first", "unicode/utf8.acceptRanges", "internal/bytealg.MaxLen"], apart := false, laid := [("unicode/utf8.acceptRanges", laid_unicode_utf8_acceptRanges), ("unicode/utf8.first", laid_unicode_utf8_first)], narrowed := true }
def TarJoinsUptoSaid : Prop := tarJoinsUptoRow.holds Tryd.pinned (OpenSpec.upto tarJoinsSpec)

/-- 'crossroadslaw22.TarBytes', WHERE WHAT IT READS IS OF BULK AT MOST 1048576: true; the input reads as it did. -/
def tarBytesUptoRow : OpenClaim := { program := "ytlnogacjebbepaadoor", sum := "14aa91042e4316435f33aa2576be3e7c8f670673381fa538a5fd468ec76f9f1d", func := "crossroads/crossroadslaw22.TarBytes", spec := "tarBytes", inPlace := ["internal/bytealg.IndexByteString", "internal/bytealg.IndexByte", "internal/bytealg.Index"], named := ["unicode/utf8.first", "unicode/utf8.acceptRanges", "internal/bytealg.MaxLen"], apart := false, laid := [("unicode/utf8.acceptRanges", laid_unicode_utf8_acceptRanges), ("unicode/utf8.first", laid_unicode_utf8_first)], narrowed := true }
def TarBytesUptoSaid : Prop := tarBytesUptoRow.holds Tryd.pinned (OpenSpec.upto tarBytesSpec)

end Rows
end Go.Proofs.YtlnogacjebbepaaDoor
