/- InstKnows: what is kept, walked call by call. -/
import Derived.Test.YtpkdmnjonfophaaDoorInstF
import Derived.Below
import Derived.Deep.Draws
import Derived.Deep.AppendLies
import Derived.Maps.AppendAt
import Derived.OwnWalk
import Derived.Laws.BytesArg
import Derived.Laws.MakeOwn
import Derived.Laws.OwnMore
import Derived.Deep.OwnRows
import Derived.Tactics
import Derived.Lib.ConvBytes
import Derived.Laws.Slices
import Derived.WalkKit
import Derived.WalkSpells
import Derived.KernelRfl
import Derived.RowKit3
import Derived.Deep.LoopGhost
import Derived.Deep.QuietTactic
import Derived.BigQuiet
import Derived.WideLaws
import Derived.Deep.DeepCutAuto
import Derived.Deep.CutBlock
import Derived.Deep.RegionHeld3
import Derived.Laws.Rows
import Derived.Lib.AppendStr
import Derived.ArgAppend
import Derived.Laws.IdiomCopy
import Derived.OrdersHeld
import Derived.Laws.BitsLemmas
import Derived.RowKit
namespace Go.Proofs.YtpkdmnjonfophaaDoor.I
set_option linter.unusedVariables false
set_option linter.unusedSimpArgs false
open Go.RowKit
abbrev StI (b : Nat) (op x : Int) (w W : World) : Prop := W.cell? ⟨b, 0, none⟩ = some (.int .i64 op) ∧ W.cell? ⟨b, 1, none⟩ = some (.int .i64 x) ∧ (b < W.heap.size ∧ Below w.heap.size w W)
theorem keepC {b : Nat} {op x : Int} {w W W' : World} (h : W.cell? ⟨b, 0, none⟩ = some (.int .i64 op) ∧ W.cell? ⟨b, 1, none⟩ = some (.int .i64 x) ∧ (b < W.heap.size ∧ Below w.heap.size w W)) (hB : Below W.heap.size W W') : W'.cell? ⟨b, 0, none⟩ = some (.int .i64 op) ∧ W'.cell? ⟨b, 1, none⟩ = some (.int .i64 x) ∧ (b < W'.heap.size ∧ Below w.heap.size w W') :=
  ⟨(hB.cell (p := ⟨b, 0, none⟩) h.2.2.1).trans h.1, (hB.cell (p := ⟨b, 1, none⟩) h.2.2.1).trans h.2.1, Nat.lt_of_lt_of_le h.2.2.1 hB.size, h.2.2.2.trans (hB.mono h.2.2.2.size)⟩
theorem ch {w W W' : World} (hB : Below W.heap.size W W') (h : Below w.heap.size w W) : Below w.heap.size w W' := h.trans (hB.mono h.size)
structure Nr (b : Nat) (op x : Int) (w : World) where
  W : World
  lt : b < W.heap.size
  c0 : W.cell? ⟨b, 0, none⟩ = some (.int .i64 op)
  c1 : W.cell? ⟨b, 1, none⟩ = some (.int .i64 x)
  bel : Below w.heap.size w W
def Nr.go {b : Nat} {op x : Int} {w : World} (p : Nr b op x w) (W' : World) (hB : Below p.W.heap.size p.W W') : Nr b op x w :=
  ⟨W', Nat.lt_of_lt_of_le p.lt hB.size, (hB.cell (p := ⟨b, 0, none⟩) p.lt).trans p.c0, (hB.cell (p := ⟨b, 1, none⟩) p.lt).trans p.c1, p.bel.trans (hB.mono p.bel.size)⟩
theorem wp_region_nr {P : Program} {id : Nat} {Q : Exit → Act → World → Prop} {a : Act} {w0 W : World} {b : Nat} {op x : Int} {l : List Oper} (p0 : Nr b op x w0) (hp : p0.W = W) (hm : P.follows .mixedOrders = true) (hB : Region.lexB .any l.toArray = true)
    (h : wpQuiet P l.toArray (fun w' => ∃ p : Nr b op x w0, w' = p.W) (fun a' => ∀ w', (∃ p : Nr b op x w0, w' = p.W) → Q .normal a' w') l a) : (Code.region id l.toArray true).wp P Q a W :=
  wp_region_quiet (C := fun w' => ∃ p : Nr b op x w0, w' = p.W) hm hB ⟨⟨W.drew, hp ▸ p0.lt, hp ▸ p0.c0, hp ▸ p0.c1, hp ▸ p0.bel.drew⟩, rfl⟩ (by simpa using h)
theorem nr_calls {P : Program} {f : Nat} {args : Array Value} {b : Nat} {op x : Int} {w : World} {p : Nr b op x w} {v : Value} (h : Calls P f args p.W fun e w' => e = .returned v ∧ Below p.W.heap.size p.W w') : Calls P f args p.W fun e w'' => e = .returned v ∧ ∃ p' : Nr b op x w, w'' = p'.W :=
  h.mono fun e w' ⟨he, hB⟩ => ⟨he, p.go w' hB, rfl⟩
theorem keepZ {b : Nat} {op x : Int} {w W : World} (h : W.cell? ⟨b, 0, none⟩ = some (.int .i64 op)) (h1 : W.cell? ⟨b, 1, none⟩ = some (.int .i64 x)) (h2 : b < W.heap.size) (h3 : Below w.heap.size w W) : W.drew.cell? ⟨b, 0, none⟩ = some (.int .i64 op) ∧ W.drew.cell? ⟨b, 1, none⟩ = some (.int .i64 x) ∧ (b < W.drew.heap.size ∧ Below w.heap.size w W.drew) :=
  ⟨h, h1, h2, h3.drew⟩
theorem ht3 {b : Nat} {op x : Int} {w W : World} (H : HT w) (h : W.cell? ⟨b, 0, none⟩ = some (.int .i64 op) ∧ W.cell? ⟨b, 1, none⟩ = some (.int .i64 x) ∧ (b < W.heap.size ∧ Below w.heap.size w W)) : HT W := H.below h.2.2.2
end Go.Proofs.YtpkdmnjonfophaaDoor.I
