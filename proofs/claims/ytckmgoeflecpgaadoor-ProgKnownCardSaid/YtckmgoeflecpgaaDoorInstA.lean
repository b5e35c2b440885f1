/- The table of instructions, walked by hand: each number, and none. -/
import Derived.Test.YtckmgoeflecpgaaDoorProg
import Derived.Below
import Derived.Deep.Draws
import Derived.Deep.AppendLies
import Derived.Maps.AppendAt
import Derived.OwnWalk
import Derived.Laws.BytesArg
import Derived.Laws.MakeOwn
import Derived.Laws.OwnMore
import Derived.Deep.OwnRows
import Derived.Tactics
import Derived.Lib.ConvBytes
import Derived.Laws.Slices
import Derived.WalkKit
import Derived.WalkSpells
import Derived.KernelRfl
import Derived.RowKit3
import Derived.Deep.LoopGhost
import Derived.Deep.QuietTactic
import Derived.BigQuiet
import Derived.WideLaws
import Derived.Deep.DeepCutAuto
import Derived.Deep.CutBlock
import Derived.Deep.RegionHeld3
import Derived.Laws.Rows
import Derived.Lib.AppendStr
import Derived.ArgAppend
import Derived.Laws.IdiomCopy
import Derived.OrdersHeld
import Derived.Laws.BitsLemmas
import Derived.RowKit
namespace Go.Proofs.YtckmgoeflecpgaaDoor.I
set_option linter.unusedVariables false
set_option linter.unusedSimpArgs false
open Go.RowKit
structure Aside (p : Prop) : Prop where
  mk ::
  out : p
def kinds : List (Int × Int × Int) := [(0, 1, 65536), (1, 0, 1), (1, 2, 1), (2, 2, 1), (2, 1, 1), (2, 1, 1), (2, 1, 1), (2, 1, 1), (2, 1, 1), (2, 1, 1), (2, 1, 1), (2, 1, 1), (2, 1, 1), (2, 1, 1), (2, 1, 1), (2, 1, 1), (1, 1, 1), (0, 1, 8), (1, 0, 8), (1, 1, 1), (2, 0, 1), (0, 0, 96), (1, 0, 96), (1, 0, 1), (1, 0, 1), (1, 0, 1), (0, 1, 8), (1, 1, 1), (3, 1, 1), (3, 1, 1), (2, 1, 1), (1, 1, 1), (0, 1, 8), (0, 1, 64), (0, 1, 8), (0, 1, 8), (0, 1, 8), (2, 1, 1), (1, 1, 1), (0, 1, 1), (2, 1, 1)]
def names : List ByteArray := [⟨#[112, 117, 115, 104]⟩, ⟨#[112, 111, 112]⟩, ⟨#[100, 117, 112]⟩, ⟨#[115, 119, 97, 112]⟩, ⟨#[97, 100, 100]⟩, ⟨#[115, 117, 98]⟩, ⟨#[109, 117, 108]⟩, ⟨#[100, 105, 118]⟩, ⟨#[109, 111, 100]⟩, ⟨#[97, 110, 100]⟩, ⟨#[111, 114]⟩, ⟨#[120, 111, 114]⟩, ⟨#[115, 104, 108]⟩, ⟨#[115, 104, 114]⟩, ⟨#[101, 113]⟩, ⟨#[108, 116]⟩, ⟨#[110, 111, 116]⟩, ⟨#[103, 101, 116]⟩, ⟨#[115, 101, 116]⟩, ⟨#[108, 111, 97, 100]⟩, ⟨#[115, 116, 111, 114, 101]⟩, ⟨#[106, 117, 109, 112]⟩, ⟨#[122, 101, 114, 111]⟩, ⟨#[111, 117, 116]⟩, ⟨#[97, 115, 115, 101, 114, 116]⟩, ⟨#[101, 120, 105, 116]⟩, ⟨#[111, 112, 101, 110]⟩, ⟨#[99, 108, 111, 115, 101]⟩, ⟨#[114, 101, 97, 100]⟩, ⟨#[119, 114, 105, 116, 101]⟩, ⟨#[115, 101, 101, 107]⟩, ⟨#[115, 105, 122, 101]⟩, ⟨#[117, 110, 108, 105, 110, 107]⟩, ⟨#[114, 101, 110, 97, 109, 101]⟩, ⟨#[109, 107, 100, 105, 114]⟩, ⟨#[114, 109, 100, 105, 114]⟩, ⟨#[108, 105, 115, 116]⟩, ⟨#[116, 114, 117, 110, 99]⟩, ⟨#[116, 119, 105, 110]⟩, ⟨#[97, 114, 103, 99]⟩, ⟨#[97, 114, 103]⟩]
def inR (op : Int) : Bool := decide (1 ≤ op) && decide (op ≤ 41)
def kindOf (op : Int) : Int × Int × Int := if inR op = true then kinds.getD (op - 1).toNat (0, 0, 0) else (0, 0, 0)
def nameOf (op : Int) : ByteArray := if inR op = true then names.getD (op - 1).toNat ⟨#[]⟩ else ⟨#[]⟩
def takesB (op : Int) : Int := if inR op = true then (kindOf op).1 else -1
def givesB (op : Int) : Int := if inR op = true then (kindOf op).2.1 else -1
def mostB (op : Int) : Int := if inR op = true then (kindOf op).2.2 - 1 else -1
def mayI (op a : Int) : Bool := inR op && (decide (0 ≤ a) && decide (a < (kindOf op).2.2))
theorem op_cases (op : Int) : (∃ k : Nat, k < 41 ∧ op = (k : Int) + 1) ∨ inR op = false := by
  by_cases h : 1 ≤ op ∧ op ≤ 41
  · exact .inl ⟨(op - 1).toNat, by omega, by omega⟩
  · refine .inr ?_
    unfold inR
    rw [Bool.and_eq_false_iff]
    by_cases h1 : 1 ≤ op
    · exact .inr (decide_eq_false (by omega))
    · exact .inl (decide_eq_false h1)
theorem tab_1 (w : World) : Calls Tryd.prog 33 #[.int .i64 1] w fun e w' => e = .returned (.tuple #[.agg #[.int .i64 0, .int .i64 1, .int .i64 65536], .bool true]) ∧ Below w.heap.size w w' := by
  go_enter Tryd.func33, Tryd.ntmps33
  go_wp2
  refine bodyPost_ret (v := .tuple #[.agg #[.int .i64 0, .int .i64 1, .int .i64 65536], .bool true]) (by simp [results, Tryd.results33, go_sem]) rfl ⟨rfl, (Below.refl _ _).alloc (Nat.le_refl _) _⟩
theorem tab_2 (w : World) : Calls Tryd.prog 33 #[.int .i64 2] w fun e w' => e = .returned (.tuple #[.agg #[.int .i64 1, .int .i64 0, .int .i64 1], .bool true]) ∧ Below w.heap.size w w' := by
  go_enter Tryd.func33, Tryd.ntmps33
  go_wp2
  refine bodyPost_ret (v := .tuple #[.agg #[.int .i64 1, .int .i64 0, .int .i64 1], .bool true]) (by simp [results, Tryd.results33, go_sem]) rfl ⟨rfl, (Below.refl _ _).alloc (Nat.le_refl _) _⟩
theorem tab_3 (w : World) : Calls Tryd.prog 33 #[.int .i64 3] w fun e w' => e = .returned (.tuple #[.agg #[.int .i64 1, .int .i64 2, .int .i64 1], .bool true]) ∧ Below w.heap.size w w' := by
  go_enter Tryd.func33, Tryd.ntmps33
  go_wp2
  refine bodyPost_ret (v := .tuple #[.agg #[.int .i64 1, .int .i64 2, .int .i64 1], .bool true]) (by simp [results, Tryd.results33, go_sem]) rfl ⟨rfl, (Below.refl _ _).alloc (Nat.le_refl _) _⟩
theorem tab_4 (w : World) : Calls Tryd.prog 33 #[.int .i64 4] w fun e w' => e = .returned (.tuple #[.agg #[.int .i64 2, .int .i64 2, .int .i64 1], .bool true]) ∧ Below w.heap.size w w' := by
  go_enter Tryd.func33, Tryd.ntmps33
  go_wp2
  refine bodyPost_ret (v := .tuple #[.agg #[.int .i64 2, .int .i64 2, .int .i64 1], .bool true]) (by simp [results, Tryd.results33, go_sem]) rfl ⟨rfl, (Below.refl _ _).alloc (Nat.le_refl _) _⟩
theorem tab_5 (w : World) : Calls Tryd.prog 33 #[.int .i64 5] w fun e w' => e = .returned (.tuple #[.agg #[.int .i64 2, .int .i64 1, .int .i64 1], .bool true]) ∧ Below w.heap.size w w' := by
  go_enter Tryd.func33, Tryd.ntmps33
  go_wp2
  refine bodyPost_ret (v := .tuple #[.agg #[.int .i64 2, .int .i64 1, .int .i64 1], .bool true]) (by simp [results, Tryd.results33, go_sem]) rfl ⟨rfl, (Below.refl _ _).alloc (Nat.le_refl _) _⟩
theorem tab_6 (w : World) : Calls Tryd.prog 33 #[.int .i64 6] w fun e w' => e = .returned (.tuple #[.agg #[.int .i64 2, .int .i64 1, .int .i64 1], .bool true]) ∧ Below w.heap.size w w' := by
  go_enter Tryd.func33, Tryd.ntmps33
  go_wp2
  refine bodyPost_ret (v := .tuple #[.agg #[.int .i64 2, .int .i64 1, .int .i64 1], .bool true]) (by simp [results, Tryd.results33, go_sem]) rfl ⟨rfl, (Below.refl _ _).alloc (Nat.le_refl _) _⟩
theorem tab_7 (w : World) : Calls Tryd.prog 33 #[.int .i64 7] w fun e w' => e = .returned (.tuple #[.agg #[.int .i64 2, .int .i64 1, .int .i64 1], .bool true]) ∧ Below w.heap.size w w' := by
  go_enter Tryd.func33, Tryd.ntmps33
  go_wp2
  refine bodyPost_ret (v := .tuple #[.agg #[.int .i64 2, .int .i64 1, .int .i64 1], .bool true]) (by simp [results, Tryd.results33, go_sem]) rfl ⟨rfl, (Below.refl _ _).alloc (Nat.le_refl _) _⟩
theorem tab_8 (w : World) : Calls Tryd.prog 33 #[.int .i64 8] w fun e w' => e = .returned (.tuple #[.agg #[.int .i64 2, .int .i64 1, .int .i64 1], .bool true]) ∧ Below w.heap.size w w' := by
  go_enter Tryd.func33, Tryd.ntmps33
  go_wp2
  refine bodyPost_ret (v := .tuple #[.agg #[.int .i64 2, .int .i64 1, .int .i64 1], .bool true]) (by simp [results, Tryd.results33, go_sem]) rfl ⟨rfl, (Below.refl _ _).alloc (Nat.le_refl _) _⟩
theorem tab_9 (w : World) : Calls Tryd.prog 33 #[.int .i64 9] w fun e w' => e = .returned (.tuple #[.agg #[.int .i64 2, .int .i64 1, .int .i64 1], .bool true]) ∧ Below w.heap.size w w' := by
  go_enter Tryd.func33, Tryd.ntmps33
  go_wp2
  refine bodyPost_ret (v := .tuple #[.agg #[.int .i64 2, .int .i64 1, .int .i64 1], .bool true]) (by simp [results, Tryd.results33, go_sem]) rfl ⟨rfl, (Below.refl _ _).alloc (Nat.le_refl _) _⟩
theorem tab_10 (w : World) : Calls Tryd.prog 33 #[.int .i64 10] w fun e w' => e = .returned (.tuple #[.agg #[.int .i64 2, .int .i64 1, .int .i64 1], .bool true]) ∧ Below w.heap.size w w' := by
  go_enter Tryd.func33, Tryd.ntmps33
  go_wp2
  refine bodyPost_ret (v := .tuple #[.agg #[.int .i64 2, .int .i64 1, .int .i64 1], .bool true]) (by simp [results, Tryd.results33, go_sem]) rfl ⟨rfl, (Below.refl _ _).alloc (Nat.le_refl _) _⟩
theorem tab_11 (w : World) : Calls Tryd.prog 33 #[.int .i64 11] w fun e w' => e = .returned (.tuple #[.agg #[.int .i64 2, .int .i64 1, .int .i64 1], .bool true]) ∧ Below w.heap.size w w' := by
  go_enter Tryd.func33, Tryd.ntmps33
  go_wp2
  refine bodyPost_ret (v := .tuple #[.agg #[.int .i64 2, .int .i64 1, .int .i64 1], .bool true]) (by simp [results, Tryd.results33, go_sem]) rfl ⟨rfl, (Below.refl _ _).alloc (Nat.le_refl _) _⟩
theorem tab_12 (w : World) : Calls Tryd.prog 33 #[.int .i64 12] w fun e w' => e = .returned (.tuple #[.agg #[.int .i64 2, .int .i64 1, .int .i64 1], .bool true]) ∧ Below w.heap.size w w' := by
  go_enter Tryd.func33, Tryd.ntmps33
  go_wp2
  refine bodyPost_ret (v := .tuple #[.agg #[.int .i64 2, .int .i64 1, .int .i64 1], .bool true]) (by simp [results, Tryd.results33, go_sem]) rfl ⟨rfl, (Below.refl _ _).alloc (Nat.le_refl _) _⟩
theorem tab_13 (w : World) : Calls Tryd.prog 33 #[.int .i64 13] w fun e w' => e = .returned (.tuple #[.agg #[.int .i64 2, .int .i64 1, .int .i64 1], .bool true]) ∧ Below w.heap.size w w' := by
  go_enter Tryd.func33, Tryd.ntmps33
  go_wp2
  refine bodyPost_ret (v := .tuple #[.agg #[.int .i64 2, .int .i64 1, .int .i64 1], .bool true]) (by simp [results, Tryd.results33, go_sem]) rfl ⟨rfl, (Below.refl _ _).alloc (Nat.le_refl _) _⟩
theorem tab_14 (w : World) : Calls Tryd.prog 33 #[.int .i64 14] w fun e w' => e = .returned (.tuple #[.agg #[.int .i64 2, .int .i64 1, .int .i64 1], .bool true]) ∧ Below w.heap.size w w' := by
  go_enter Tryd.func33, Tryd.ntmps33
  go_wp2
  refine bodyPost_ret (v := .tuple #[.agg #[.int .i64 2, .int .i64 1, .int .i64 1], .bool true]) (by simp [results, Tryd.results33, go_sem]) rfl ⟨rfl, (Below.refl _ _).alloc (Nat.le_refl _) _⟩
theorem tab_15 (w : World) : Calls Tryd.prog 33 #[.int .i64 15] w fun e w' => e = .returned (.tuple #[.agg #[.int .i64 2, .int .i64 1, .int .i64 1], .bool true]) ∧ Below w.heap.size w w' := by
  go_enter Tryd.func33, Tryd.ntmps33
  go_wp2
  refine bodyPost_ret (v := .tuple #[.agg #[.int .i64 2, .int .i64 1, .int .i64 1], .bool true]) (by simp [results, Tryd.results33, go_sem]) rfl ⟨rfl, (Below.refl _ _).alloc (Nat.le_refl _) _⟩
theorem tab_16 (w : World) : Calls Tryd.prog 33 #[.int .i64 16] w fun e w' => e = .returned (.tuple #[.agg #[.int .i64 2, .int .i64 1, .int .i64 1], .bool true]) ∧ Below w.heap.size w w' := by
  go_enter Tryd.func33, Tryd.ntmps33
  go_wp2
  refine bodyPost_ret (v := .tuple #[.agg #[.int .i64 2, .int .i64 1, .int .i64 1], .bool true]) (by simp [results, Tryd.results33, go_sem]) rfl ⟨rfl, (Below.refl _ _).alloc (Nat.le_refl _) _⟩
theorem tab_17 (w : World) : Calls Tryd.prog 33 #[.int .i64 17] w fun e w' => e = .returned (.tuple #[.agg #[.int .i64 1, .int .i64 1, .int .i64 1], .bool true]) ∧ Below w.heap.size w w' := by
  go_enter Tryd.func33, Tryd.ntmps33
  go_wp2
  refine bodyPost_ret (v := .tuple #[.agg #[.int .i64 1, .int .i64 1, .int .i64 1], .bool true]) (by simp [results, Tryd.results33, go_sem]) rfl ⟨rfl, (Below.refl _ _).alloc (Nat.le_refl _) _⟩
theorem tab_18 (w : World) : Calls Tryd.prog 33 #[.int .i64 18] w fun e w' => e = .returned (.tuple #[.agg #[.int .i64 0, .int .i64 1, .int .i64 8], .bool true]) ∧ Below w.heap.size w w' := by
  go_enter Tryd.func33, Tryd.ntmps33
  go_wp2
  refine bodyPost_ret (v := .tuple #[.agg #[.int .i64 0, .int .i64 1, .int .i64 8], .bool true]) (by simp [results, Tryd.results33, go_sem]) rfl ⟨rfl, (Below.refl _ _).alloc (Nat.le_refl _) _⟩
theorem tab_19 (w : World) : Calls Tryd.prog 33 #[.int .i64 19] w fun e w' => e = .returned (.tuple #[.agg #[.int .i64 1, .int .i64 0, .int .i64 8], .bool true]) ∧ Below w.heap.size w w' := by
  go_enter Tryd.func33, Tryd.ntmps33
  go_wp2
  refine bodyPost_ret (v := .tuple #[.agg #[.int .i64 1, .int .i64 0, .int .i64 8], .bool true]) (by simp [results, Tryd.results33, go_sem]) rfl ⟨rfl, (Below.refl _ _).alloc (Nat.le_refl _) _⟩
theorem tab_20 (w : World) : Calls Tryd.prog 33 #[.int .i64 20] w fun e w' => e = .returned (.tuple #[.agg #[.int .i64 1, .int .i64 1, .int .i64 1], .bool true]) ∧ Below w.heap.size w w' := by
  go_enter Tryd.func33, Tryd.ntmps33
  go_wp2
  refine bodyPost_ret (v := .tuple #[.agg #[.int .i64 1, .int .i64 1, .int .i64 1], .bool true]) (by simp [results, Tryd.results33, go_sem]) rfl ⟨rfl, (Below.refl _ _).alloc (Nat.le_refl _) _⟩
theorem tab_21 (w : World) : Calls Tryd.prog 33 #[.int .i64 21] w fun e w' => e = .returned (.tuple #[.agg #[.int .i64 2, .int .i64 0, .int .i64 1], .bool true]) ∧ Below w.heap.size w w' := by
  go_enter Tryd.func33, Tryd.ntmps33
  go_wp2
  refine bodyPost_ret (v := .tuple #[.agg #[.int .i64 2, .int .i64 0, .int .i64 1], .bool true]) (by simp [results, Tryd.results33, go_sem]) rfl ⟨rfl, (Below.refl _ _).alloc (Nat.le_refl _) _⟩
theorem tab_22 (w : World) : Calls Tryd.prog 33 #[.int .i64 22] w fun e w' => e = .returned (.tuple #[.agg #[.int .i64 0, .int .i64 0, .int .i64 96], .bool true]) ∧ Below w.heap.size w w' := by
  go_enter Tryd.func33, Tryd.ntmps33
  go_wp2
  refine bodyPost_ret (v := .tuple #[.agg #[.int .i64 0, .int .i64 0, .int .i64 96], .bool true]) (by simp [results, Tryd.results33, go_sem]) rfl ⟨rfl, (Below.refl _ _).alloc (Nat.le_refl _) _⟩
theorem tab_23 (w : World) : Calls Tryd.prog 33 #[.int .i64 23] w fun e w' => e = .returned (.tuple #[.agg #[.int .i64 1, .int .i64 0, .int .i64 96], .bool true]) ∧ Below w.heap.size w w' := by
  go_enter Tryd.func33, Tryd.ntmps33
  go_wp2
  refine bodyPost_ret (v := .tuple #[.agg #[.int .i64 1, .int .i64 0, .int .i64 96], .bool true]) (by simp [results, Tryd.results33, go_sem]) rfl ⟨rfl, (Below.refl _ _).alloc (Nat.le_refl _) _⟩
theorem tab_24 (w : World) : Calls Tryd.prog 33 #[.int .i64 24] w fun e w' => e = .returned (.tuple #[.agg #[.int .i64 1, .int .i64 0, .int .i64 1], .bool true]) ∧ Below w.heap.size w w' := by
  go_enter Tryd.func33, Tryd.ntmps33
  go_wp2
  refine bodyPost_ret (v := .tuple #[.agg #[.int .i64 1, .int .i64 0, .int .i64 1], .bool true]) (by simp [results, Tryd.results33, go_sem]) rfl ⟨rfl, (Below.refl _ _).alloc (Nat.le_refl _) _⟩
theorem tab_25 (w : World) : Calls Tryd.prog 33 #[.int .i64 25] w fun e w' => e = .returned (.tuple #[.agg #[.int .i64 1, .int .i64 0, .int .i64 1], .bool true]) ∧ Below w.heap.size w w' := by
  go_enter Tryd.func33, Tryd.ntmps33
  go_wp2
  refine bodyPost_ret (v := .tuple #[.agg #[.int .i64 1, .int .i64 0, .int .i64 1], .bool true]) (by simp [results, Tryd.results33, go_sem]) rfl ⟨rfl, (Below.refl _ _).alloc (Nat.le_refl _) _⟩
theorem tab_26 (w : World) : Calls Tryd.prog 33 #[.int .i64 26] w fun e w' => e = .returned (.tuple #[.agg #[.int .i64 1, .int .i64 0, .int .i64 1], .bool true]) ∧ Below w.heap.size w w' := by
  go_enter Tryd.func33, Tryd.ntmps33
  go_wp2
  refine bodyPost_ret (v := .tuple #[.agg #[.int .i64 1, .int .i64 0, .int .i64 1], .bool true]) (by simp [results, Tryd.results33, go_sem]) rfl ⟨rfl, (Below.refl _ _).alloc (Nat.le_refl _) _⟩
theorem tab_27 (w : World) : Calls Tryd.prog 33 #[.int .i64 27] w fun e w' => e = .returned (.tuple #[.agg #[.int .i64 0, .int .i64 1, .int .i64 8], .bool true]) ∧ Below w.heap.size w w' := by
  go_enter Tryd.func33, Tryd.ntmps33
  go_wp2
  refine bodyPost_ret (v := .tuple #[.agg #[.int .i64 0, .int .i64 1, .int .i64 8], .bool true]) (by simp [results, Tryd.results33, go_sem]) rfl ⟨rfl, (Below.refl _ _).alloc (Nat.le_refl _) _⟩
theorem tab_28 (w : World) : Calls Tryd.prog 33 #[.int .i64 28] w fun e w' => e = .returned (.tuple #[.agg #[.int .i64 1, .int .i64 1, .int .i64 1], .bool true]) ∧ Below w.heap.size w w' := by
  go_enter Tryd.func33, Tryd.ntmps33
  go_wp2
  refine bodyPost_ret (v := .tuple #[.agg #[.int .i64 1, .int .i64 1, .int .i64 1], .bool true]) (by simp [results, Tryd.results33, go_sem]) rfl ⟨rfl, (Below.refl _ _).alloc (Nat.le_refl _) _⟩
theorem tab_29 (w : World) : Calls Tryd.prog 33 #[.int .i64 29] w fun e w' => e = .returned (.tuple #[.agg #[.int .i64 3, .int .i64 1, .int .i64 1], .bool true]) ∧ Below w.heap.size w w' := by
  go_enter Tryd.func33, Tryd.ntmps33
  go_wp2
  refine bodyPost_ret (v := .tuple #[.agg #[.int .i64 3, .int .i64 1, .int .i64 1], .bool true]) (by simp [results, Tryd.results33, go_sem]) rfl ⟨rfl, (Below.refl _ _).alloc (Nat.le_refl _) _⟩
theorem tab_30 (w : World) : Calls Tryd.prog 33 #[.int .i64 30] w fun e w' => e = .returned (.tuple #[.agg #[.int .i64 3, .int .i64 1, .int .i64 1], .bool true]) ∧ Below w.heap.size w w' := by
  go_enter Tryd.func33, Tryd.ntmps33
  go_wp2
  refine bodyPost_ret (v := .tuple #[.agg #[.int .i64 3, .int .i64 1, .int .i64 1], .bool true]) (by simp [results, Tryd.results33, go_sem]) rfl ⟨rfl, (Below.refl _ _).alloc (Nat.le_refl _) _⟩
theorem tab_31 (w : World) : Calls Tryd.prog 33 #[.int .i64 31] w fun e w' => e = .returned (.tuple #[.agg #[.int .i64 2, .int .i64 1, .int .i64 1], .bool true]) ∧ Below w.heap.size w w' := by
  go_enter Tryd.func33, Tryd.ntmps33
  go_wp2
  refine bodyPost_ret (v := .tuple #[.agg #[.int .i64 2, .int .i64 1, .int .i64 1], .bool true]) (by simp [results, Tryd.results33, go_sem]) rfl ⟨rfl, (Below.refl _ _).alloc (Nat.le_refl _) _⟩
theorem tab_32 (w : World) : Calls Tryd.prog 33 #[.int .i64 32] w fun e w' => e = .returned (.tuple #[.agg #[.int .i64 1, .int .i64 1, .int .i64 1], .bool true]) ∧ Below w.heap.size w w' := by
  go_enter Tryd.func33, Tryd.ntmps33
  go_wp2
  refine bodyPost_ret (v := .tuple #[.agg #[.int .i64 1, .int .i64 1, .int .i64 1], .bool true]) (by simp [results, Tryd.results33, go_sem]) rfl ⟨rfl, (Below.refl _ _).alloc (Nat.le_refl _) _⟩
theorem tab_33 (w : World) : Calls Tryd.prog 33 #[.int .i64 33] w fun e w' => e = .returned (.tuple #[.agg #[.int .i64 0, .int .i64 1, .int .i64 8], .bool true]) ∧ Below w.heap.size w w' := by
  go_enter Tryd.func33, Tryd.ntmps33
  go_wp2
  refine bodyPost_ret (v := .tuple #[.agg #[.int .i64 0, .int .i64 1, .int .i64 8], .bool true]) (by simp [results, Tryd.results33, go_sem]) rfl ⟨rfl, (Below.refl _ _).alloc (Nat.le_refl _) _⟩
theorem tab_34 (w : World) : Calls Tryd.prog 33 #[.int .i64 34] w fun e w' => e = .returned (.tuple #[.agg #[.int .i64 0, .int .i64 1, .int .i64 64], .bool true]) ∧ Below w.heap.size w w' := by
  go_enter Tryd.func33, Tryd.ntmps33
  go_wp2
  refine bodyPost_ret (v := .tuple #[.agg #[.int .i64 0, .int .i64 1, .int .i64 64], .bool true]) (by simp [results, Tryd.results33, go_sem]) rfl ⟨rfl, (Below.refl _ _).alloc (Nat.le_refl _) _⟩
theorem tab_35 (w : World) : Calls Tryd.prog 33 #[.int .i64 35] w fun e w' => e = .returned (.tuple #[.agg #[.int .i64 0, .int .i64 1, .int .i64 8], .bool true]) ∧ Below w.heap.size w w' := by
  go_enter Tryd.func33, Tryd.ntmps33
  go_wp2
  refine bodyPost_ret (v := .tuple #[.agg #[.int .i64 0, .int .i64 1, .int .i64 8], .bool true]) (by simp [results, Tryd.results33, go_sem]) rfl ⟨rfl, (Below.refl _ _).alloc (Nat.le_refl _) _⟩
theorem tab_36 (w : World) : Calls Tryd.prog 33 #[.int .i64 36] w fun e w' => e = .returned (.tuple #[.agg #[.int .i64 0, .int .i64 1, .int .i64 8], .bool true]) ∧ Below w.heap.size w w' := by
  go_enter Tryd.func33, Tryd.ntmps33
  go_wp2
  refine bodyPost_ret (v := .tuple #[.agg #[.int .i64 0, .int .i64 1, .int .i64 8], .bool true]) (by simp [results, Tryd.results33, go_sem]) rfl ⟨rfl, (Below.refl _ _).alloc (Nat.le_refl _) _⟩
theorem tab_37 (w : World) : Calls Tryd.prog 33 #[.int .i64 37] w fun e w' => e = .returned (.tuple #[.agg #[.int .i64 0, .int .i64 1, .int .i64 8], .bool true]) ∧ Below w.heap.size w w' := by
  go_enter Tryd.func33, Tryd.ntmps33
  go_wp2
  refine bodyPost_ret (v := .tuple #[.agg #[.int .i64 0, .int .i64 1, .int .i64 8], .bool true]) (by simp [results, Tryd.results33, go_sem]) rfl ⟨rfl, (Below.refl _ _).alloc (Nat.le_refl _) _⟩
theorem tab_38 (w : World) : Calls Tryd.prog 33 #[.int .i64 38] w fun e w' => e = .returned (.tuple #[.agg #[.int .i64 2, .int .i64 1, .int .i64 1], .bool true]) ∧ Below w.heap.size w w' := by
  go_enter Tryd.func33, Tryd.ntmps33
  go_wp2
  refine bodyPost_ret (v := .tuple #[.agg #[.int .i64 2, .int .i64 1, .int .i64 1], .bool true]) (by simp [results, Tryd.results33, go_sem]) rfl ⟨rfl, (Below.refl _ _).alloc (Nat.le_refl _) _⟩
theorem tab_39 (w : World) : Calls Tryd.prog 33 #[.int .i64 39] w fun e w' => e = .returned (.tuple #[.agg #[.int .i64 1, .int .i64 1, .int .i64 1], .bool true]) ∧ Below w.heap.size w w' := by
  go_enter Tryd.func33, Tryd.ntmps33
  go_wp2
  refine bodyPost_ret (v := .tuple #[.agg #[.int .i64 1, .int .i64 1, .int .i64 1], .bool true]) (by simp [results, Tryd.results33, go_sem]) rfl ⟨rfl, (Below.refl _ _).alloc (Nat.le_refl _) _⟩
theorem tab_40 (w : World) : Calls Tryd.prog 33 #[.int .i64 40] w fun e w' => e = .returned (.tuple #[.agg #[.int .i64 0, .int .i64 1, .int .i64 1], .bool true]) ∧ Below w.heap.size w w' := by
  go_enter Tryd.func33, Tryd.ntmps33
  go_wp2
  refine bodyPost_ret (v := .tuple #[.agg #[.int .i64 0, .int .i64 1, .int .i64 1], .bool true]) (by simp [results, Tryd.results33, go_sem]) rfl ⟨rfl, (Below.refl _ _).alloc (Nat.le_refl _) _⟩
theorem tab_41 (w : World) : Calls Tryd.prog 33 #[.int .i64 41] w fun e w' => e = .returned (.tuple #[.agg #[.int .i64 2, .int .i64 1, .int .i64 1], .bool true]) ∧ Below w.heap.size w w' := by
  go_enter Tryd.func33, Tryd.ntmps33
  go_wp2
  refine bodyPost_ret (v := .tuple #[.agg #[.int .i64 2, .int .i64 1, .int .i64 1], .bool true]) (by simp [results, Tryd.results33, go_sem]) rfl ⟨rfl, (Below.refl _ _).alloc (Nat.le_refl _) _⟩
theorem tab_no (op : Int) (h : inR op = false) (w : World) : Calls Tryd.prog 33 #[.int .i64 op] w fun e w' => e = .returned (.tuple #[.agg #[.int .i64 0, .int .i64 0, .int .i64 0], .bool false]) ∧ Below w.heap.size w w' := by
  have h1 : ¬ (1 ≤ op ∧ op ≤ 41) := by
    rintro ⟨h1, h2⟩
    unfold inR at h
    rw [decide_eq_true h1, decide_eq_true h2] at h
    cases h
  have b1 : (op == 1) = false := beq_eq_false_iff_ne.mpr (by omega)
  have b2 : (op == 2) = false := beq_eq_false_iff_ne.mpr (by omega)
  have b3 : (op == 3) = false := beq_eq_false_iff_ne.mpr (by omega)
  have b4 : (op == 4) = false := beq_eq_false_iff_ne.mpr (by omega)
  have b5 : (op == 5) = false := beq_eq_false_iff_ne.mpr (by omega)
  have b6 : (op == 6) = false := beq_eq_false_iff_ne.mpr (by omega)
  have b7 : (op == 7) = false := beq_eq_false_iff_ne.mpr (by omega)
  have b8 : (op == 8) = false := beq_eq_false_iff_ne.mpr (by omega)
  have b9 : (op == 9) = false := beq_eq_false_iff_ne.mpr (by omega)
  have b10 : (op == 10) = false := beq_eq_false_iff_ne.mpr (by omega)
  have b11 : (op == 11) = false := beq_eq_false_iff_ne.mpr (by omega)
  have b12 : (op == 12) = false := beq_eq_false_iff_ne.mpr (by omega)
  have b13 : (op == 13) = false := beq_eq_false_iff_ne.mpr (by omega)
  have b14 : (op == 14) = false := beq_eq_false_iff_ne.mpr (by omega)
  have b15 : (op == 15) = false := beq_eq_false_iff_ne.mpr (by omega)
  have b16 : (op == 16) = false := beq_eq_false_iff_ne.mpr (by omega)
  have b17 : (op == 17) = false := beq_eq_false_iff_ne.mpr (by omega)
  have b18 : (op == 18) = false := beq_eq_false_iff_ne.mpr (by omega)
  have b19 : (op == 19) = false := beq_eq_false_iff_ne.mpr (by omega)
  have b20 : (op == 20) = false := beq_eq_false_iff_ne.mpr (by omega)
  have b21 : (op == 21) = false := beq_eq_false_iff_ne.mpr (by omega)
  have b22 : (op == 22) = false := beq_eq_false_iff_ne.mpr (by omega)
  have b23 : (op == 23) = false := beq_eq_false_iff_ne.mpr (by omega)
  have b24 : (op == 24) = false := beq_eq_false_iff_ne.mpr (by omega)
  have b25 : (op == 25) = false := beq_eq_false_iff_ne.mpr (by omega)
  have b26 : (op == 26) = false := beq_eq_false_iff_ne.mpr (by omega)
  have b27 : (op == 27) = false := beq_eq_false_iff_ne.mpr (by omega)
  have b28 : (op == 28) = false := beq_eq_false_iff_ne.mpr (by omega)
  have b29 : (op == 29) = false := beq_eq_false_iff_ne.mpr (by omega)
  have b30 : (op == 30) = false := beq_eq_false_iff_ne.mpr (by omega)
  have b31 : (op == 31) = false := beq_eq_false_iff_ne.mpr (by omega)
  have b32 : (op == 32) = false := beq_eq_false_iff_ne.mpr (by omega)
  have b33 : (op == 33) = false := beq_eq_false_iff_ne.mpr (by omega)
  have b34 : (op == 34) = false := beq_eq_false_iff_ne.mpr (by omega)
  have b35 : (op == 35) = false := beq_eq_false_iff_ne.mpr (by omega)
  have b36 : (op == 36) = false := beq_eq_false_iff_ne.mpr (by omega)
  have b37 : (op == 37) = false := beq_eq_false_iff_ne.mpr (by omega)
  have b38 : (op == 38) = false := beq_eq_false_iff_ne.mpr (by omega)
  have b39 : (op == 39) = false := beq_eq_false_iff_ne.mpr (by omega)
  have b40 : (op == 40) = false := beq_eq_false_iff_ne.mpr (by omega)
  have b41 : (op == 41) = false := beq_eq_false_iff_ne.mpr (by omega)
  clear h h1
  go_enter Tryd.func33, Tryd.ntmps33
  go_wp2
  refine bodyPost_ret (v := .tuple #[.agg #[.int .i64 0, .int .i64 0, .int .i64 0], .bool false]) (by simp [results, Tryd.results33, go_sem]) rfl ⟨rfl, (Below.refl _ _).alloc (Nat.le_refl _) _⟩
end Go.Proofs.YtckmgoeflecpgaaDoor.I
