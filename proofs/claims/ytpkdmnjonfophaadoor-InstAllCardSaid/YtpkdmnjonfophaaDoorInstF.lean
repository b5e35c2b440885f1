/- The laws of layer 9, walked call by call. -/
import Derived.Test.YtpkdmnjonfophaaDoorInstD
import Derived.Test.YtpkdmnjonfophaaDoorInstE
import Derived.Below
import Derived.Deep.Draws
import Derived.Deep.AppendLies
import Derived.Maps.AppendAt
import Derived.OwnWalk
import Derived.Laws.BytesArg
import Derived.Laws.MakeOwn
import Derived.Laws.OwnMore
import Derived.Deep.OwnRows
import Derived.Tactics
import Derived.Lib.ConvBytes
import Derived.Laws.Slices
import Derived.WalkKit
import Derived.WalkSpells
import Derived.KernelRfl
import Derived.RowKit3
import Derived.Deep.LoopGhost
import Derived.Deep.QuietTactic
import Derived.BigQuiet
import Derived.WideLaws
import Derived.Deep.DeepCutAuto
import Derived.Deep.CutBlock
import Derived.Deep.RegionHeld3
import Derived.Laws.Rows
import Derived.Lib.AppendStr
import Derived.ArgAppend
import Derived.Laws.IdiomCopy
import Derived.OrdersHeld
import Derived.Laws.BitsLemmas
import Derived.RowKit
namespace Go.Proofs.YtpkdmnjonfophaaDoor.I
set_option linter.unusedVariables false
set_option linter.unusedSimpArgs false
open Go.RowKit
/-- A boxed instruction. -/
structure Bx (b : Nat) (op x : Int) (W : World) : Prop where
  lt : b < W.heap.size
  c0 : W.cell? ⟨b, 0, none⟩ = some (.int .i64 op)
  c1 : W.cell? ⟨b, 1, none⟩ = some (.int .i64 x)
theorem Bx.below {b : Nat} {op x : Int} {W W' : World} (h : Bx b op x W) (hB : Below W.heap.size W W') : Bx b op x W' := ⟨Nat.lt_of_lt_of_le h.lt hB.size, (hB.cell (p := ⟨b, 0, none⟩) h.lt).trans h.c0, (hB.cell (p := ⟨b, 1, none⟩) h.lt).trans h.c1⟩
theorem bx_new (w : World) (op x : Int) (t : Nat) : Bx w.heap.size op x (w.alloc (.cells #[.int .i64 op, .int .i64 x] t)) := ⟨alloc_lt w _, by rw [World.cell?_alloc_mark]; rfl, by rw [World.cell?_alloc_mark]; rfl⟩
theorem at12 (op r : Int) (h : takesB op = r) (w : World) : Calls Tryd.prog 12 #[.int .i64 op] w fun e w' => e = .returned (.int .i64 r) ∧ Below w.heap.size w w' := h ▸ takes12 op w
theorem at13 (op r : Int) (h : givesB op = r) (w : World) : Calls Tryd.prog 13 #[.int .i64 op] w fun e w' => e = .returned (.int .i64 r) ∧ Below w.heap.size w w' := h ▸ gives13 op w
theorem at11 (op : Int) (r : ByteArray) (h : nameOf op = r) (w : World) (ht : HT w) : Calls Tryd.prog 11 #[.int .i64 op] w fun e w' => e = .returned (.string r) ∧ Below w.heap.size w w' := h ▸ name11 op w ht
theorem at9 (op x : Int) (r : Bool) (h : mayI op x = r) (w : World) : Calls Tryd.prog 9 #[.agg #[.int .i64 op, .int .i64 x]] w fun e w' => e = .returned (.bool r) ∧ Below w.heap.size w w' := h ▸ may9 op x w
theorem at10 (op x : Int) (r : Bool) (h : mayI op x = r) (w : World) : Calls Tryd.prog 10 #[.agg #[.int .i64 op, .int .i64 x]] w fun e w' => e = .returned (.bool r) ∧ Below w.heap.size w w' := h ▸ rmay10 table18 op x w
theorem at14 (op : Int) (r : Bool) (h : jumpsB op = r) (w : World) : Calls Tryd.prog 14 #[.int .i64 op] w fun e w' => e = .returned (.bool r) ∧ Below w.heap.size w w' := h ▸ jumps14 op w
theorem at15 (op : Int) (r : Bool) (h : endsB op = r) (w : World) : Calls Tryd.prog 15 #[.int .i64 op] w fun e w' => e = .returned (.bool r) ∧ Below w.heap.size w w' := h ▸ ends15 op w
theorem at16 (op : Int) (r : Bool) (h : fallsB op = r) (w : World) : Calls Tryd.prog 16 #[.int .i64 op] w fun e w' => e = .returned (.bool r) ∧ Below w.heap.size w w' := h ▸ falls16 op w
theorem at17 (op : Int) (r : Bool) (h : fallsB op = r) (w : World) : Calls Tryd.prog 17 #[.int .i64 op] w fun e w' => e = .returned (.bool r) ∧ Below w.heap.size w w' := h ▸ falls17 op w
theorem at8 (op tk gv mo : Int) (nm : ByteArray) (r : Bool) (h1 : nameOf op = nm) (h2 : takesB op = tk) (h3 : givesB op = gv) (h4 : mostB op = mo) (h5 : inR op = r) (w : World) :
    Calls Tryd.prog 8 #[.int .i64 op] w fun e w' => e = .returned (.tuple #[.string nm, .int .i64 tk, .int .i64 gv, .int .i64 mo, .bool r]) ∧ Below w.heap.size w w' := by
  subst h1; subst h2; subst h3; subst h4; subst h5
  exact row8 table18 op w
set_option maxRecDepth 100000 in
set_option maxHeartbeats 2000000 in
theorem awake7 (w : World) (h : HT w) : Calls Tryd.prog 7 #[] w fun e w' => e = .returned (.bool true) ∧ Below w.heap.size w w' := by
  have H := Aside.mk h
  clear h
  go_enter Tryd.func7, Tryd.ntmps7
  go_wp2_with fail
  refine (at12 29 3 (by kernel_rfl) _).mono ?_
  rintro e w1 ⟨rfl, hB1⟩
  have HB1 := Aside.mk ((Below.refl w.heap.size w).trans (hB1.mono (Below.refl w.heap.size w).size))
  clear hB1
  go_wp2_with fail
  refine (at13 29 1 (by kernel_rfl) _).mono ?_
  rintro e w2 ⟨rfl, hB2⟩
  have HB2 := Aside.mk (HB1.out.trans (hB2.mono HB1.out.size))
  clear hB2
  go_wp2_with fail
  refine (at11 1 ⟨#[112, 117, 115, 104]⟩ (by kernel_rfl) _ (H.out.below HB2.out)).mono ?_
  rintro e w3 ⟨rfl, hB3⟩
  have HB3 := Aside.mk (HB2.out.trans (hB3.mono HB2.out.size))
  clear hB3
  go_wp2_with fail
  refine (at9 1 7 true (by kernel_rfl) _).mono ?_
  rintro e w4 ⟨rfl, hB4⟩
  have HB4 := Aside.mk (HB3.out.trans (hB4.mono HB3.out.size))
  clear hB4
  go_wp2_with fail
  refine (at14 23 true (by kernel_rfl) _).mono ?_
  rintro e w5 ⟨rfl, hB5⟩
  have HB5 := Aside.mk (HB4.out.trans (hB5.mono HB4.out.size))
  clear hB5
  go_wp2_with fail
  refine (at15 26 true (by kernel_rfl) _).mono ?_
  rintro e w6 ⟨rfl, hB6⟩
  have HB6 := Aside.mk (HB5.out.trans (hB6.mono HB5.out.size))
  clear hB6
  go_wp2_with fail
  refine (at16 29 true (by kernel_rfl) _).mono ?_
  rintro e w7 ⟨rfl, hB7⟩
  have HB7 := Aside.mk (HB6.out.trans (hB7.mono HB6.out.size))
  clear hB7
  go_wp2
  go_ret
  exact ⟨by simp, HB7.out⟩
end Go.Proofs.YtpkdmnjonfophaaDoor.I
