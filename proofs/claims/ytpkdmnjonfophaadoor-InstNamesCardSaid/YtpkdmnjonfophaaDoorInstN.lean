/- InstNames, walked call by call. -/
import Derived.Test.YtpkdmnjonfophaaDoorInstF
import Derived.Below
import Derived.Deep.Draws
import Derived.Deep.AppendLies
import Derived.Maps.AppendAt
import Derived.OwnWalk
import Derived.Laws.BytesArg
import Derived.Laws.MakeOwn
import Derived.Laws.OwnMore
import Derived.Deep.OwnRows
import Derived.Tactics
import Derived.Lib.ConvBytes
import Derived.Laws.Slices
import Derived.WalkKit
import Derived.WalkSpells
import Derived.KernelRfl
import Derived.RowKit3
import Derived.Deep.LoopGhost
import Derived.Deep.QuietTactic
import Derived.BigQuiet
import Derived.WideLaws
import Derived.Deep.DeepCutAuto
import Derived.Deep.CutBlock
import Derived.Deep.RegionHeld3
import Derived.Laws.Rows
import Derived.Lib.AppendStr
import Derived.ArgAppend
import Derived.Laws.IdiomCopy
import Derived.OrdersHeld
import Derived.Laws.BitsLemmas
import Derived.RowKit
namespace Go.Proofs.YtpkdmnjonfophaaDoor.I
set_option linter.unusedVariables false
set_option linter.unusedSimpArgs false
open Go.RowKit
set_option maxRecDepth 100000 in
set_option maxHeartbeats 1000000 in
theorem n5_true_true_big (op a : Int) (w : World) (h : HT w) (h1 : 1 ≤ op) (h2 : op ≤ 41) (ef : fallsB op = true) (e0 : mayI op 0 = true) (ey : mayI op a = true) (ej : jumpsB op = false) (ee : endsB op = false) (q27 : decide (op < 27) = false) (eg : givesB op = 1) (b0 : 0 ≤ a) (b1 : a ≤ 65535)  : Calls Tryd.prog 5 #[.int .i64 op, .int .i64 a] w fun e w' => e = .returned (.bool true) ∧ Below w.heap.size w w' := by
  have H := Aside.mk h
  have Aef := Aside.mk ef
  have Ae0 := Aside.mk e0
  have Aey := Aside.mk ey
  have Aej := Aside.mk ej
  have Aee := Aside.mk ee
  have Aeg := Aside.mk eg
  clear h ef e0 ey ej ee eg
  go_enter Tryd.func5, Tryd.ntmps5
  go_wp2_with fail
  refine (awake7 _ H.out).mono ?_
  rintro e w1 ⟨rfl, hB1⟩
  have HB1 := Aside.mk ((Below.refl w.heap.size w).trans (hB1.mono (Below.refl w.heap.size w).size))
  clear hB1
  have hx1 := bx_new w1 op a 23
  have hbel : Aside (Below w.heap.size w (w1.alloc (.cells #[.int .i64 op, .int .i64 a] 23))) := ⟨HB1.out.alloc HB1.out.size _⟩
  have c0_1 := hx1.c0
  have c1_1 := hx1.c1
  go_wp2_with fail
  refine (at16 op true Aef.out _).mono ?_
  rintro e w2 ⟨rfl, hB2⟩
  have hx2 := hx1.below hB2
  have c0_2 := hx2.c0
  have c1_2 := hx2.c1
  have HB2 := Aside.mk (hbel.out.trans (hB2.mono hbel.out.size))
  clear hB2
  go_wp2_with fail
  refine (at13 op 1 Aeg.out _).mono ?_
  rintro e w3 ⟨rfl, hB3⟩
  have hx3 := hx2.below hB3
  have c0_3 := hx3.c0
  have c1_3 := hx3.c1
  have HB3 := Aside.mk (HB2.out.trans (hB3.mono HB2.out.size))
  clear hB3
  go_wp2_with fail
  refine (at14 op false Aej.out _).mono ?_
  rintro e w4 ⟨rfl, hB4⟩
  have hx4 := hx3.below hB4
  have c0_4 := hx4.c0
  have c1_4 := hx4.c1
  have HB4 := Aside.mk (HB3.out.trans (hB4.mono HB3.out.size))
  clear hB4
  go_wp2_with fail
  refine (at15 op false Aee.out _).mono ?_
  rintro e w5 ⟨rfl, hB5⟩
  have hx5 := hx4.below hB5
  have c0_5 := hx5.c0
  have c1_5 := hx5.c1
  have HB5 := Aside.mk (HB4.out.trans (hB5.mono HB4.out.size))
  clear hB5
  go_wp2_with fail
  refine (at9 op 0 true Ae0.out _).mono ?_
  rintro e w6 ⟨rfl, hB6⟩
  have hx6 := hx5.below hB6
  have c0_6 := hx6.c0
  have c1_6 := hx6.c1
  have HB6 := Aside.mk (HB5.out.trans (hB6.mono HB5.out.size))
  clear hB6
  go_wp2_with fail
  refine (at9 op a true Aey.out _).mono ?_
  rintro e w7 ⟨rfl, hB7⟩
  have hx7 := hx6.below hB7
  have c0_7 := hx7.c0
  have c1_7 := hx7.c1
  have HB7 := Aside.mk (HB6.out.trans (hB7.mono HB6.out.size))
  clear hB7
  go_wp2_with fail
  refine (at13 op 1 Aeg.out _).mono ?_
  rintro e w8 ⟨rfl, hB8⟩
  have hx8 := hx7.below hB8
  have c0_8 := hx8.c0
  have c1_8 := hx8.c1
  have HB8 := Aside.mk (HB7.out.trans (hB8.mono HB7.out.size))
  clear hB8
  go_wp2
  go_ret
  exact ⟨by simp, HB8.out⟩
set_option maxRecDepth 100000 in
set_option maxHeartbeats 1000000 in
theorem n5_true_false_big (op a : Int) (w : World) (h : HT w) (h1 : 1 ≤ op) (h2 : op ≤ 41) (ef : fallsB op = true) (e0 : mayI op 0 = true) (ey : mayI op a = false) (ej : jumpsB op = false) (ee : endsB op = false) (q27 : decide (op < 27) = false) (eg : givesB op = 1)  : Calls Tryd.prog 5 #[.int .i64 op, .int .i64 a] w fun e w' => e = .returned (.bool true) ∧ Below w.heap.size w w' := by
  have H := Aside.mk h
  have Aef := Aside.mk ef
  have Ae0 := Aside.mk e0
  have Aey := Aside.mk ey
  have Aej := Aside.mk ej
  have Aee := Aside.mk ee
  have Aeg := Aside.mk eg
  clear h ef e0 ey ej ee eg
  go_enter Tryd.func5, Tryd.ntmps5
  go_wp2_with fail
  refine (awake7 _ H.out).mono ?_
  rintro e w1 ⟨rfl, hB1⟩
  have HB1 := Aside.mk ((Below.refl w.heap.size w).trans (hB1.mono (Below.refl w.heap.size w).size))
  clear hB1
  have hx1 := bx_new w1 op a 23
  have hbel : Aside (Below w.heap.size w (w1.alloc (.cells #[.int .i64 op, .int .i64 a] 23))) := ⟨HB1.out.alloc HB1.out.size _⟩
  have c0_1 := hx1.c0
  have c1_1 := hx1.c1
  go_wp2_with fail
  refine (at16 op true Aef.out _).mono ?_
  rintro e w2 ⟨rfl, hB2⟩
  have hx2 := hx1.below hB2
  have c0_2 := hx2.c0
  have c1_2 := hx2.c1
  have HB2 := Aside.mk (hbel.out.trans (hB2.mono hbel.out.size))
  clear hB2
  go_wp2_with fail
  refine (at13 op 1 Aeg.out _).mono ?_
  rintro e w3 ⟨rfl, hB3⟩
  have hx3 := hx2.below hB3
  have c0_3 := hx3.c0
  have c1_3 := hx3.c1
  have HB3 := Aside.mk (HB2.out.trans (hB3.mono HB2.out.size))
  clear hB3
  go_wp2_with fail
  refine (at14 op false Aej.out _).mono ?_
  rintro e w4 ⟨rfl, hB4⟩
  have hx4 := hx3.below hB4
  have c0_4 := hx4.c0
  have c1_4 := hx4.c1
  have HB4 := Aside.mk (HB3.out.trans (hB4.mono HB3.out.size))
  clear hB4
  go_wp2_with fail
  refine (at15 op false Aee.out _).mono ?_
  rintro e w5 ⟨rfl, hB5⟩
  have hx5 := hx4.below hB5
  have c0_5 := hx5.c0
  have c1_5 := hx5.c1
  have HB5 := Aside.mk (HB4.out.trans (hB5.mono HB4.out.size))
  clear hB5
  go_wp2_with fail
  refine (at9 op 0 true Ae0.out _).mono ?_
  rintro e w6 ⟨rfl, hB6⟩
  have hx6 := hx5.below hB6
  have c0_6 := hx6.c0
  have c1_6 := hx6.c1
  have HB6 := Aside.mk (HB5.out.trans (hB6.mono HB5.out.size))
  clear hB6
  go_wp2_with fail
  refine (at9 op a false Aey.out _).mono ?_
  rintro e w7 ⟨rfl, hB7⟩
  have hx7 := hx6.below hB7
  have c0_7 := hx7.c0
  have c1_7 := hx7.c1
  have HB7 := Aside.mk (HB6.out.trans (hB7.mono HB6.out.size))
  clear hB7
  go_wp2_with fail
  refine (at13 op 1 Aeg.out _).mono ?_
  rintro e w8 ⟨rfl, hB8⟩
  have hx8 := hx7.below hB8
  have c0_8 := hx8.c0
  have c1_8 := hx8.c1
  have HB8 := Aside.mk (HB7.out.trans (hB8.mono HB7.out.size))
  clear hB8
  go_wp2
  go_ret
  exact ⟨by simp, HB8.out⟩
set_option maxRecDepth 100000 in
set_option maxHeartbeats 1000000 in
theorem n5_false_true_big (op a : Int) (w : World) (h : HT w) (h1 : 1 ≤ op) (h2 : op ≤ 41) (ef : fallsB op = false) (e0 : mayI op 0 = true) (ey : mayI op a = true) (q27 : decide (op < 27) = false) (eg : givesB op = 1) (b0 : 0 ≤ a) (b1 : a ≤ 65535)  : Calls Tryd.prog 5 #[.int .i64 op, .int .i64 a] w fun e w' => e = .returned (.bool true) ∧ Below w.heap.size w w' := by
  have H := Aside.mk h
  have Aef := Aside.mk ef
  have Ae0 := Aside.mk e0
  have Aey := Aside.mk ey
  have Aeg := Aside.mk eg
  clear h ef e0 ey eg
  go_enter Tryd.func5, Tryd.ntmps5
  go_wp2_with fail
  refine (awake7 _ H.out).mono ?_
  rintro e w1 ⟨rfl, hB1⟩
  have HB1 := Aside.mk ((Below.refl w.heap.size w).trans (hB1.mono (Below.refl w.heap.size w).size))
  clear hB1
  have hx1 := bx_new w1 op a 23
  have hbel : Aside (Below w.heap.size w (w1.alloc (.cells #[.int .i64 op, .int .i64 a] 23))) := ⟨HB1.out.alloc HB1.out.size _⟩
  have c0_1 := hx1.c0
  have c1_1 := hx1.c1
  go_wp2_with fail
  refine (at16 op false Aef.out _).mono ?_
  rintro e w2 ⟨rfl, hB2⟩
  have hx2 := hx1.below hB2
  have c0_2 := hx2.c0
  have c1_2 := hx2.c1
  have HB2 := Aside.mk (hbel.out.trans (hB2.mono hbel.out.size))
  clear hB2
  go_wp2_with fail
  refine (at9 op 0 true Ae0.out _).mono ?_
  rintro e w3 ⟨rfl, hB3⟩
  have hx3 := hx2.below hB3
  have c0_3 := hx3.c0
  have c1_3 := hx3.c1
  have HB3 := Aside.mk (HB2.out.trans (hB3.mono HB2.out.size))
  clear hB3
  go_wp2_with fail
  refine (at9 op a true Aey.out _).mono ?_
  rintro e w4 ⟨rfl, hB4⟩
  have hx4 := hx3.below hB4
  have c0_4 := hx4.c0
  have c1_4 := hx4.c1
  have HB4 := Aside.mk (HB3.out.trans (hB4.mono HB3.out.size))
  clear hB4
  go_wp2_with fail
  refine (at13 op 1 Aeg.out _).mono ?_
  rintro e w5 ⟨rfl, hB5⟩
  have hx5 := hx4.below hB5
  have c0_5 := hx5.c0
  have c1_5 := hx5.c1
  have HB5 := Aside.mk (HB4.out.trans (hB5.mono HB4.out.size))
  clear hB5
  go_wp2
  go_ret
  exact ⟨by simp, HB5.out⟩
set_option maxRecDepth 100000 in
set_option maxHeartbeats 1000000 in
theorem n5_false_true_small (op a : Int) (w : World) (h : HT w) (h1 : 1 ≤ op) (h2 : op ≤ 41) (ef : fallsB op = false) (e0 : mayI op 0 = true) (ey : mayI op a = true) (q27 : op < 27) (b0 : 0 ≤ a) (b1 : a ≤ 65535)  : Calls Tryd.prog 5 #[.int .i64 op, .int .i64 a] w fun e w' => e = .returned (.bool true) ∧ Below w.heap.size w w' := by
  have H := Aside.mk h
  have Aef := Aside.mk ef
  have Ae0 := Aside.mk e0
  have Aey := Aside.mk ey
  clear h ef e0 ey
  go_enter Tryd.func5, Tryd.ntmps5
  go_wp2_with fail
  refine (awake7 _ H.out).mono ?_
  rintro e w1 ⟨rfl, hB1⟩
  have HB1 := Aside.mk ((Below.refl w.heap.size w).trans (hB1.mono (Below.refl w.heap.size w).size))
  clear hB1
  have hx1 := bx_new w1 op a 23
  have hbel : Aside (Below w.heap.size w (w1.alloc (.cells #[.int .i64 op, .int .i64 a] 23))) := ⟨HB1.out.alloc HB1.out.size _⟩
  have c0_1 := hx1.c0
  have c1_1 := hx1.c1
  go_wp2_with fail
  refine (at16 op false Aef.out _).mono ?_
  rintro e w2 ⟨rfl, hB2⟩
  have hx2 := hx1.below hB2
  have c0_2 := hx2.c0
  have c1_2 := hx2.c1
  have HB2 := Aside.mk (hbel.out.trans (hB2.mono hbel.out.size))
  clear hB2
  go_wp2_with fail
  refine (at9 op 0 true Ae0.out _).mono ?_
  rintro e w3 ⟨rfl, hB3⟩
  have hx3 := hx2.below hB3
  have c0_3 := hx3.c0
  have c1_3 := hx3.c1
  have HB3 := Aside.mk (HB2.out.trans (hB3.mono HB2.out.size))
  clear hB3
  go_wp2_with fail
  refine (at9 op a true Aey.out _).mono ?_
  rintro e w4 ⟨rfl, hB4⟩
  have hx4 := hx3.below hB4
  have c0_4 := hx4.c0
  have c1_4 := hx4.c1
  have HB4 := Aside.mk (HB3.out.trans (hB4.mono HB3.out.size))
  clear hB4
  go_wp2
  go_ret
  exact ⟨by simp, HB4.out⟩
set_option maxRecDepth 100000 in
set_option maxHeartbeats 1000000 in
theorem n5_false_false_big (op a : Int) (w : World) (h : HT w) (h1 : 1 ≤ op) (h2 : op ≤ 41) (ef : fallsB op = false) (e0 : mayI op 0 = true) (ey : mayI op a = false) (q27 : decide (op < 27) = false) (eg : givesB op = 1)  : Calls Tryd.prog 5 #[.int .i64 op, .int .i64 a] w fun e w' => e = .returned (.bool true) ∧ Below w.heap.size w w' := by
  have H := Aside.mk h
  have Aef := Aside.mk ef
  have Ae0 := Aside.mk e0
  have Aey := Aside.mk ey
  have Aeg := Aside.mk eg
  clear h ef e0 ey eg
  go_enter Tryd.func5, Tryd.ntmps5
  go_wp2_with fail
  refine (awake7 _ H.out).mono ?_
  rintro e w1 ⟨rfl, hB1⟩
  have HB1 := Aside.mk ((Below.refl w.heap.size w).trans (hB1.mono (Below.refl w.heap.size w).size))
  clear hB1
  have hx1 := bx_new w1 op a 23
  have hbel : Aside (Below w.heap.size w (w1.alloc (.cells #[.int .i64 op, .int .i64 a] 23))) := ⟨HB1.out.alloc HB1.out.size _⟩
  have c0_1 := hx1.c0
  have c1_1 := hx1.c1
  go_wp2_with fail
  refine (at16 op false Aef.out _).mono ?_
  rintro e w2 ⟨rfl, hB2⟩
  have hx2 := hx1.below hB2
  have c0_2 := hx2.c0
  have c1_2 := hx2.c1
  have HB2 := Aside.mk (hbel.out.trans (hB2.mono hbel.out.size))
  clear hB2
  go_wp2_with fail
  refine (at9 op 0 true Ae0.out _).mono ?_
  rintro e w3 ⟨rfl, hB3⟩
  have hx3 := hx2.below hB3
  have c0_3 := hx3.c0
  have c1_3 := hx3.c1
  have HB3 := Aside.mk (HB2.out.trans (hB3.mono HB2.out.size))
  clear hB3
  go_wp2_with fail
  refine (at9 op a false Aey.out _).mono ?_
  rintro e w4 ⟨rfl, hB4⟩
  have hx4 := hx3.below hB4
  have c0_4 := hx4.c0
  have c1_4 := hx4.c1
  have HB4 := Aside.mk (HB3.out.trans (hB4.mono HB3.out.size))
  clear hB4
  go_wp2_with fail
  refine (at13 op 1 Aeg.out _).mono ?_
  rintro e w5 ⟨rfl, hB5⟩
  have hx5 := hx4.below hB5
  have c0_5 := hx5.c0
  have c1_5 := hx5.c1
  have HB5 := Aside.mk (HB4.out.trans (hB5.mono HB4.out.size))
  clear hB5
  go_wp2
  go_ret
  exact ⟨by simp, HB5.out⟩
set_option maxRecDepth 100000 in
set_option maxHeartbeats 1000000 in
theorem n5_false_false_small (op a : Int) (w : World) (h : HT w) (h1 : 1 ≤ op) (h2 : op ≤ 41) (ef : fallsB op = false) (e0 : mayI op 0 = true) (ey : mayI op a = false) (q27 : op < 27)  : Calls Tryd.prog 5 #[.int .i64 op, .int .i64 a] w fun e w' => e = .returned (.bool true) ∧ Below w.heap.size w w' := by
  have H := Aside.mk h
  have Aef := Aside.mk ef
  have Ae0 := Aside.mk e0
  have Aey := Aside.mk ey
  clear h ef e0 ey
  go_enter Tryd.func5, Tryd.ntmps5
  go_wp2_with fail
  refine (awake7 _ H.out).mono ?_
  rintro e w1 ⟨rfl, hB1⟩
  have HB1 := Aside.mk ((Below.refl w.heap.size w).trans (hB1.mono (Below.refl w.heap.size w).size))
  clear hB1
  have hx1 := bx_new w1 op a 23
  have hbel : Aside (Below w.heap.size w (w1.alloc (.cells #[.int .i64 op, .int .i64 a] 23))) := ⟨HB1.out.alloc HB1.out.size _⟩
  have c0_1 := hx1.c0
  have c1_1 := hx1.c1
  go_wp2_with fail
  refine (at16 op false Aef.out _).mono ?_
  rintro e w2 ⟨rfl, hB2⟩
  have hx2 := hx1.below hB2
  have c0_2 := hx2.c0
  have c1_2 := hx2.c1
  have HB2 := Aside.mk (hbel.out.trans (hB2.mono hbel.out.size))
  clear hB2
  go_wp2_with fail
  refine (at9 op 0 true Ae0.out _).mono ?_
  rintro e w3 ⟨rfl, hB3⟩
  have hx3 := hx2.below hB3
  have c0_3 := hx3.c0
  have c1_3 := hx3.c1
  have HB3 := Aside.mk (HB2.out.trans (hB3.mono HB2.out.size))
  clear hB3
  go_wp2_with fail
  refine (at9 op a false Aey.out _).mono ?_
  rintro e w4 ⟨rfl, hB4⟩
  have hx4 := hx3.below hB4
  have c0_4 := hx4.c0
  have c1_4 := hx4.c1
  have HB4 := Aside.mk (HB3.out.trans (hB4.mono HB3.out.size))
  clear hB4
  go_wp2
  go_ret
  exact ⟨by simp, HB4.out⟩
set_option maxRecDepth 100000 in
set_option maxHeartbeats 1000000 in
theorem n5_out0 (op a : Int) (w : World) (h : HT w) (q1 : decide (1 ≤ op) = false) (ey : mayI op a = false) (en : nameOf op = ⟨#[]⟩) (et : takesB op = -1) (eg : givesB op = -1) (ej : jumpsB op = false) (ee : endsB op = false) (ef : fallsB op = false) : Calls Tryd.prog 5 #[.int .i64 op, .int .i64 a] w fun e w' => e = .returned (.bool true) ∧ Below w.heap.size w w' := by
  have H := Aside.mk h
  have Aey := Aside.mk ey
  have Aen := Aside.mk en
  have Aet := Aside.mk et
  have Aeg := Aside.mk eg
  have Aej := Aside.mk ej
  have Aee := Aside.mk ee
  have Aef := Aside.mk ef
  clear h ey en et eg ej ee ef
  go_enter Tryd.func5, Tryd.ntmps5
  go_wp2_with fail
  refine (awake7 _ H.out).mono ?_
  rintro e w1 ⟨rfl, hB1⟩
  have HB1 := Aside.mk ((Below.refl w.heap.size w).trans (hB1.mono (Below.refl w.heap.size w).size))
  clear hB1
  have hx1 := bx_new w1 op a 23
  have hbel : Aside (Below w.heap.size w (w1.alloc (.cells #[.int .i64 op, .int .i64 a] 23))) := ⟨HB1.out.alloc HB1.out.size _⟩
  have c0_1 := hx1.c0
  have c1_1 := hx1.c1
  go_wp2_with fail
  refine (at9 op a false Aey.out _).mono ?_
  rintro e w2 ⟨rfl, hB2⟩
  have hx2 := hx1.below hB2
  have c0_2 := hx2.c0
  have c1_2 := hx2.c1
  have HB2 := Aside.mk (hbel.out.trans (hB2.mono hbel.out.size))
  clear hB2
  go_wp2_with fail
  refine (at11 op ⟨#[]⟩ Aen.out _ (H.out.below HB2.out)).mono ?_
  rintro e w3 ⟨rfl, hB3⟩
  have hx3 := hx2.below hB3
  have c0_3 := hx3.c0
  have c1_3 := hx3.c1
  have HB3 := Aside.mk (HB2.out.trans (hB3.mono HB2.out.size))
  clear hB3
  go_wp2_with fail
  refine (at12 op (-1) Aet.out _).mono ?_
  rintro e w4 ⟨rfl, hB4⟩
  have hx4 := hx3.below hB4
  have c0_4 := hx4.c0
  have c1_4 := hx4.c1
  have HB4 := Aside.mk (HB3.out.trans (hB4.mono HB3.out.size))
  clear hB4
  go_wp2_with fail
  refine (at13 op (-1) Aeg.out _).mono ?_
  rintro e w5 ⟨rfl, hB5⟩
  have hx5 := hx4.below hB5
  have c0_5 := hx5.c0
  have c1_5 := hx5.c1
  have HB5 := Aside.mk (HB4.out.trans (hB5.mono HB4.out.size))
  clear hB5
  go_wp2_with fail
  refine (at14 op false Aej.out _).mono ?_
  rintro e w6 ⟨rfl, hB6⟩
  have hx6 := hx5.below hB6
  have c0_6 := hx6.c0
  have c1_6 := hx6.c1
  have HB6 := Aside.mk (HB5.out.trans (hB6.mono HB5.out.size))
  clear hB6
  go_wp2_with fail
  refine (at15 op false Aee.out _).mono ?_
  rintro e w7 ⟨rfl, hB7⟩
  have hx7 := hx6.below hB7
  have c0_7 := hx7.c0
  have c1_7 := hx7.c1
  have HB7 := Aside.mk (HB6.out.trans (hB7.mono HB6.out.size))
  clear hB7
  go_wp2_with fail
  refine (at16 op false Aef.out _).mono ?_
  rintro e w8 ⟨rfl, hB8⟩
  have hx8 := hx7.below hB8
  have c0_8 := hx8.c0
  have c1_8 := hx8.c1
  have HB8 := Aside.mk (HB7.out.trans (hB8.mono HB7.out.size))
  clear hB8
  go_wp2
  go_ret
  exact ⟨by simp, HB8.out⟩
set_option maxRecDepth 100000 in
set_option maxHeartbeats 1000000 in
theorem n5_out1 (op a : Int) (w : World) (h : HT w) (h1 : 1 ≤ op) (q2 : decide (op ≤ 41) = false) (ey : mayI op a = false) (en : nameOf op = ⟨#[]⟩) (et : takesB op = -1) (eg : givesB op = -1) (ej : jumpsB op = false) (ee : endsB op = false) (ef : fallsB op = false) : Calls Tryd.prog 5 #[.int .i64 op, .int .i64 a] w fun e w' => e = .returned (.bool true) ∧ Below w.heap.size w w' := by
  have H := Aside.mk h
  have Aey := Aside.mk ey
  have Aen := Aside.mk en
  have Aet := Aside.mk et
  have Aeg := Aside.mk eg
  have Aej := Aside.mk ej
  have Aee := Aside.mk ee
  have Aef := Aside.mk ef
  clear h ey en et eg ej ee ef
  go_enter Tryd.func5, Tryd.ntmps5
  go_wp2_with fail
  refine (awake7 _ H.out).mono ?_
  rintro e w1 ⟨rfl, hB1⟩
  have HB1 := Aside.mk ((Below.refl w.heap.size w).trans (hB1.mono (Below.refl w.heap.size w).size))
  clear hB1
  have hx1 := bx_new w1 op a 23
  have hbel : Aside (Below w.heap.size w (w1.alloc (.cells #[.int .i64 op, .int .i64 a] 23))) := ⟨HB1.out.alloc HB1.out.size _⟩
  have c0_1 := hx1.c0
  have c1_1 := hx1.c1
  go_wp2_with fail
  refine (at9 op a false Aey.out _).mono ?_
  rintro e w2 ⟨rfl, hB2⟩
  have hx2 := hx1.below hB2
  have c0_2 := hx2.c0
  have c1_2 := hx2.c1
  have HB2 := Aside.mk (hbel.out.trans (hB2.mono hbel.out.size))
  clear hB2
  go_wp2_with fail
  refine (at11 op ⟨#[]⟩ Aen.out _ (H.out.below HB2.out)).mono ?_
  rintro e w3 ⟨rfl, hB3⟩
  have hx3 := hx2.below hB3
  have c0_3 := hx3.c0
  have c1_3 := hx3.c1
  have HB3 := Aside.mk (HB2.out.trans (hB3.mono HB2.out.size))
  clear hB3
  go_wp2_with fail
  refine (at12 op (-1) Aet.out _).mono ?_
  rintro e w4 ⟨rfl, hB4⟩
  have hx4 := hx3.below hB4
  have c0_4 := hx4.c0
  have c1_4 := hx4.c1
  have HB4 := Aside.mk (HB3.out.trans (hB4.mono HB3.out.size))
  clear hB4
  go_wp2_with fail
  refine (at13 op (-1) Aeg.out _).mono ?_
  rintro e w5 ⟨rfl, hB5⟩
  have hx5 := hx4.below hB5
  have c0_5 := hx5.c0
  have c1_5 := hx5.c1
  have HB5 := Aside.mk (HB4.out.trans (hB5.mono HB4.out.size))
  clear hB5
  go_wp2_with fail
  refine (at14 op false Aej.out _).mono ?_
  rintro e w6 ⟨rfl, hB6⟩
  have hx6 := hx5.below hB6
  have c0_6 := hx6.c0
  have c1_6 := hx6.c1
  have HB6 := Aside.mk (HB5.out.trans (hB6.mono HB5.out.size))
  clear hB6
  go_wp2_with fail
  refine (at15 op false Aee.out _).mono ?_
  rintro e w7 ⟨rfl, hB7⟩
  have hx7 := hx6.below hB7
  have c0_7 := hx7.c0
  have c1_7 := hx7.c1
  have HB7 := Aside.mk (HB6.out.trans (hB7.mono HB6.out.size))
  clear hB7
  go_wp2_with fail
  refine (at16 op false Aef.out _).mono ?_
  rintro e w8 ⟨rfl, hB8⟩
  have hx8 := hx7.below hB8
  have c0_8 := hx8.c0
  have c1_8 := hx8.c1
  have HB8 := Aside.mk (HB7.out.trans (hB8.mono HB7.out.size))
  clear hB8
  go_wp2
  go_ret
  exact ⟨by simp, HB8.out⟩
theorem inR_may0 : ∀ k : Nat, k < 41 → mayI ((k : Int) + 1) 0 = true := by
  intro k hk
  match k, hk with
  | 0, _ => exact (by decide +kernel)
  | 1, _ => exact (by decide +kernel)
  | 2, _ => exact (by decide +kernel)
  | 3, _ => exact (by decide +kernel)
  | 4, _ => exact (by decide +kernel)
  | 5, _ => exact (by decide +kernel)
  | 6, _ => exact (by decide +kernel)
  | 7, _ => exact (by decide +kernel)
  | 8, _ => exact (by decide +kernel)
  | 9, _ => exact (by decide +kernel)
  | 10, _ => exact (by decide +kernel)
  | 11, _ => exact (by decide +kernel)
  | 12, _ => exact (by decide +kernel)
  | 13, _ => exact (by decide +kernel)
  | 14, _ => exact (by decide +kernel)
  | 15, _ => exact (by decide +kernel)
  | 16, _ => exact (by decide +kernel)
  | 17, _ => exact (by decide +kernel)
  | 18, _ => exact (by decide +kernel)
  | 19, _ => exact (by decide +kernel)
  | 20, _ => exact (by decide +kernel)
  | 21, _ => exact (by decide +kernel)
  | 22, _ => exact (by decide +kernel)
  | 23, _ => exact (by decide +kernel)
  | 24, _ => exact (by decide +kernel)
  | 25, _ => exact (by decide +kernel)
  | 26, _ => exact (by decide +kernel)
  | 27, _ => exact (by decide +kernel)
  | 28, _ => exact (by decide +kernel)
  | 29, _ => exact (by decide +kernel)
  | 30, _ => exact (by decide +kernel)
  | 31, _ => exact (by decide +kernel)
  | 32, _ => exact (by decide +kernel)
  | 33, _ => exact (by decide +kernel)
  | 34, _ => exact (by decide +kernel)
  | 35, _ => exact (by decide +kernel)
  | 36, _ => exact (by decide +kernel)
  | 37, _ => exact (by decide +kernel)
  | 38, _ => exact (by decide +kernel)
  | 39, _ => exact (by decide +kernel)
  | 40, _ => exact (by decide +kernel)
  | k + 41, h => exact absurd h (by omega)
theorem inR_most : ∀ k : Nat, k < 41 → (kindOf ((k : Int) + 1)).2.2 ≤ 65536 := by
  intro k hk
  match k, hk with
  | 0, _ => exact (by decide +kernel)
  | 1, _ => exact (by decide +kernel)
  | 2, _ => exact (by decide +kernel)
  | 3, _ => exact (by decide +kernel)
  | 4, _ => exact (by decide +kernel)
  | 5, _ => exact (by decide +kernel)
  | 6, _ => exact (by decide +kernel)
  | 7, _ => exact (by decide +kernel)
  | 8, _ => exact (by decide +kernel)
  | 9, _ => exact (by decide +kernel)
  | 10, _ => exact (by decide +kernel)
  | 11, _ => exact (by decide +kernel)
  | 12, _ => exact (by decide +kernel)
  | 13, _ => exact (by decide +kernel)
  | 14, _ => exact (by decide +kernel)
  | 15, _ => exact (by decide +kernel)
  | 16, _ => exact (by decide +kernel)
  | 17, _ => exact (by decide +kernel)
  | 18, _ => exact (by decide +kernel)
  | 19, _ => exact (by decide +kernel)
  | 20, _ => exact (by decide +kernel)
  | 21, _ => exact (by decide +kernel)
  | 22, _ => exact (by decide +kernel)
  | 23, _ => exact (by decide +kernel)
  | 24, _ => exact (by decide +kernel)
  | 25, _ => exact (by decide +kernel)
  | 26, _ => exact (by decide +kernel)
  | 27, _ => exact (by decide +kernel)
  | 28, _ => exact (by decide +kernel)
  | 29, _ => exact (by decide +kernel)
  | 30, _ => exact (by decide +kernel)
  | 31, _ => exact (by decide +kernel)
  | 32, _ => exact (by decide +kernel)
  | 33, _ => exact (by decide +kernel)
  | 34, _ => exact (by decide +kernel)
  | 35, _ => exact (by decide +kernel)
  | 36, _ => exact (by decide +kernel)
  | 37, _ => exact (by decide +kernel)
  | 38, _ => exact (by decide +kernel)
  | 39, _ => exact (by decide +kernel)
  | 40, _ => exact (by decide +kernel)
  | k + 41, h => exact absurd h (by omega)
theorem falls_big : ∀ k : Nat, k < 41 → fallsB ((k : Int) + 1) = true → 26 ≤ k ∧ jumpsB ((k : Int) + 1) = false ∧ endsB ((k : Int) + 1) = false := by
  intro k hk
  match k, hk with
  | 0, _ => exact fun h => absurd h (by decide)
  | 1, _ => exact fun h => absurd h (by decide)
  | 2, _ => exact fun h => absurd h (by decide)
  | 3, _ => exact fun h => absurd h (by decide)
  | 4, _ => exact fun h => absurd h (by decide)
  | 5, _ => exact fun h => absurd h (by decide)
  | 6, _ => exact fun h => absurd h (by decide)
  | 7, _ => exact fun h => absurd h (by decide)
  | 8, _ => exact fun h => absurd h (by decide)
  | 9, _ => exact fun h => absurd h (by decide)
  | 10, _ => exact fun h => absurd h (by decide)
  | 11, _ => exact fun h => absurd h (by decide)
  | 12, _ => exact fun h => absurd h (by decide)
  | 13, _ => exact fun h => absurd h (by decide)
  | 14, _ => exact fun h => absurd h (by decide)
  | 15, _ => exact fun h => absurd h (by decide)
  | 16, _ => exact fun h => absurd h (by decide)
  | 17, _ => exact fun h => absurd h (by decide)
  | 18, _ => exact fun h => absurd h (by decide)
  | 19, _ => exact fun h => absurd h (by decide)
  | 20, _ => exact fun h => absurd h (by decide)
  | 21, _ => exact fun h => absurd h (by decide)
  | 22, _ => exact fun h => absurd h (by decide)
  | 23, _ => exact fun h => absurd h (by decide)
  | 24, _ => exact fun h => absurd h (by decide)
  | 25, _ => exact fun h => absurd h (by decide)
  | 26, _ => exact fun _ => ⟨by omega, by kernel_rfl, by kernel_rfl⟩
  | 27, _ => exact fun h => absurd h (by decide)
  | 28, _ => exact fun _ => ⟨by omega, by kernel_rfl, by kernel_rfl⟩
  | 29, _ => exact fun _ => ⟨by omega, by kernel_rfl, by kernel_rfl⟩
  | 30, _ => exact fun h => absurd h (by decide)
  | 31, _ => exact fun h => absurd h (by decide)
  | 32, _ => exact fun _ => ⟨by omega, by kernel_rfl, by kernel_rfl⟩
  | 33, _ => exact fun _ => ⟨by omega, by kernel_rfl, by kernel_rfl⟩
  | 34, _ => exact fun _ => ⟨by omega, by kernel_rfl, by kernel_rfl⟩
  | 35, _ => exact fun _ => ⟨by omega, by kernel_rfl, by kernel_rfl⟩
  | 36, _ => exact fun h => absurd h (by decide)
  | 37, _ => exact fun _ => ⟨by omega, by kernel_rfl, by kernel_rfl⟩
  | 38, _ => exact fun h => absurd h (by decide)
  | 39, _ => exact fun h => absurd h (by decide)
  | 40, _ => exact fun h => absurd h (by decide)
  | k + 41, h => exact absurd h (by omega)
theorem big_gives : ∀ k : Nat, k < 41 → 26 ≤ k → givesB ((k : Int) + 1) = 1 := by
  intro k hk
  match k, hk with
  | 0, _ => exact fun h => absurd h (by omega)
  | 1, _ => exact fun h => absurd h (by omega)
  | 2, _ => exact fun h => absurd h (by omega)
  | 3, _ => exact fun h => absurd h (by omega)
  | 4, _ => exact fun h => absurd h (by omega)
  | 5, _ => exact fun h => absurd h (by omega)
  | 6, _ => exact fun h => absurd h (by omega)
  | 7, _ => exact fun h => absurd h (by omega)
  | 8, _ => exact fun h => absurd h (by omega)
  | 9, _ => exact fun h => absurd h (by omega)
  | 10, _ => exact fun h => absurd h (by omega)
  | 11, _ => exact fun h => absurd h (by omega)
  | 12, _ => exact fun h => absurd h (by omega)
  | 13, _ => exact fun h => absurd h (by omega)
  | 14, _ => exact fun h => absurd h (by omega)
  | 15, _ => exact fun h => absurd h (by omega)
  | 16, _ => exact fun h => absurd h (by omega)
  | 17, _ => exact fun h => absurd h (by omega)
  | 18, _ => exact fun h => absurd h (by omega)
  | 19, _ => exact fun h => absurd h (by omega)
  | 20, _ => exact fun h => absurd h (by omega)
  | 21, _ => exact fun h => absurd h (by omega)
  | 22, _ => exact fun h => absurd h (by omega)
  | 23, _ => exact fun h => absurd h (by omega)
  | 24, _ => exact fun h => absurd h (by omega)
  | 25, _ => exact fun h => absurd h (by omega)
  | 26, _ => exact fun _ => by kernel_rfl
  | 27, _ => exact fun _ => by kernel_rfl
  | 28, _ => exact fun _ => by kernel_rfl
  | 29, _ => exact fun _ => by kernel_rfl
  | 30, _ => exact fun _ => by kernel_rfl
  | 31, _ => exact fun _ => by kernel_rfl
  | 32, _ => exact fun _ => by kernel_rfl
  | 33, _ => exact fun _ => by kernel_rfl
  | 34, _ => exact fun _ => by kernel_rfl
  | 35, _ => exact fun _ => by kernel_rfl
  | 36, _ => exact fun _ => by kernel_rfl
  | 37, _ => exact fun _ => by kernel_rfl
  | 38, _ => exact fun _ => by kernel_rfl
  | 39, _ => exact fun _ => by kernel_rfl
  | 40, _ => exact fun _ => by kernel_rfl
  | k + 41, h => exact absurd h (by omega)
theorem names5 (op a : Int) (w : World) (h : HT w) : Calls Tryd.prog 5 #[.int .i64 op, .int .i64 a] w fun e w' => e = .returned (.bool true) ∧ Below w.heap.size w w' := by
  rcases op_cases op with ⟨k, hk, rfl⟩ | q
  · have h1 : (1 : Int) ≤ (k : Int) + 1 := by omega
    have h2 : (k : Int) + 1 ≤ 41 := by omega
    have e0 := inR_may0 k hk
    have hm := inR_most k hk
    have b : mayI ((k : Int) + 1) a = true → 0 ≤ a ∧ a ≤ 65535 := by
      intro e
      simp only [mayI, Bool.and_eq_true, decide_eq_true_eq] at e
      exact ⟨e.2.1, by omega⟩
    cases ef : fallsB ((k : Int) + 1)
    · by_cases hb : 26 ≤ k
      · have q27 : decide ((k : Int) + 1 < 27) = false := decide_eq_false (by omega)
        cases ey : mayI ((k : Int) + 1) a
        · exact n5_false_false_big _ a w h h1 h2 ef e0 ey q27 (big_gives k hk hb)
        · exact n5_false_true_big _ a w h h1 h2 ef e0 ey q27 (big_gives k hk hb) (b ey).1 (b ey).2
      · have q27 : (k : Int) + 1 < 27 := by omega
        cases ey : mayI ((k : Int) + 1) a
        · exact n5_false_false_small _ a w h h1 h2 ef e0 ey q27
        · exact n5_false_true_small _ a w h h1 h2 ef e0 ey q27 (b ey).1 (b ey).2
    · obtain ⟨hb, ej, ee⟩ := falls_big k hk ef
      have q27 : decide ((k : Int) + 1 < 27) = false := decide_eq_false (by omega)
      cases ey : mayI ((k : Int) + 1) a
      · exact n5_true_false_big _ a w h h1 h2 ef e0 ey ej ee q27 (big_gives k hk hb)
      · exact n5_true_true_big _ a w h h1 h2 ef e0 ey ej ee q27 (big_gives k hk hb) (b ey).1 (b ey).2
  · have hr : ¬ (1 ≤ op ∧ op ≤ 41) := by
      intro hh
      unfold inR at q
      rw [decide_eq_true hh.1, decide_eq_true hh.2] at q
      exact Bool.noConfusion q
    have ey : mayI op a = false := by unfold mayI; rw [q]; rfl
    have en : nameOf op = ⟨#[]⟩ := by unfold nameOf; rw [q]; rfl
    have et : takesB op = -1 := by unfold takesB; rw [q]; rfl
    have eg : givesB op = -1 := by unfold givesB; rw [q]; rfl
    have ej : jumpsB op = false := by unfold jumpsB; simp; omega
    have ee : endsB op = false := by unfold endsB; simp; omega
    have ef : fallsB op = false := by unfold fallsB; simp; omega
    by_cases h1 : 1 ≤ op
    · exact n5_out1 op a w h h1 (decide_eq_false (by omega)) ey en et eg ej ee ef
    · exact n5_out0 op a w h (decide_eq_false h1) ey en et eg ej ee ef
end Go.Proofs.YtpkdmnjonfophaaDoor.I
