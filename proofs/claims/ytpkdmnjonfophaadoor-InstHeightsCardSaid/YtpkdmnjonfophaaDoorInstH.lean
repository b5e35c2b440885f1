/- InstHeights, walked call by call. -/
import Derived.Test.YtpkdmnjonfophaaDoorInstF
import Derived.Below
import Derived.Deep.Draws
import Derived.Deep.AppendLies
import Derived.Maps.AppendAt
import Derived.OwnWalk
import Derived.Laws.BytesArg
import Derived.Laws.MakeOwn
import Derived.Laws.OwnMore
import Derived.Deep.OwnRows
import Derived.Tactics
import Derived.Lib.ConvBytes
import Derived.Laws.Slices
import Derived.WalkKit
import Derived.WalkSpells
import Derived.KernelRfl
import Derived.RowKit3
import Derived.Deep.LoopGhost
import Derived.Deep.QuietTactic
import Derived.BigQuiet
import Derived.WideLaws
import Derived.Deep.DeepCutAuto
import Derived.Deep.CutBlock
import Derived.Deep.RegionHeld3
import Derived.Laws.Rows
import Derived.Lib.AppendStr
import Derived.ArgAppend
import Derived.Laws.IdiomCopy
import Derived.OrdersHeld
import Derived.Laws.BitsLemmas
import Derived.RowKit
namespace Go.Proofs.YtpkdmnjonfophaaDoor.I
set_option linter.unusedVariables false
set_option linter.unusedSimpArgs false
open Go.RowKit
set_option maxRecDepth 100000 in
set_option maxHeartbeats 1000000 in
theorem h6_0 (op : Int) (w : World) (h : HT w) (et : takesB op = 0) (eg : givesB op = 1) (ej : jumpsB op = false) (ee : endsB op = false) : Calls Tryd.prog 6 #[.int .i64 op] w fun e w' => e = .returned (.bool true) ∧ Below w.heap.size w w' := by
  have H := Aside.mk h
  have ET := Aside.mk et
  have EG := Aside.mk eg
  have EJ := Aside.mk ej
  have EE := Aside.mk ee
  clear h et eg ej ee
  go_enter Tryd.func6, Tryd.ntmps6
  go_wp2_with fail
  refine (awake7 _ H.out).mono ?_
  rintro e w1 ⟨rfl, hB1⟩
  have HB1 := Aside.mk ((Below.refl w.heap.size w).trans (hB1.mono (Below.refl w.heap.size w).size))
  clear hB1
  go_wp2_with fail
  refine (at12 op (0) ET.out _).mono ?_
  rintro e w2 ⟨rfl, hB2⟩
  have HB2 := Aside.mk (HB1.out.trans (hB2.mono HB1.out.size))
  clear hB2
  go_wp2_with fail
  refine (at13 op (1) EG.out _).mono ?_
  rintro e w3 ⟨rfl, hB3⟩
  have HB3 := Aside.mk (HB2.out.trans (hB3.mono HB2.out.size))
  clear hB3
  go_wp2_with fail
  refine (at15 op false EE.out _).mono ?_
  rintro e w4 ⟨rfl, hB4⟩
  have HB4 := Aside.mk (HB3.out.trans (hB4.mono HB3.out.size))
  clear hB4
  go_wp2_with fail
  refine (at14 op false EJ.out _).mono ?_
  rintro e w5 ⟨rfl, hB5⟩
  have HB5 := Aside.mk (HB4.out.trans (hB5.mono HB4.out.size))
  clear hB5
  go_wp2
  go_ret
  exact ⟨by simp, HB5.out⟩
set_option maxRecDepth 100000 in
set_option maxHeartbeats 1000000 in
theorem h6_1 (op : Int) (w : World) (h : HT w) (et : takesB op = 1) (eg : givesB op = 0) (ej : jumpsB op = false) (ee : endsB op = false) : Calls Tryd.prog 6 #[.int .i64 op] w fun e w' => e = .returned (.bool true) ∧ Below w.heap.size w w' := by
  have H := Aside.mk h
  have ET := Aside.mk et
  have EG := Aside.mk eg
  have EJ := Aside.mk ej
  have EE := Aside.mk ee
  clear h et eg ej ee
  go_enter Tryd.func6, Tryd.ntmps6
  go_wp2_with fail
  refine (awake7 _ H.out).mono ?_
  rintro e w1 ⟨rfl, hB1⟩
  have HB1 := Aside.mk ((Below.refl w.heap.size w).trans (hB1.mono (Below.refl w.heap.size w).size))
  clear hB1
  go_wp2_with fail
  refine (at12 op (1) ET.out _).mono ?_
  rintro e w2 ⟨rfl, hB2⟩
  have HB2 := Aside.mk (HB1.out.trans (hB2.mono HB1.out.size))
  clear hB2
  go_wp2_with fail
  refine (at13 op (0) EG.out _).mono ?_
  rintro e w3 ⟨rfl, hB3⟩
  have HB3 := Aside.mk (HB2.out.trans (hB3.mono HB2.out.size))
  clear hB3
  go_wp2_with fail
  refine (at15 op false EE.out _).mono ?_
  rintro e w4 ⟨rfl, hB4⟩
  have HB4 := Aside.mk (HB3.out.trans (hB4.mono HB3.out.size))
  clear hB4
  go_wp2_with fail
  refine (at14 op false EJ.out _).mono ?_
  rintro e w5 ⟨rfl, hB5⟩
  have HB5 := Aside.mk (HB4.out.trans (hB5.mono HB4.out.size))
  clear hB5
  go_wp2
  go_ret
  exact ⟨by simp, HB5.out⟩
set_option maxRecDepth 100000 in
set_option maxHeartbeats 1000000 in
theorem h6_2 (op : Int) (w : World) (h : HT w) (et : takesB op = 1) (eg : givesB op = 2) (ej : jumpsB op = false) (ee : endsB op = false) : Calls Tryd.prog 6 #[.int .i64 op] w fun e w' => e = .returned (.bool true) ∧ Below w.heap.size w w' := by
  have H := Aside.mk h
  have ET := Aside.mk et
  have EG := Aside.mk eg
  have EJ := Aside.mk ej
  have EE := Aside.mk ee
  clear h et eg ej ee
  go_enter Tryd.func6, Tryd.ntmps6
  go_wp2_with fail
  refine (awake7 _ H.out).mono ?_
  rintro e w1 ⟨rfl, hB1⟩
  have HB1 := Aside.mk ((Below.refl w.heap.size w).trans (hB1.mono (Below.refl w.heap.size w).size))
  clear hB1
  go_wp2_with fail
  refine (at12 op (1) ET.out _).mono ?_
  rintro e w2 ⟨rfl, hB2⟩
  have HB2 := Aside.mk (HB1.out.trans (hB2.mono HB1.out.size))
  clear hB2
  go_wp2_with fail
  refine (at13 op (2) EG.out _).mono ?_
  rintro e w3 ⟨rfl, hB3⟩
  have HB3 := Aside.mk (HB2.out.trans (hB3.mono HB2.out.size))
  clear hB3
  go_wp2_with fail
  refine (at15 op false EE.out _).mono ?_
  rintro e w4 ⟨rfl, hB4⟩
  have HB4 := Aside.mk (HB3.out.trans (hB4.mono HB3.out.size))
  clear hB4
  go_wp2_with fail
  refine (at14 op false EJ.out _).mono ?_
  rintro e w5 ⟨rfl, hB5⟩
  have HB5 := Aside.mk (HB4.out.trans (hB5.mono HB4.out.size))
  clear hB5
  go_wp2
  go_ret
  exact ⟨by simp, HB5.out⟩
set_option maxRecDepth 100000 in
set_option maxHeartbeats 1000000 in
theorem h6_3 (op : Int) (w : World) (h : HT w) (et : takesB op = 2) (eg : givesB op = 2) (ej : jumpsB op = false) (ee : endsB op = false) : Calls Tryd.prog 6 #[.int .i64 op] w fun e w' => e = .returned (.bool true) ∧ Below w.heap.size w w' := by
  have H := Aside.mk h
  have ET := Aside.mk et
  have EG := Aside.mk eg
  have EJ := Aside.mk ej
  have EE := Aside.mk ee
  clear h et eg ej ee
  go_enter Tryd.func6, Tryd.ntmps6
  go_wp2_with fail
  refine (awake7 _ H.out).mono ?_
  rintro e w1 ⟨rfl, hB1⟩
  have HB1 := Aside.mk ((Below.refl w.heap.size w).trans (hB1.mono (Below.refl w.heap.size w).size))
  clear hB1
  go_wp2_with fail
  refine (at12 op (2) ET.out _).mono ?_
  rintro e w2 ⟨rfl, hB2⟩
  have HB2 := Aside.mk (HB1.out.trans (hB2.mono HB1.out.size))
  clear hB2
  go_wp2_with fail
  refine (at13 op (2) EG.out _).mono ?_
  rintro e w3 ⟨rfl, hB3⟩
  have HB3 := Aside.mk (HB2.out.trans (hB3.mono HB2.out.size))
  clear hB3
  go_wp2_with fail
  refine (at15 op false EE.out _).mono ?_
  rintro e w4 ⟨rfl, hB4⟩
  have HB4 := Aside.mk (HB3.out.trans (hB4.mono HB3.out.size))
  clear hB4
  go_wp2_with fail
  refine (at14 op false EJ.out _).mono ?_
  rintro e w5 ⟨rfl, hB5⟩
  have HB5 := Aside.mk (HB4.out.trans (hB5.mono HB4.out.size))
  clear hB5
  go_wp2
  go_ret
  exact ⟨by simp, HB5.out⟩
set_option maxRecDepth 100000 in
set_option maxHeartbeats 1000000 in
theorem h6_4 (op : Int) (w : World) (h : HT w) (et : takesB op = 2) (eg : givesB op = 1) (ej : jumpsB op = false) (ee : endsB op = false) : Calls Tryd.prog 6 #[.int .i64 op] w fun e w' => e = .returned (.bool true) ∧ Below w.heap.size w w' := by
  have H := Aside.mk h
  have ET := Aside.mk et
  have EG := Aside.mk eg
  have EJ := Aside.mk ej
  have EE := Aside.mk ee
  clear h et eg ej ee
  go_enter Tryd.func6, Tryd.ntmps6
  go_wp2_with fail
  refine (awake7 _ H.out).mono ?_
  rintro e w1 ⟨rfl, hB1⟩
  have HB1 := Aside.mk ((Below.refl w.heap.size w).trans (hB1.mono (Below.refl w.heap.size w).size))
  clear hB1
  go_wp2_with fail
  refine (at12 op (2) ET.out _).mono ?_
  rintro e w2 ⟨rfl, hB2⟩
  have HB2 := Aside.mk (HB1.out.trans (hB2.mono HB1.out.size))
  clear hB2
  go_wp2_with fail
  refine (at13 op (1) EG.out _).mono ?_
  rintro e w3 ⟨rfl, hB3⟩
  have HB3 := Aside.mk (HB2.out.trans (hB3.mono HB2.out.size))
  clear hB3
  go_wp2_with fail
  refine (at15 op false EE.out _).mono ?_
  rintro e w4 ⟨rfl, hB4⟩
  have HB4 := Aside.mk (HB3.out.trans (hB4.mono HB3.out.size))
  clear hB4
  go_wp2_with fail
  refine (at14 op false EJ.out _).mono ?_
  rintro e w5 ⟨rfl, hB5⟩
  have HB5 := Aside.mk (HB4.out.trans (hB5.mono HB4.out.size))
  clear hB5
  go_wp2
  go_ret
  exact ⟨by simp, HB5.out⟩
set_option maxRecDepth 100000 in
set_option maxHeartbeats 1000000 in
theorem h6_5 (op : Int) (w : World) (h : HT w) (et : takesB op = 1) (eg : givesB op = 1) (ej : jumpsB op = false) (ee : endsB op = false) : Calls Tryd.prog 6 #[.int .i64 op] w fun e w' => e = .returned (.bool true) ∧ Below w.heap.size w w' := by
  have H := Aside.mk h
  have ET := Aside.mk et
  have EG := Aside.mk eg
  have EJ := Aside.mk ej
  have EE := Aside.mk ee
  clear h et eg ej ee
  go_enter Tryd.func6, Tryd.ntmps6
  go_wp2_with fail
  refine (awake7 _ H.out).mono ?_
  rintro e w1 ⟨rfl, hB1⟩
  have HB1 := Aside.mk ((Below.refl w.heap.size w).trans (hB1.mono (Below.refl w.heap.size w).size))
  clear hB1
  go_wp2_with fail
  refine (at12 op (1) ET.out _).mono ?_
  rintro e w2 ⟨rfl, hB2⟩
  have HB2 := Aside.mk (HB1.out.trans (hB2.mono HB1.out.size))
  clear hB2
  go_wp2_with fail
  refine (at13 op (1) EG.out _).mono ?_
  rintro e w3 ⟨rfl, hB3⟩
  have HB3 := Aside.mk (HB2.out.trans (hB3.mono HB2.out.size))
  clear hB3
  go_wp2_with fail
  refine (at15 op false EE.out _).mono ?_
  rintro e w4 ⟨rfl, hB4⟩
  have HB4 := Aside.mk (HB3.out.trans (hB4.mono HB3.out.size))
  clear hB4
  go_wp2_with fail
  refine (at14 op false EJ.out _).mono ?_
  rintro e w5 ⟨rfl, hB5⟩
  have HB5 := Aside.mk (HB4.out.trans (hB5.mono HB4.out.size))
  clear hB5
  go_wp2
  go_ret
  exact ⟨by simp, HB5.out⟩
set_option maxRecDepth 100000 in
set_option maxHeartbeats 1000000 in
theorem h6_6 (op : Int) (w : World) (h : HT w) (et : takesB op = 2) (eg : givesB op = 0) (ej : jumpsB op = false) (ee : endsB op = false) : Calls Tryd.prog 6 #[.int .i64 op] w fun e w' => e = .returned (.bool true) ∧ Below w.heap.size w w' := by
  have H := Aside.mk h
  have ET := Aside.mk et
  have EG := Aside.mk eg
  have EJ := Aside.mk ej
  have EE := Aside.mk ee
  clear h et eg ej ee
  go_enter Tryd.func6, Tryd.ntmps6
  go_wp2_with fail
  refine (awake7 _ H.out).mono ?_
  rintro e w1 ⟨rfl, hB1⟩
  have HB1 := Aside.mk ((Below.refl w.heap.size w).trans (hB1.mono (Below.refl w.heap.size w).size))
  clear hB1
  go_wp2_with fail
  refine (at12 op (2) ET.out _).mono ?_
  rintro e w2 ⟨rfl, hB2⟩
  have HB2 := Aside.mk (HB1.out.trans (hB2.mono HB1.out.size))
  clear hB2
  go_wp2_with fail
  refine (at13 op (0) EG.out _).mono ?_
  rintro e w3 ⟨rfl, hB3⟩
  have HB3 := Aside.mk (HB2.out.trans (hB3.mono HB2.out.size))
  clear hB3
  go_wp2_with fail
  refine (at15 op false EE.out _).mono ?_
  rintro e w4 ⟨rfl, hB4⟩
  have HB4 := Aside.mk (HB3.out.trans (hB4.mono HB3.out.size))
  clear hB4
  go_wp2_with fail
  refine (at14 op false EJ.out _).mono ?_
  rintro e w5 ⟨rfl, hB5⟩
  have HB5 := Aside.mk (HB4.out.trans (hB5.mono HB4.out.size))
  clear hB5
  go_wp2
  go_ret
  exact ⟨by simp, HB5.out⟩
set_option maxRecDepth 100000 in
set_option maxHeartbeats 1000000 in
theorem h6_7 (op : Int) (w : World) (h : HT w) (et : takesB op = 0) (eg : givesB op = 0) (ej : jumpsB op = true) (ee : endsB op = true) : Calls Tryd.prog 6 #[.int .i64 op] w fun e w' => e = .returned (.bool true) ∧ Below w.heap.size w w' := by
  have H := Aside.mk h
  have ET := Aside.mk et
  have EG := Aside.mk eg
  have EJ := Aside.mk ej
  have EE := Aside.mk ee
  clear h et eg ej ee
  go_enter Tryd.func6, Tryd.ntmps6
  go_wp2_with fail
  refine (awake7 _ H.out).mono ?_
  rintro e w1 ⟨rfl, hB1⟩
  have HB1 := Aside.mk ((Below.refl w.heap.size w).trans (hB1.mono (Below.refl w.heap.size w).size))
  clear hB1
  go_wp2_with fail
  refine (at12 op (0) ET.out _).mono ?_
  rintro e w2 ⟨rfl, hB2⟩
  have HB2 := Aside.mk (HB1.out.trans (hB2.mono HB1.out.size))
  clear hB2
  go_wp2_with fail
  refine (at13 op (0) EG.out _).mono ?_
  rintro e w3 ⟨rfl, hB3⟩
  have HB3 := Aside.mk (HB2.out.trans (hB3.mono HB2.out.size))
  clear hB3
  go_wp2_with fail
  refine (at15 op true EE.out _).mono ?_
  rintro e w4 ⟨rfl, hB4⟩
  have HB4 := Aside.mk (HB3.out.trans (hB4.mono HB3.out.size))
  clear hB4
  go_wp2_with fail
  refine (at14 op true EJ.out _).mono ?_
  rintro e w5 ⟨rfl, hB5⟩
  have HB5 := Aside.mk (HB4.out.trans (hB5.mono HB4.out.size))
  clear hB5
  go_wp2
  go_ret
  exact ⟨by simp, HB5.out⟩
set_option maxRecDepth 100000 in
set_option maxHeartbeats 1000000 in
theorem h6_8 (op : Int) (w : World) (h : HT w) (et : takesB op = 1) (eg : givesB op = 0) (ej : jumpsB op = true) (ee : endsB op = false) : Calls Tryd.prog 6 #[.int .i64 op] w fun e w' => e = .returned (.bool true) ∧ Below w.heap.size w w' := by
  have H := Aside.mk h
  have ET := Aside.mk et
  have EG := Aside.mk eg
  have EJ := Aside.mk ej
  have EE := Aside.mk ee
  clear h et eg ej ee
  go_enter Tryd.func6, Tryd.ntmps6
  go_wp2_with fail
  refine (awake7 _ H.out).mono ?_
  rintro e w1 ⟨rfl, hB1⟩
  have HB1 := Aside.mk ((Below.refl w.heap.size w).trans (hB1.mono (Below.refl w.heap.size w).size))
  clear hB1
  go_wp2_with fail
  refine (at12 op (1) ET.out _).mono ?_
  rintro e w2 ⟨rfl, hB2⟩
  have HB2 := Aside.mk (HB1.out.trans (hB2.mono HB1.out.size))
  clear hB2
  go_wp2_with fail
  refine (at13 op (0) EG.out _).mono ?_
  rintro e w3 ⟨rfl, hB3⟩
  have HB3 := Aside.mk (HB2.out.trans (hB3.mono HB2.out.size))
  clear hB3
  go_wp2_with fail
  refine (at15 op false EE.out _).mono ?_
  rintro e w4 ⟨rfl, hB4⟩
  have HB4 := Aside.mk (HB3.out.trans (hB4.mono HB3.out.size))
  clear hB4
  go_wp2_with fail
  refine (at14 op true EJ.out _).mono ?_
  rintro e w5 ⟨rfl, hB5⟩
  have HB5 := Aside.mk (HB4.out.trans (hB5.mono HB4.out.size))
  clear hB5
  go_wp2
  go_ret
  exact ⟨by simp, HB5.out⟩
set_option maxRecDepth 100000 in
set_option maxHeartbeats 1000000 in
theorem h6_9 (op : Int) (w : World) (h : HT w) (et : takesB op = 1) (eg : givesB op = 0) (ej : jumpsB op = false) (ee : endsB op = true) : Calls Tryd.prog 6 #[.int .i64 op] w fun e w' => e = .returned (.bool true) ∧ Below w.heap.size w w' := by
  have H := Aside.mk h
  have ET := Aside.mk et
  have EG := Aside.mk eg
  have EJ := Aside.mk ej
  have EE := Aside.mk ee
  clear h et eg ej ee
  go_enter Tryd.func6, Tryd.ntmps6
  go_wp2_with fail
  refine (awake7 _ H.out).mono ?_
  rintro e w1 ⟨rfl, hB1⟩
  have HB1 := Aside.mk ((Below.refl w.heap.size w).trans (hB1.mono (Below.refl w.heap.size w).size))
  clear hB1
  go_wp2_with fail
  refine (at12 op (1) ET.out _).mono ?_
  rintro e w2 ⟨rfl, hB2⟩
  have HB2 := Aside.mk (HB1.out.trans (hB2.mono HB1.out.size))
  clear hB2
  go_wp2_with fail
  refine (at13 op (0) EG.out _).mono ?_
  rintro e w3 ⟨rfl, hB3⟩
  have HB3 := Aside.mk (HB2.out.trans (hB3.mono HB2.out.size))
  clear hB3
  go_wp2_with fail
  refine (at15 op true EE.out _).mono ?_
  rintro e w4 ⟨rfl, hB4⟩
  have HB4 := Aside.mk (HB3.out.trans (hB4.mono HB3.out.size))
  clear hB4
  go_wp2_with fail
  refine (at14 op false EJ.out _).mono ?_
  rintro e w5 ⟨rfl, hB5⟩
  have HB5 := Aside.mk (HB4.out.trans (hB5.mono HB4.out.size))
  clear hB5
  go_wp2
  go_ret
  exact ⟨by simp, HB5.out⟩
set_option maxRecDepth 100000 in
set_option maxHeartbeats 1000000 in
theorem h6_10 (op : Int) (w : World) (h : HT w) (et : takesB op = 3) (eg : givesB op = 1) (ej : jumpsB op = false) (ee : endsB op = false) : Calls Tryd.prog 6 #[.int .i64 op] w fun e w' => e = .returned (.bool true) ∧ Below w.heap.size w w' := by
  have H := Aside.mk h
  have ET := Aside.mk et
  have EG := Aside.mk eg
  have EJ := Aside.mk ej
  have EE := Aside.mk ee
  clear h et eg ej ee
  go_enter Tryd.func6, Tryd.ntmps6
  go_wp2_with fail
  refine (awake7 _ H.out).mono ?_
  rintro e w1 ⟨rfl, hB1⟩
  have HB1 := Aside.mk ((Below.refl w.heap.size w).trans (hB1.mono (Below.refl w.heap.size w).size))
  clear hB1
  go_wp2_with fail
  refine (at12 op (3) ET.out _).mono ?_
  rintro e w2 ⟨rfl, hB2⟩
  have HB2 := Aside.mk (HB1.out.trans (hB2.mono HB1.out.size))
  clear hB2
  go_wp2_with fail
  refine (at13 op (1) EG.out _).mono ?_
  rintro e w3 ⟨rfl, hB3⟩
  have HB3 := Aside.mk (HB2.out.trans (hB3.mono HB2.out.size))
  clear hB3
  go_wp2_with fail
  refine (at15 op false EE.out _).mono ?_
  rintro e w4 ⟨rfl, hB4⟩
  have HB4 := Aside.mk (HB3.out.trans (hB4.mono HB3.out.size))
  clear hB4
  go_wp2_with fail
  refine (at14 op false EJ.out _).mono ?_
  rintro e w5 ⟨rfl, hB5⟩
  have HB5 := Aside.mk (HB4.out.trans (hB5.mono HB4.out.size))
  clear hB5
  go_wp2
  go_ret
  exact ⟨by simp, HB5.out⟩
set_option maxRecDepth 100000 in
set_option maxHeartbeats 1000000 in
theorem h6_no (op : Int) (w : World) (h : HT w) (et : takesB op = -1) (eg : givesB op = -1) (en : nameOf op = ⟨#[]⟩) : Calls Tryd.prog 6 #[.int .i64 op] w fun e w' => e = .returned (.bool true) ∧ Below w.heap.size w w' := by
  have H := Aside.mk h
  have ET := Aside.mk et
  have EG := Aside.mk eg
  have EN := Aside.mk en
  clear h et eg en
  go_enter Tryd.func6, Tryd.ntmps6
  go_wp2_with fail
  refine (awake7 _ H.out).mono ?_
  rintro e w1 ⟨rfl, hB1⟩
  have HB1 := Aside.mk ((Below.refl w.heap.size w).trans (hB1.mono (Below.refl w.heap.size w).size))
  clear hB1
  go_wp2_with fail
  refine (at12 op (-1) ET.out _).mono ?_
  rintro e w2 ⟨rfl, hB2⟩
  have HB2 := Aside.mk (HB1.out.trans (hB2.mono HB1.out.size))
  clear hB2
  go_wp2_with fail
  refine (at13 op (-1) EG.out _).mono ?_
  rintro e w3 ⟨rfl, hB3⟩
  have HB3 := Aside.mk (HB2.out.trans (hB3.mono HB2.out.size))
  clear hB3
  go_wp2_with fail
  refine (at11 op ⟨#[]⟩ EN.out _ (H.out.below HB3.out)).mono ?_
  rintro e w4 ⟨rfl, hB4⟩
  have HB4 := Aside.mk (HB3.out.trans (hB4.mono HB3.out.size))
  clear hB4
  go_wp2
  go_ret
  exact ⟨by simp, HB4.out⟩
theorem heights6 (op : Int) (w : World) (h : HT w) : Calls Tryd.prog 6 #[.int .i64 op] w fun e w' => e = .returned (.bool true) ∧ Below w.heap.size w w' := by
  rcases op_cases op with ⟨k, hk, rfl⟩ | q
  · match k, hk with
    | 0, _ => exact h6_0 _ w h (by kernel_rfl) (by kernel_rfl) (by kernel_rfl) (by kernel_rfl)
    | 1, _ => exact h6_1 _ w h (by kernel_rfl) (by kernel_rfl) (by kernel_rfl) (by kernel_rfl)
    | 2, _ => exact h6_2 _ w h (by kernel_rfl) (by kernel_rfl) (by kernel_rfl) (by kernel_rfl)
    | 3, _ => exact h6_3 _ w h (by kernel_rfl) (by kernel_rfl) (by kernel_rfl) (by kernel_rfl)
    | 4, _ => exact h6_4 _ w h (by kernel_rfl) (by kernel_rfl) (by kernel_rfl) (by kernel_rfl)
    | 5, _ => exact h6_4 _ w h (by kernel_rfl) (by kernel_rfl) (by kernel_rfl) (by kernel_rfl)
    | 6, _ => exact h6_4 _ w h (by kernel_rfl) (by kernel_rfl) (by kernel_rfl) (by kernel_rfl)
    | 7, _ => exact h6_4 _ w h (by kernel_rfl) (by kernel_rfl) (by kernel_rfl) (by kernel_rfl)
    | 8, _ => exact h6_4 _ w h (by kernel_rfl) (by kernel_rfl) (by kernel_rfl) (by kernel_rfl)
    | 9, _ => exact h6_4 _ w h (by kernel_rfl) (by kernel_rfl) (by kernel_rfl) (by kernel_rfl)
    | 10, _ => exact h6_4 _ w h (by kernel_rfl) (by kernel_rfl) (by kernel_rfl) (by kernel_rfl)
    | 11, _ => exact h6_4 _ w h (by kernel_rfl) (by kernel_rfl) (by kernel_rfl) (by kernel_rfl)
    | 12, _ => exact h6_4 _ w h (by kernel_rfl) (by kernel_rfl) (by kernel_rfl) (by kernel_rfl)
    | 13, _ => exact h6_4 _ w h (by kernel_rfl) (by kernel_rfl) (by kernel_rfl) (by kernel_rfl)
    | 14, _ => exact h6_4 _ w h (by kernel_rfl) (by kernel_rfl) (by kernel_rfl) (by kernel_rfl)
    | 15, _ => exact h6_4 _ w h (by kernel_rfl) (by kernel_rfl) (by kernel_rfl) (by kernel_rfl)
    | 16, _ => exact h6_5 _ w h (by kernel_rfl) (by kernel_rfl) (by kernel_rfl) (by kernel_rfl)
    | 17, _ => exact h6_0 _ w h (by kernel_rfl) (by kernel_rfl) (by kernel_rfl) (by kernel_rfl)
    | 18, _ => exact h6_1 _ w h (by kernel_rfl) (by kernel_rfl) (by kernel_rfl) (by kernel_rfl)
    | 19, _ => exact h6_5 _ w h (by kernel_rfl) (by kernel_rfl) (by kernel_rfl) (by kernel_rfl)
    | 20, _ => exact h6_6 _ w h (by kernel_rfl) (by kernel_rfl) (by kernel_rfl) (by kernel_rfl)
    | 21, _ => exact h6_7 _ w h (by kernel_rfl) (by kernel_rfl) (by kernel_rfl) (by kernel_rfl)
    | 22, _ => exact h6_8 _ w h (by kernel_rfl) (by kernel_rfl) (by kernel_rfl) (by kernel_rfl)
    | 23, _ => exact h6_1 _ w h (by kernel_rfl) (by kernel_rfl) (by kernel_rfl) (by kernel_rfl)
    | 24, _ => exact h6_1 _ w h (by kernel_rfl) (by kernel_rfl) (by kernel_rfl) (by kernel_rfl)
    | 25, _ => exact h6_9 _ w h (by kernel_rfl) (by kernel_rfl) (by kernel_rfl) (by kernel_rfl)
    | 26, _ => exact h6_0 _ w h (by kernel_rfl) (by kernel_rfl) (by kernel_rfl) (by kernel_rfl)
    | 27, _ => exact h6_5 _ w h (by kernel_rfl) (by kernel_rfl) (by kernel_rfl) (by kernel_rfl)
    | 28, _ => exact h6_10 _ w h (by kernel_rfl) (by kernel_rfl) (by kernel_rfl) (by kernel_rfl)
    | 29, _ => exact h6_10 _ w h (by kernel_rfl) (by kernel_rfl) (by kernel_rfl) (by kernel_rfl)
    | 30, _ => exact h6_4 _ w h (by kernel_rfl) (by kernel_rfl) (by kernel_rfl) (by kernel_rfl)
    | 31, _ => exact h6_5 _ w h (by kernel_rfl) (by kernel_rfl) (by kernel_rfl) (by kernel_rfl)
    | 32, _ => exact h6_0 _ w h (by kernel_rfl) (by kernel_rfl) (by kernel_rfl) (by kernel_rfl)
    | 33, _ => exact h6_0 _ w h (by kernel_rfl) (by kernel_rfl) (by kernel_rfl) (by kernel_rfl)
    | 34, _ => exact h6_0 _ w h (by kernel_rfl) (by kernel_rfl) (by kernel_rfl) (by kernel_rfl)
    | 35, _ => exact h6_0 _ w h (by kernel_rfl) (by kernel_rfl) (by kernel_rfl) (by kernel_rfl)
    | 36, _ => exact h6_0 _ w h (by kernel_rfl) (by kernel_rfl) (by kernel_rfl) (by kernel_rfl)
    | 37, _ => exact h6_4 _ w h (by kernel_rfl) (by kernel_rfl) (by kernel_rfl) (by kernel_rfl)
    | 38, _ => exact h6_5 _ w h (by kernel_rfl) (by kernel_rfl) (by kernel_rfl) (by kernel_rfl)
    | 39, _ => exact h6_0 _ w h (by kernel_rfl) (by kernel_rfl) (by kernel_rfl) (by kernel_rfl)
    | 40, _ => exact h6_4 _ w h (by kernel_rfl) (by kernel_rfl) (by kernel_rfl) (by kernel_rfl)
    | k + 41, h => exact absurd h (by omega)
  · exact h6_no op w h (by unfold takesB; rw [q]; rfl) (by unfold givesB; rw [q]; rfl) (by unfold nameOf; rw [q]; rfl)
end Go.Proofs.YtpkdmnjonfophaaDoor.I
