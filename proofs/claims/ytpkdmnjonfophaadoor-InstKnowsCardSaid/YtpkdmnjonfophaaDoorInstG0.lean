/- InstKnows, walked call by call. -/
import Derived.Test.YtpkdmnjonfophaaDoorInstG
import Derived.Below
import Derived.Deep.Draws
import Derived.Deep.AppendLies
import Derived.Maps.AppendAt
import Derived.OwnWalk
import Derived.Laws.BytesArg
import Derived.Laws.MakeOwn
import Derived.Laws.OwnMore
import Derived.Deep.OwnRows
import Derived.Tactics
import Derived.Lib.ConvBytes
import Derived.Laws.Slices
import Derived.WalkKit
import Derived.WalkSpells
import Derived.KernelRfl
import Derived.RowKit3
import Derived.Deep.LoopGhost
import Derived.Deep.QuietTactic
import Derived.BigQuiet
import Derived.WideLaws
import Derived.Deep.DeepCutAuto
import Derived.Deep.CutBlock
import Derived.Deep.RegionHeld3
import Derived.Laws.Rows
import Derived.Lib.AppendStr
import Derived.ArgAppend
import Derived.Laws.IdiomCopy
import Derived.OrdersHeld
import Derived.Laws.BitsLemmas
import Derived.RowKit
namespace Go.Proofs.YtpkdmnjonfophaaDoor.I
set_option linter.unusedVariables false
set_option linter.unusedSimpArgs false
open Go.RowKit
set_option maxRecDepth 100000 in
set_option maxHeartbeats 4000000 in
theorem knows3_no (op x : Int) (w : World) (h : HT w) (q22 : (op == 22) = false) (q23 : (op == 23) = false) (q26 : (op == 26) = false) : Calls Tryd.prog 3 #[.agg #[.int .i64 op, .int .i64 x]] w fun e w' => e = .returned (.bool true) ∧ Below w.heap.size w w' := by
  have H := Aside.mk h
  obtain ⟨nm, en⟩ : ∃ y, nameOf op = y := ⟨_, rfl⟩
  obtain ⟨tk, et⟩ : ∃ y, takesB op = y := ⟨_, rfl⟩
  obtain ⟨gv, eg⟩ : ∃ y, givesB op = y := ⟨_, rfl⟩
  obtain ⟨mo, em⟩ : ∃ y, mostB op = y := ⟨_, rfl⟩
  obtain ⟨ir, ei⟩ : ∃ y, inR op = y := ⟨_, rfl⟩
  obtain ⟨my, ey⟩ : ∃ y, mayI op x = y := ⟨_, rfl⟩
  obtain ⟨fb, ef⟩ : ∃ y, fallsB op = y := ⟨_, rfl⟩
  have hbel : Aside (Below w.heap.size w (w.alloc (.cells #[.int .i64 op, .int .i64 x] 23))) := ⟨(Below.refl _ _).alloc (Nat.le_refl _) _⟩
  have hx0 := bx_new w op x 23
  have EN := Aside.mk en
  have ET := Aside.mk et
  have EG := Aside.mk eg
  have EM := Aside.mk em
  have EI := Aside.mk ei
  have EY := Aside.mk ey
  have EF := Aside.mk ef
  clear h en et eg em ei ey ef
  have ej : Aside (jumpsB op = false) := ⟨by unfold jumpsB; simp [*]⟩
  have ee : Aside (endsB op = false) := ⟨by unfold endsB; simp [*]⟩
  go_enter Tryd.func3, Tryd.ntmps3
  (try dsimp only [List.append])
  go_wp2_with fail
  refine (awake7 _ (H.out.below hbel.out)).mono ?_
  rintro e w1 ⟨rfl, hB1⟩
  have hx1 := hx0.below hB1
  have c0_1 := hx1.c0
  have c1_1 := hx1.c1
  have HB1 := Aside.mk (hbel.out.trans (hB1.mono hbel.out.size))
  clear hB1
  go_wp2_with fail
  refine (at8 op tk gv mo nm ir EN.out ET.out EG.out EM.out EI.out _).mono ?_
  rintro e w2 ⟨rfl, hB2⟩
  have hx2 := hx1.below hB2
  have c0_2 := hx2.c0
  have c1_2 := hx2.c1
  have HB2 := Aside.mk (HB1.out.trans (hB2.mono HB1.out.size))
  clear hB2
  have LT2 := hx2.lt
  have BB2 := HB2.out
  clear hx0 hx1 c0_1 c1_1
  go_wp2_with fail
  have n0 : ∀ p : Nr w.heap.size op x w, p.W.cell? ⟨w.heap.size, 0, none⟩ = some (.int .i64 op) := fun p => p.c0
  have n1 : ∀ p : Nr w.heap.size op x w, p.W.cell? ⟨w.heap.size, 1, none⟩ = some (.int .i64 x) := fun p => p.c1
  haveI nn : Nonempty (Nr w.heap.size op x w) := ⟨⟨_, LT2, c0_2, c1_2, BB2⟩⟩
  refine wp_region_nr (op := op) (x := x) ⟨_, LT2, c0_2, c1_2, BB2⟩ rfl (by kernel_rfl) (by kernel_rfl) ?_
  clear c0_2 c1_2
  repeat (go_big_quiet_step ((first | (go_at_call 9; refine nr_calls (at9 op x my EY.out _)) | (go_at_call 10; refine nr_calls (at10 op x my EY.out _)) | (go_at_call 11; refine nr_calls (at11 op nm EN.out _ (H.out.below (Nr.bel _)))) | (go_at_call 12; refine nr_calls (at12 op tk ET.out _)) | (go_at_call 13; refine nr_calls (at13 op gv EG.out _)) | (go_at_call 14; refine nr_calls (at14 op false ej.out _)) | (go_at_call 15; refine nr_calls (at15 op false ee.out _)) | (go_at_call 16; refine nr_calls (at16 op fb EF.out _)) | (go_at_call 17; refine nr_calls (at17 op fb EF.out _)))))
  refine wpQuiet_nil ?_
  intro _ hw'
  obtain ⟨pq, hw''⟩ := hw'
  subst hw''
  have hb := pq.bel
  go_wp2
  go_ret
  exact ⟨by simp, hb⟩
end Go.Proofs.YtpkdmnjonfophaaDoor.I
