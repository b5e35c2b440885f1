/- The reference's Row and InstMay, walked by hand. -/
import Derived.Test.YtckmgoeflecpgaaDoorInstC
import Derived.Below
import Derived.Deep.Draws
import Derived.Deep.AppendLies
import Derived.Maps.AppendAt
import Derived.OwnWalk
import Derived.Laws.BytesArg
import Derived.Laws.MakeOwn
import Derived.Laws.OwnMore
import Derived.Deep.OwnRows
import Derived.Tactics
import Derived.Lib.ConvBytes
import Derived.Laws.Slices
import Derived.WalkKit
import Derived.WalkSpells
import Derived.KernelRfl
import Derived.RowKit3
import Derived.Deep.LoopGhost
import Derived.Deep.QuietTactic
import Derived.BigQuiet
import Derived.WideLaws
import Derived.Deep.DeepCutAuto
import Derived.Deep.CutBlock
import Derived.Deep.RegionHeld3
import Derived.Laws.Rows
import Derived.Lib.AppendStr
import Derived.ArgAppend
import Derived.Laws.IdiomCopy
import Derived.OrdersHeld
import Derived.Laws.BitsLemmas
import Derived.RowKit
namespace Go.Proofs.YtckmgoeflecpgaaDoor.I
set_option linter.unusedVariables false
set_option linter.unusedSimpArgs false
open Go.RowKit
theorem row16 (T : ∀ w : World, Calls Tryd.prog 23 #[] w fun e w' => e = .returned (.slice (some ⟨w.heap.size, 0, none⟩) 42 42) ∧ w' = w.alloc (.cells rowCells 58)) (op : Int) (w : World) :
    Calls Tryd.prog 16 #[.int .i64 op] w fun e w' => e = .returned (.tuple #[.string (nameOf op), .int .i64 (takesB op), .int .i64 (givesB op), .int .i64 (mostB op), .bool (inR op)]) ∧ Below w.heap.size w w' := by
  cases q : inR op
  · have h1 : nameOf op = ⟨#[]⟩ := by unfold nameOf; rw [q]; rfl
    have h2 : takesB op = -1 := by unfold takesB; rw [q]; rfl
    have h3 : givesB op = -1 := by unfold givesB; rw [q]; rfl
    have h4 : mostB op = -1 := by unfold mostB; rw [q]; rfl
    rw [h1, h2, h3, h4]
    have hq : ¬ (1 ≤ op ∧ op ≤ 41) := by
      rintro ⟨a, b⟩
      unfold inR at q
      rw [decide_eq_true a, decide_eq_true b] at q
      cases q
    clear h1 h2 h3 h4 q
    have TA := Aside.mk T
    clear T
    by_cases h : op < 1
    · have d1 : decide (op < 1) = true := decide_eq_true h
      clear hq h
      go_enter Tryd.func16, Tryd.ntmps16
      go_wp2_with (go_at_call 23; refine (TA.out _).mono ?_; rintro e w1 ⟨rfl, rfl⟩)
      refine bodyPost_ret (v := .tuple #[.string ⟨#[]⟩, .int .i64 (-1), .int .i64 (-1), .int .i64 (-1), .bool false]) (by simp [results, Tryd.results16, go_sem]) rfl ⟨rfl, (Below.refl _ _).alloc (Nat.le_refl _) _⟩
    · have d1 : decide (op < 1) = false := decide_eq_false h
      have d2 : decide (42 ≤ op) = true := decide_eq_true (by omega)
      clear hq h
      go_enter Tryd.func16, Tryd.ntmps16
      go_wp2_with (go_at_call 23; refine (TA.out _).mono ?_; rintro e w1 ⟨rfl, rfl⟩)
      refine bodyPost_ret (v := .tuple #[.string ⟨#[]⟩, .int .i64 (-1), .int .i64 (-1), .int .i64 (-1), .bool false]) (by simp [results, Tryd.results16, go_sem]) rfl ⟨rfl, (Below.refl _ _).alloc (Nat.le_refl _) _⟩
  · obtain ⟨hsz, f0, f1, f2, f3⟩ := row_cells op q
    have hb : 1 ≤ op ∧ op ≤ 41 := by
      unfold inR at q
      rw [Bool.and_eq_true] at q
      exact ⟨of_decide_eq_true q.1, of_decide_eq_true q.2⟩
    have hT : Aside (∀ W : World, Calls Tryd.prog 23 #[] W fun e w' => ∃ b, e = .returned (.slice (some ⟨b, 0, none⟩) 42 42) ∧ w'.cell? ⟨b, op.toNat * 4, none⟩ = some (.string (nameOf op)) ∧ w'.cell? ⟨b, op.toNat * 4 + 1, none⟩ = some (.int .i64 (takesB op)) ∧ w'.cell? ⟨b, op.toNat * 4 + 2, none⟩ = some (.int .i64 (givesB op)) ∧ w'.cell? ⟨b, op.toNat * 4 + 3, none⟩ = some (.int .i64 (mostB op)) ∧ Below W.heap.size W w') :=
      ⟨fun W => (T W).mono fun e w' ⟨he, hw⟩ => by
        subst hw
        exact ⟨_, he, by rw [World.cell?_alloc_mark]; exact f0, by rw [World.cell?_alloc_mark]; exact f1, by rw [World.cell?_alloc_mark]; exact f2, by rw [World.cell?_alloc_mark]; exact f3, (Below.refl _ _).alloc (Nat.le_refl _) _⟩⟩
    obtain ⟨nm, hn⟩ : ∃ x, nameOf op = x := ⟨_, rfl⟩
    obtain ⟨tk, ht⟩ : ∃ x, takesB op = x := ⟨_, rfl⟩
    obtain ⟨gv, hg⟩ : ∃ x, givesB op = x := ⟨_, rfl⟩
    obtain ⟨mo, hm⟩ : ∃ x, mostB op = x := ⟨_, rfl⟩
    rw [hn, ht, hg, hm] at hT ⊢
    have d1 : decide (op < 1) = false := decide_eq_false (by omega)
    have d2 : decide (42 ≤ op) = false := decide_eq_false (by omega)
    have hib : 0 ≤ op ∧ op < 42 := by omega
    clear T f0 f1 f2 f3 hsz hn ht hg hm hb q
    go_enter Tryd.func16, Tryd.ntmps16
    go_wp2_with (go_at_call 23; refine (hT.out _).mono ?_; rintro e w1 ⟨b, rfl, c0, c1, c2, c3, hB⟩)
    have hB1 := hB.alloc hB.size (Obj.cells #[Value.string nm, Value.int .i64 tk, Value.int .i64 gv, Value.int .i64 mo] 58)
    have k0 : (w1.alloc (Obj.cells #[Value.string nm, Value.int .i64 tk, Value.int .i64 gv, Value.int .i64 mo] 58)).cell? ⟨w1.heap.size, 0, none⟩ = some (.string nm) := by rw [World.cell?_alloc_mark]; rfl
    have k1 : (w1.alloc (Obj.cells #[Value.string nm, Value.int .i64 tk, Value.int .i64 gv, Value.int .i64 mo] 58)).cell? ⟨w1.heap.size, 1, none⟩ = some (.int .i64 tk) := by rw [World.cell?_alloc_mark]; rfl
    have k2 : (w1.alloc (Obj.cells #[Value.string nm, Value.int .i64 tk, Value.int .i64 gv, Value.int .i64 mo] 58)).cell? ⟨w1.heap.size, 2, none⟩ = some (.int .i64 gv) := by rw [World.cell?_alloc_mark]; rfl
    have k3 : (w1.alloc (Obj.cells #[Value.string nm, Value.int .i64 tk, Value.int .i64 gv, Value.int .i64 mo] 58)).cell? ⟨w1.heap.size, 3, none⟩ = some (.int .i64 mo) := by rw [World.cell?_alloc_mark]; rfl
    go_region
    all_goals go_wp2
    all_goals refine bodyPost_ret (v := .tuple #[.string nm, .int .i64 tk, .int .i64 gv, .int .i64 mo, .bool true]) (by simp [results, Tryd.results16, go_sem]) rfl ⟨rfl, ?_⟩
    all_goals first | exact hB1 | (repeat (first | exact hB1 | apply below_drewN' | exact ⟨hB1.os, hB1.tape, hB1.output, hB1.size, hB1.block⟩))
theorem rmay17 (T : ∀ w : World, Calls Tryd.prog 23 #[] w fun e w' => e = .returned (.slice (some ⟨w.heap.size, 0, none⟩) 42 42) ∧ w' = w.alloc (.cells rowCells 58)) (op x : Int) (w : World) :
    Calls Tryd.prog 17 #[.agg #[.int .i64 op, .int .i64 x]] w fun e w' => e = .returned (.bool (mayI op x)) ∧ Below w.heap.size w w' := by
  have hT := row16 T op
  obtain ⟨nm, hn⟩ : ∃ x, nameOf op = x := ⟨_, rfl⟩
  obtain ⟨tk, ht⟩ : ∃ x, takesB op = x := ⟨_, rfl⟩
  obtain ⟨gv, hg⟩ : ∃ x, givesB op = x := ⟨_, rfl⟩
  obtain ⟨mo, hm⟩ : ∃ x, mostB op = x := ⟨_, rfl⟩
  obtain ⟨r, hr0⟩ : ∃ r, mayI op x = r := ⟨_, rfl⟩
  have hr : Aside (r = (inR op && (decide (0 ≤ x) && decide (x ≤ mo)))) := ⟨by
    rw [← hr0]
    unfold mayI
    cases q : inR op
    · rfl
    · rw [Bool.true_and, Bool.true_and]
      congr 1
      refine decide_eq_decide.2 ?_
      rw [← hm]
      unfold mostB
      rw [q, if_pos rfl]
      omega⟩
  rw [hn, ht, hg, hm] at hT
  rw [hr0]
  have hTA := Aside.mk hT
  clear hn ht hg hm hT hr0 T
  cases q : inR op
  · rw [q] at hTA hr
    have hr1 : Aside (r = false) := ⟨by rw [hr.out]; rfl⟩
    go_enter Tryd.func17, Tryd.ntmps17
    go_wp2_with (go_at_call 16; refine (hTA.out _).mono ?_; rintro e w1 ⟨rfl, hB⟩; have hcx : w1.cell? ⟨w.heap.size, 1, none⟩ = some (.int .i64 x) := (hB.cell (p := ⟨w.heap.size, 1, none⟩) (alloc_lt w _)).trans (by rw [World.cell?_alloc_mark]; rfl); have hB1 : Below w.heap.size w w1 := ((Below.refl _ _).alloc (Nat.le_refl _) _).trans (hB.mono (Nat.le_of_lt (alloc_lt w _))))
    go_ret
    exact ⟨by rw [hr1.out]; rfl, hB1⟩
  · rw [q] at hTA hr
    by_cases h0 : 0 ≤ x
    · have d0 : decide (0 ≤ x) = true := decide_eq_true h0
      by_cases h1 : x ≤ mo
      · have d1 : decide (x ≤ mo) = true := decide_eq_true h1
        have hr1 : Aside (r = true) := ⟨by rw [hr.out, d0, d1]; rfl⟩
        clear h0 h1
        go_enter Tryd.func17, Tryd.ntmps17
        go_wp2_with (go_at_call 16; refine (hTA.out _).mono ?_; rintro e w1 ⟨rfl, hB⟩; have hcx : w1.cell? ⟨w.heap.size, 1, none⟩ = some (.int .i64 x) := (hB.cell (p := ⟨w.heap.size, 1, none⟩) (alloc_lt w _)).trans (by rw [World.cell?_alloc_mark]; rfl); have hB1 : Below w.heap.size w w1 := ((Below.refl _ _).alloc (Nat.le_refl _) _).trans (hB.mono (Nat.le_of_lt (alloc_lt w _))))
        go_ret
        exact ⟨by rw [hr1.out]; rfl, hB1⟩
      · have d1 : decide (x ≤ mo) = false := decide_eq_false h1
        have hr1 : Aside (r = false) := ⟨by rw [hr.out, d0, d1]; rfl⟩
        clear h0 h1
        go_enter Tryd.func17, Tryd.ntmps17
        go_wp2_with (go_at_call 16; refine (hTA.out _).mono ?_; rintro e w1 ⟨rfl, hB⟩; have hcx : w1.cell? ⟨w.heap.size, 1, none⟩ = some (.int .i64 x) := (hB.cell (p := ⟨w.heap.size, 1, none⟩) (alloc_lt w _)).trans (by rw [World.cell?_alloc_mark]; rfl); have hB1 : Below w.heap.size w w1 := ((Below.refl _ _).alloc (Nat.le_refl _) _).trans (hB.mono (Nat.le_of_lt (alloc_lt w _))))
        go_ret
        exact ⟨by rw [hr1.out]; rfl, hB1⟩
    · have d0 : decide (0 ≤ x) = false := decide_eq_false h0
      have hr1 : Aside (r = false) := ⟨by rw [hr.out, d0]; rfl⟩
      clear h0
      go_enter Tryd.func17, Tryd.ntmps17
      go_wp2_with (go_at_call 16; refine (hTA.out _).mono ?_; rintro e w1 ⟨rfl, hB⟩; have hcx : w1.cell? ⟨w.heap.size, 1, none⟩ = some (.int .i64 x) := (hB.cell (p := ⟨w.heap.size, 1, none⟩) (alloc_lt w _)).trans (by rw [World.cell?_alloc_mark]; rfl); have hB1 : Below w.heap.size w w1 := ((Below.refl _ _).alloc (Nat.le_refl _) _).trans (hB.mono (Nat.le_of_lt (alloc_lt w _))))
      go_ret
      exact ⟨by rw [hr1.out]; rfl, hB1⟩
end Go.Proofs.YtckmgoeflecpgaaDoor.I
