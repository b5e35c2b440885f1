-- Laid by a program of this session (the kit's print, changed): Lean checks it.
import Derived.Test.YtlnogacjebbepaaDoorPx0
import Derived.Test.YtlnogacjebbepaaDoorGRHead
namespace Go.Proofs.YtlnogacjebbepaaDoor.G
end Go.Proofs.YtlnogacjebbepaaDoor.G
namespace Go.Proofs.YtlnogacjebbepaaDoor.P
open Go.Proofs.YtlnogacjebbepaaDoor.G
open Go.RowKit Go.Proofs.YtlnogacjebbepaaDoorW.PrintWords Go.Proofs.YtlnogacjebbepaaDoorW.PrintLast Go.Proofs.YtlnogacjebbepaaDoorW.PrintMore
attribute [local go_sem] max2_int min2_int max_two min_two max_three min_three max_four min_four   -- for this text's walks alone
set_option linter.unusedVariables false
set_option linter.unusedSimpArgs false

/-! ### crossroadsref22_Write: function 12 -/
mutual
def crossroadsref22_Write.l0 : Nat → List (S37) → Int → Option (List Int × Int)
  | 0, _, _ => none
  | k + 1, x0, x5 => if x5 < (x0.length : Int) then (if 0 ≤ x5 then (if (((rd_T37 x0 x5).f0).size : Int) < 1 then (crossroadsref22_Write.j1 k x0 x5 true ((rd_T37 x0 x5).f0) ((rd_T37 x0 x5).f1) ((rd_T37 x0 x5).f2)) else (crossroadsref22_Write.j1 k x0 x5 (decide ((((rd_T37 x0 x5).f0).size : Int) > 99)) ((rd_T37 x0 x5).f0) ((rd_T37 x0 x5).f1) ((rd_T37 x0 x5).f2))) else (none)) else (crossroadsref22_Write.l2 k x0 0)
def crossroadsref22_Write.j1 : Nat → List (S37) → Int → Bool → ByteArray → Bool → List Int → Option (List Int × Int)
  | 0, _, _, _, _, _, _ => none
  | k + 1, x0, x5, x29, x200000, x200001, x200002 => if x29 = true then (some (([] : List Int), 10)) else (crossroadsref22_Write.l1 k x0 x5 0 x200000 x200001 x200002)
def crossroadsref22_Write.l1 : Nat → List (S37) → Int → Int → ByteArray → Bool → List Int → Option (List Int × Int)
  | 0, _, _, _, _, _, _ => none
  | k + 1, x0, x5, x7, x200000, x200001, x200002 => if x7 < (x200000.size : Int) then (if 0 ≤ x7 then (if (bt x200000 x7) = 0 then (some (([] : List Int), 10)) else (crossroadsref22_Write.l1 k x0 x5 (wrap64 (x7 + 1)) x200000 x200001 x200002)) else (none)) else (crossroadsref22_Write.l0 k x0 (wrap64 (x5 + 1)))
def crossroadsref22_Write.l2 : Nat → List (S37) → Int → Option (List Int × Int)
  | 0, _, _ => none
  | k + 1, x0, x8 => if x8 < (x0.length : Int) then (if 0 ≤ x8 then (if (rd_T37 x0 x8).f1 = true then (if (((rd_T37 x0 x8).f2).length : Int) > 0 then (some (([] : List Int), 12)) else (crossroadsref22_Write.l2 k x0 (wrap64 (x8 + 1)))) else (crossroadsref22_Write.l2 k x0 (wrap64 (x8 + 1)))) else (none)) else (crossroadsref22_Write.l3 k x0 ([] : List Int) 0)
def crossroadsref22_Write.l3 : Nat → List (S37) → List Int → Int → Option (List Int × Int)
  | 0, _, _, _ => none
  | k + 1, x0, x4, x9 => if x9 < (x0.length : Int) then (if 0 ≤ x9 then (if (wrap64 ((wrap64 ((x4.length : Int) + 1536)) + (((rd_T37 x0 x9).f2).length : Int))) > 66047 then (some (([] : List Int), 3)) else ((crossroadsref22_Head.f ((rd_T37 x0 x9).f0) ((rd_T37 x0 x9).f1) ((rd_T37 x0 x9).f2)).bind fun t207 => (if x4.length + t207.length < 140737488355328 then ((some (x4 ++ t207 : List Int)).bind fun y210 => (if y210.length + ((rd_T37 x0 x9).f2).length < 140737488355328 then (crossroadsref22_Write.l4 k x0 (y210 ++ ((rd_T37 x0 x9).f2)) x9) else (none))) else (none)))) else (none)) else (if x4.length + 1024 < 140737488355328 then ((some (x4 ++ List.replicate 1024 0 : List Int)).bind fun y202 => (if (y202.length : Int) > 65536 then (some (([] : List Int), 3)) else (some (y202, 0)))) else (none))
def crossroadsref22_Write.l4 : Nat → List (S37) → List Int → Int → Option (List Int × Int)
  | 0, _, _, _ => none
  | k + 1, x0, x4, x9 => if ((x4.length : Int) % 512) = 0 then (crossroadsref22_Write.l3 k x0 x4 (wrap64 (x9 + 1))) else (if x4.length < 140737488355328 then (crossroadsref22_Write.l4 k x0 (x4 ++ [0]) x9) else (none))
end
def crossroadsref22_Write.f (k : Nat) (l0 : List (S37)) : Option (List Int × Int) := crossroadsref22_Write.l0 k l0 0
theorem crossroadsref22_Write.mono_l : ∀ k, (∀ y0 y1, LeO (crossroadsref22_Write.l0 k y0 y1) (crossroadsref22_Write.l0 (k + 1) y0 y1)) ∧ (∀ y0 y1 y2 y3 y4 y5, LeO (crossroadsref22_Write.j1 k y0 y1 y2 y3 y4 y5) (crossroadsref22_Write.j1 (k + 1) y0 y1 y2 y3 y4 y5)) ∧ (∀ y0 y1 y2 y3 y4 y5, LeO (crossroadsref22_Write.l1 k y0 y1 y2 y3 y4 y5) (crossroadsref22_Write.l1 (k + 1) y0 y1 y2 y3 y4 y5)) ∧ (∀ y0 y1, LeO (crossroadsref22_Write.l2 k y0 y1) (crossroadsref22_Write.l2 (k + 1) y0 y1)) ∧ (∀ y0 y1 y2, LeO (crossroadsref22_Write.l3 k y0 y1 y2) (crossroadsref22_Write.l3 (k + 1) y0 y1 y2)) ∧ (∀ y0 y1 y2, LeO (crossroadsref22_Write.l4 k y0 y1 y2) (crossroadsref22_Write.l4 (k + 1) y0 y1 y2))
  | 0 => ⟨fun _ _ r h => by simp [crossroadsref22_Write.l0] at h, fun _ _ _ _ _ _ r h => by simp [crossroadsref22_Write.j1] at h, fun _ _ _ _ _ _ r h => by simp [crossroadsref22_Write.l1] at h, fun _ _ r h => by simp [crossroadsref22_Write.l2] at h, fun _ _ _ r h => by simp [crossroadsref22_Write.l3] at h, fun _ _ _ r h => by simp [crossroadsref22_Write.l4] at h⟩
  | k + 1 => by
    obtain ⟨ih0, ih1, ih2, ih3, ih4, ih5⟩ := crossroadsref22_Write.mono_l k
    refine ⟨?_, ?_, ?_, ?_, ?_, ?_⟩
    · intro y0 y1
      unfold crossroadsref22_Write.l0
      repeat' first
      | (with_reducible exact ih0 _ _)
      | (with_reducible exact ih1 _ _ _ _ _ _)
      | (with_reducible exact ih2 _ _ _ _ _ _)
      | (with_reducible exact ih3 _ _)
      | (with_reducible exact ih4 _ _ _)
      | (with_reducible exact ih5 _ _ _)
      | (with_reducible exact LeO.refl _)
      | (with_reducible exact LeO.none _)
      | (with_reducible refine LeO.ite ?_ ?_)
      | (with_reducible refine LeO.bind ?_ (fun _ => ?_))
      | exact ih0 _ _
      | exact ih1 _ _ _ _ _ _
      | exact ih2 _ _ _ _ _ _
      | exact ih3 _ _
      | exact ih4 _ _ _
      | exact ih5 _ _ _
      | exact LeO.none _
      | refine LeO.ite ?_ ?_
      | refine LeO.bind ?_ (fun _ => ?_)
    · intro y0 y1 y2 y3 y4 y5
      unfold crossroadsref22_Write.j1
      repeat' first
      | (with_reducible exact ih0 _ _)
      | (with_reducible exact ih1 _ _ _ _ _ _)
      | (with_reducible exact ih2 _ _ _ _ _ _)
      | (with_reducible exact ih3 _ _)
      | (with_reducible exact ih4 _ _ _)
      | (with_reducible exact ih5 _ _ _)
      | (with_reducible exact LeO.refl _)
      | (with_reducible exact LeO.none _)
      | (with_reducible refine LeO.ite ?_ ?_)
      | (with_reducible refine LeO.bind ?_ (fun _ => ?_))
      | exact ih0 _ _
      | exact ih1 _ _ _ _ _ _
      | exact ih2 _ _ _ _ _ _
      | exact ih3 _ _
      | exact ih4 _ _ _
      | exact ih5 _ _ _
      | exact LeO.none _
      | refine LeO.ite ?_ ?_
      | refine LeO.bind ?_ (fun _ => ?_)
    · intro y0 y1 y2 y3 y4 y5
      unfold crossroadsref22_Write.l1
      repeat' first
      | (with_reducible exact ih0 _ _)
      | (with_reducible exact ih1 _ _ _ _ _ _)
      | (with_reducible exact ih2 _ _ _ _ _ _)
      | (with_reducible exact ih3 _ _)
      | (with_reducible exact ih4 _ _ _)
      | (with_reducible exact ih5 _ _ _)
      | (with_reducible exact LeO.refl _)
      | (with_reducible exact LeO.none _)
      | (with_reducible refine LeO.ite ?_ ?_)
      | (with_reducible refine LeO.bind ?_ (fun _ => ?_))
      | exact ih0 _ _
      | exact ih1 _ _ _ _ _ _
      | exact ih2 _ _ _ _ _ _
      | exact ih3 _ _
      | exact ih4 _ _ _
      | exact ih5 _ _ _
      | exact LeO.none _
      | refine LeO.ite ?_ ?_
      | refine LeO.bind ?_ (fun _ => ?_)
    · intro y0 y1
      unfold crossroadsref22_Write.l2
      repeat' first
      | (with_reducible exact ih0 _ _)
      | (with_reducible exact ih1 _ _ _ _ _ _)
      | (with_reducible exact ih2 _ _ _ _ _ _)
      | (with_reducible exact ih3 _ _)
      | (with_reducible exact ih4 _ _ _)
      | (with_reducible exact ih5 _ _ _)
      | (with_reducible exact LeO.refl _)
      | (with_reducible exact LeO.none _)
      | (with_reducible refine LeO.ite ?_ ?_)
      | (with_reducible refine LeO.bind ?_ (fun _ => ?_))
      | exact ih0 _ _
      | exact ih1 _ _ _ _ _ _
      | exact ih2 _ _ _ _ _ _
      | exact ih3 _ _
      | exact ih4 _ _ _
      | exact ih5 _ _ _
      | exact LeO.none _
      | refine LeO.ite ?_ ?_
      | refine LeO.bind ?_ (fun _ => ?_)
    · intro y0 y1 y2
      unfold crossroadsref22_Write.l3
      repeat' first
      | (with_reducible exact ih0 _ _)
      | (with_reducible exact ih1 _ _ _ _ _ _)
      | (with_reducible exact ih2 _ _ _ _ _ _)
      | (with_reducible exact ih3 _ _)
      | (with_reducible exact ih4 _ _ _)
      | (with_reducible exact ih5 _ _ _)
      | (with_reducible exact LeO.refl _)
      | (with_reducible exact LeO.none _)
      | (with_reducible refine LeO.ite ?_ ?_)
      | (with_reducible refine LeO.bind ?_ (fun _ => ?_))
      | exact ih0 _ _
      | exact ih1 _ _ _ _ _ _
      | exact ih2 _ _ _ _ _ _
      | exact ih3 _ _
      | exact ih4 _ _ _
      | exact ih5 _ _ _
      | exact LeO.none _
      | refine LeO.ite ?_ ?_
      | refine LeO.bind ?_ (fun _ => ?_)
    · intro y0 y1 y2
      unfold crossroadsref22_Write.l4
      repeat' first
      | (with_reducible exact ih0 _ _)
      | (with_reducible exact ih1 _ _ _ _ _ _)
      | (with_reducible exact ih2 _ _ _ _ _ _)
      | (with_reducible exact ih3 _ _)
      | (with_reducible exact ih4 _ _ _)
      | (with_reducible exact ih5 _ _ _)
      | (with_reducible exact LeO.refl _)
      | (with_reducible exact LeO.none _)
      | (with_reducible refine LeO.ite ?_ ?_)
      | (with_reducible refine LeO.bind ?_ (fun _ => ?_))
      | exact ih0 _ _
      | exact ih1 _ _ _ _ _ _
      | exact ih2 _ _ _ _ _ _
      | exact ih3 _ _
      | exact ih4 _ _ _
      | exact ih5 _ _ _
      | exact LeO.none _
      | refine LeO.ite ?_ ?_
      | refine LeO.bind ?_ (fun _ => ?_)
theorem crossroadsref22_Write.mono : ∀ a0 k, LeO (crossroadsref22_Write.f k a0) (crossroadsref22_Write.f (k + 1) a0) := by
  intro a0 k
  obtain ⟨ih0, ih1, ih2, ih3, ih4, ih5⟩ := crossroadsref22_Write.mono_l k
  unfold crossroadsref22_Write.f
  repeat' first
      | (with_reducible exact ih0 _ _)
      | (with_reducible exact ih1 _ _ _ _ _ _)
      | (with_reducible exact ih2 _ _ _ _ _ _)
      | (with_reducible exact ih3 _ _)
      | (with_reducible exact ih4 _ _ _)
      | (with_reducible exact ih5 _ _ _)
      | (with_reducible exact LeO.refl _)
      | (with_reducible exact LeO.none _)
      | (with_reducible refine LeO.ite ?_ ?_)
      | (with_reducible refine LeO.bind ?_ (fun _ => ?_))
      | exact ih0 _ _
      | exact ih1 _ _ _ _ _ _
      | exact ih2 _ _ _ _ _ _
      | exact ih3 _ _
      | exact ih4 _ _ _
      | exact ih5 _ _ _
      | exact LeO.none _
      | refine LeO.ite ?_ ?_
      | refine LeO.bind ?_ (fun _ => ?_)
def crossroadsref22_Write.T23 : Bool × List (List Nat × List Nat) := (true, [([], []), ([], []), ([], []), ([1, 2], [1, 2]), ([3], [3]), ([4], [4]), ([0, 5, 5], [0, 5]), ([], []), ([], []), ([7, 8], [7, 8]), ([9], [9]), ([10], [10]), ([6, 11, 6], [6, 11]), ([12, 12, 0, 1, 2, 3, 4, 5, 6, 7, 8, 9, 10, 11, 12], [0, 12])])
def crossroadsref22_Write.B23 : List Nat := [0, 0, 0, 6, 14, 30, 63, 0, 0, 384, 896, 1920, 4095, 8191]
theorem crossroadsref22_Write.tab23 : rtab .any (opsOf Tryd.f12 23) = crossroadsref22_Write.T23 := by kernel_rfl
theorem crossroadsref22_Write.bits23 : waitsOk crossroadsref22_Write.T23.2 crossroadsref22_Write.B23 = true := by kernel_rfl
set_option maxHeartbeats 8000000 in
set_option maxRecDepth 100000 in
theorem crossroadsref22_Write.calls (k : Nat) (A0 : Option Addr) (c0 : Nat) (l0 : List (S37)) (r1 : List Int) (r2 : Int) (w : World) (hr0 : Kd.C k37 w A0 l0.length l0) (hc0 : l0.length ≤ c0) (h : crossroadsref22_Write.f k l0 = some (r1, r2)) :
    Calls Tryd.prog 12 #[.slice A0 l0.length c0] w fun e w' => ∃ v0_ : Value, e = .returned (.tuple #[v0_, .int .i64 r2]) ∧ Kd.R (Kd.int .u8) 5 w' w.heap.size (fun _ => True) v0_ r1 ∧ Below w.heap.size w w' := by
  have hu37 := Tryd.underlying37
  have HR0 := Aside0.mk hr0
  have HC0 := Aside0.mk hc0
  clear hr0 hc0
  have HB := Aside0.mk (Below.refl w.heap.size w)
  have H : (crossroadsref22_Write.l0 k l0 0) = some (r1, r2) := h
  clear h
  have H' := Aside0.mk H
  clear H
  go_enter Tryd.func12, Tryd.ntmps12
  go_wp2
  go_loopg [5] k (fun kq v5 w' => ∃ (x5_1 : Int), v5 = .int .i64 x5_1 ∧ Aside0 (crossroadsref22_Write.l0 kq l0 x5_1 = some (r1, r2)) ∧ Aside0 (kq ≤ k) ∧ Aside0 (Below w.heap.size w w'))
  case atStart => exact ⟨(0), (by first | rfl | (simp; done) | (simp [*]; done)), H', ⟨Nat.le_refl _⟩, ⟨by repeat (first | (with_reducible first | exact HB.out | apply below_alloc | apply pw_below_drewN | apply below_drew1) | exact HB.out)⟩⟩
  case round =>
    clear H'
    try clear c1
    obtain ⟨x5_1, rfl, HA, HK1, HB⟩ := hrel
    cases gk with
    | zero => exact absurd HA.out (by simp [crossroadsref22_Write.l0])
    | succ k1 =>
      have H := HA.out
      clear HA
      simp only [crossroadsref22_Write.l0] at H
      by_cases c2 : x5_1 < (l0.length : Int)
      · rw [if_pos c2] at H
        have c2b0 : decide (x5_1 < (l0.length : Int)) = true := decide_eq_true c2
        clear c2
        by_cases c3 : 0 ≤ x5_1
        · rw [if_pos c3] at H
          have c3b0 : decide (0 ≤ x5_1) = true := decide_eq_true c3
          clear c3
          have HC4 := Aside0.mk H
          clear H
          have p198 : 0 ≤ (x5_1 : Int) := of_decide_eq_true (by first | (with_reducible assumption) | assumption)
          have q198 : x5_1 < (l0.length : Int) := of_decide_eq_true (by first | (with_reducible assumption) | assumption)
          obtain ⟨ad198, A198_2, c198_2, e198, hx198_0, hx198_1, hx198_2, hl198_2, hi198_2⟩ := at_T37 HR0.out x5_1 p198 q198
          cases e198
          replace hx198_0 := (HB.out.cell (World.block_lt_of_cell? w _ hx198_0)).trans hx198_0
          replace hx198_1 := (HB.out.cell (World.block_lt_of_cell? w _ hx198_1)).trans hx198_1
          replace hx198_2 := (HB.out.cell (World.block_lt_of_cell? w _ hx198_2)).trans hx198_2
          have HR198_2 := Aside0.mk hi198_2
          have HC198_2 := Aside0.mk hl198_2
          clear hi198_2 hl198_2
          replace p198 := eq_true p198
          replace q198 := eq_true q198
          go_upto_region 6 with (first | ((with_reducible refine gate_dst (N := 6) rfl ?_); (try (refine gate_guard (by rfl) ?_; dsimp only)); refine box_event ?hg (N := 6) ?hd (cs := #[.string (⟨#[]⟩ : ByteArray), .bool false, .slice none 0 0]) (t := 37) ?hr ?_; (case hd => rfl); (case hg => rfl); (case hr => first | (go_simp; done) | (go_simp; rfl)); intro gb199 hg w5 hbox hb; have n0_ := Aside0.mk (below_step (by repeat (first | (with_reducible first | exact HB.out | apply below_alloc | apply pw_below_drewN | apply below_drew1) | exact HB.out)) hb); have n1_ := Aside0.mk (hbox); have n2_ := Aside0.mk ((by rw [hg]; exact (below_size (by repeat (first | (with_reducible first | exact HB.out | apply below_alloc | apply pw_below_drewN | apply below_drew1) | exact HB.out))) : w.heap.size ≤ gb199)); have n3_ := Aside0.mk ((by rw [hg]; exact (below_size (by repeat (first | (with_reducible first | exact HB.out | apply below_alloc | apply pw_below_drewN | apply below_drew1) | exact HB.out))) : w.heap.size ≤ gb199)); clear HB; have HB := n0_; have BK199 := n1_; have GW199 := n2_; have GE199 := n3_; clear n0_ n1_ n2_ n3_; clear hb hbox hg; have hcz6_0 : w5.cell? ⟨gb199, 0, none⟩ = some (.string (⟨#[]⟩ : ByteArray)) := (blk_cell BK199.out 0).trans rfl; have hcz6_1 : w5.cell? ⟨gb199, 1, none⟩ = some (.bool false) := (blk_cell BK199.out 1).trans rfl; have hcz6_2 : w5.cell? ⟨gb199, 2, none⟩ = some (.slice none 0 0) := (blk_cell BK199.out 2).trans rfl; have hfz6_0 := blk_frozen BK199.out 0; have hfz6_1 := blk_frozen BK199.out 1; have hfz6_2 := blk_frozen BK199.out 2))
          (try simp only [Act.put, List.setIfInBounds_toArray, List.set_cons_zero, List.set_cons_succ])
          go_cut [29] (fun v29 wc => ∃ (kq : Nat) (x29_3 : Bool), v29 = .bool x29_3 ∧ Aside0 (crossroadsref22_Write.j1 kq l0 x5_1 x29_3 ((rd_T37 l0 x5_1).f0) ((rd_T37 l0 x5_1).f1) ((rd_T37 l0 x5_1).f2) = some (r1, r2)) ∧ Aside0 (kq ≤ k1) ∧ Aside0 (wc.heap[gb199]? = some (.cells #[.string ((rd_T37 l0 x5_1).f0), .bool ((rd_T37 l0 x5_1).f1), (.slice A198_2 ((rd_T37 l0 x5_1).f2).length c198_2)] 37 (0, 0))) ∧ Aside0 (Below w.heap.size w wc))
          case first =>
            have H := HC4.out
            clear HC4
            by_cases c7 : (((rd_T37 l0 x5_1).f0).size : Int) < 1
            · rw [if_pos c7] at H
              have c7b0 : decide ((((rd_T37 l0 x5_1).f0).size : Int) < 1) = true := decide_eq_true c7
              have c7b1 : decide (((rd_T37 l0 x5_1).f0).size < 1) = true := decide_eq_true (by omega)
              clear c7
              (first | rw [c7b0] | (simp only [i64_w, i32_w]; rw [c7b0]) | (rw [c7b2]; (try simp only [Bool.not_true, Bool.not_false])) | skip)
              have H' := Aside0.mk H
              clear H
              have hcz8_0 : w5.cell? ⟨gb199, 0, none⟩ = some (.string (⟨#[]⟩ : ByteArray)) := (blk_cell BK199.out 0).trans rfl
              have hcz8_1 : w5.cell? ⟨gb199, 1, none⟩ = some (.bool false) := (blk_cell BK199.out 1).trans rfl
              have hcz8_2 : w5.cell? ⟨gb199, 2, none⟩ = some (.slice none 0 0) := (blk_cell BK199.out 2).trans rfl
              have hfz8_0 := blk_frozen BK199.out 0
              have hfz8_1 := blk_frozen BK199.out 1
              have hfz8_2 := blk_frozen BK199.out 2
              go_wp2
              go_meet
              case rel => exact ⟨_, (true), (by first | rfl | (simp; done) | (simp [*]; done)), H', ⟨by have := HK1.out; first | omega | exact Nat.le_refl _⟩, ⟨by (with_reducible repeat (first | refine blk_drewN ?_ _ | refine blk_drew ?_ | refine blk_alloc ?_ _)); refine blk_put (cs := #[.string ((rd_T37 l0 x5_1).f0), .bool ((rd_T37 l0 x5_1).f1), .slice none 0 0]) ?_ 2 _ rfl; (with_reducible repeat (first | refine blk_drewN ?_ _ | refine blk_drew ?_ | refine blk_alloc ?_ _)); refine blk_put (cs := #[.string ((rd_T37 l0 x5_1).f0), .bool false, .slice none 0 0]) ?_ 1 _ rfl; (with_reducible repeat (first | refine blk_drewN ?_ _ | refine blk_drew ?_ | refine blk_alloc ?_ _)); refine blk_put (cs := #[.string (⟨#[]⟩ : ByteArray), .bool false, .slice none 0 0]) ?_ 0 _ rfl; (with_reducible repeat (first | refine blk_drewN ?_ _ | refine blk_drew ?_ | refine blk_alloc ?_ _)); exact BK199.out⟩, ⟨by repeat (first | (with_reducible first | exact HB.out | apply below_alloc | apply pw_below_drewN | apply below_drew1 | refine below_set ?_ GE199.out) | exact HB.out)⟩⟩
            · rw [if_neg c7] at H
              have c7b0 : decide ((((rd_T37 l0 x5_1).f0).size : Int) < 1) = false := decide_eq_false c7
              have c7b1 : decide (((rd_T37 l0 x5_1).f0).size < 1) = false := decide_eq_false (by omega)
              clear c7
              (first | rw [c7b0] | (simp only [i64_w, i32_w]; rw [c7b0]) | (rw [c7b2]; (try simp only [Bool.not_true, Bool.not_false])) | skip)
              have H' := Aside0.mk H
              clear H
              have hcz9_0 : w5.cell? ⟨gb199, 0, none⟩ = some (.string (⟨#[]⟩ : ByteArray)) := (blk_cell BK199.out 0).trans rfl
              have hcz9_1 : w5.cell? ⟨gb199, 1, none⟩ = some (.bool false) := (blk_cell BK199.out 1).trans rfl
              have hcz9_2 : w5.cell? ⟨gb199, 2, none⟩ = some (.slice none 0 0) := (blk_cell BK199.out 2).trans rfl
              have hfz9_0 := blk_frozen BK199.out 0
              have hfz9_1 := blk_frozen BK199.out 1
              have hfz9_2 := blk_frozen BK199.out 2
              go_wp2
              go_meet
              case rel => exact ⟨_, (decide ((((rd_T37 l0 x5_1).f0).size : Int) > 99)), (by first | rfl | (simp; done) | (simp [*]; done)), H', ⟨by have := HK1.out; first | omega | exact Nat.le_refl _⟩, ⟨by (with_reducible repeat (first | refine blk_drewN ?_ _ | refine blk_drew ?_ | refine blk_alloc ?_ _)); refine blk_put (cs := #[.string ((rd_T37 l0 x5_1).f0), .bool ((rd_T37 l0 x5_1).f1), .slice none 0 0]) ?_ 2 _ rfl; (with_reducible repeat (first | refine blk_drewN ?_ _ | refine blk_drew ?_ | refine blk_alloc ?_ _)); refine blk_put (cs := #[.string ((rd_T37 l0 x5_1).f0), .bool false, .slice none 0 0]) ?_ 1 _ rfl; (with_reducible repeat (first | refine blk_drewN ?_ _ | refine blk_drew ?_ | refine blk_alloc ?_ _)); refine blk_put (cs := #[.string (⟨#[]⟩ : ByteArray), .bool false, .slice none 0 0]) ?_ 0 _ rfl; (with_reducible repeat (first | refine blk_drewN ?_ _ | refine blk_drew ?_ | refine blk_alloc ?_ _)); exact BK199.out⟩, ⟨by repeat (first | (with_reducible first | exact HB.out | apply below_alloc | apply pw_below_drewN | apply below_drew1 | refine below_set ?_ GE199.out) | exact HB.out)⟩⟩
          case rest =>
            clear HC4
            try clear c1
            try clear p1
            try clear q1
            try clear hx1
            try clear c2
            try clear c2b0
            try clear p2
            try clear c3
            try clear c3b0
            try clear c7
            try clear c7b0
            try clear c7b1
            try clear c7b2
            try clear hcz6_0
            try clear hcz6_1
            try clear hcz6_2
            try clear hcz8_0
            try clear hcz8_1
            try clear hcz8_2
            try clear hcz9_0
            try clear hcz9_1
            try clear hcz9_2
            try clear hfz6_0
            try clear hfz6_1
            try clear hfz6_2
            try clear hfz8_0
            try clear hfz8_1
            try clear hfz8_2
            try clear hfz9_0
            try clear hfz9_1
            try clear hfz9_2
            try clear hx198_0
            try clear hx198_1
            try clear hx198_2
            try clear p198
            try clear q198
            obtain ⟨kq, x29_3, rfl, HA, HJ3, BK199, HB⟩ := hcut
            cases kq with
            | zero => exact absurd HA.out (by simp [crossroadsref22_Write.j1])
            | succ kj3 =>
              have H := HA.out
              clear HA
              simp only [crossroadsref22_Write.j1] at H
              by_cases c10 : x29_3 = true
              · subst c10
                have H1 : (some (([] : List Int), 10)) = some (r1, r2) := by rw [if_pos rfl] at H; exact H
                clear H
                have H := H1
                clear H1
                simp only [Option.some.injEq, Prod.mk.injEq] at H
                obtain ⟨rfl, rfl⟩ := H
                go_wp2
                go_ret2
                exact ⟨_, by first | rfl | (simp [errW_none, errW_some] <;> rfl) | (simp [*, errW_none, errW_some] <;> rfl), by first | exact Kd.R_nil _ _ _ _ _ | exact Kd.N_nil _ _ _ _ _ | exact Kd.V_nil _ _ _ _ _ | exact Kd.Q_nil _ _ _ _ _ | exact Kd.S_nil _ _ _ _ _, by repeat (first | (with_reducible first | exact HB.out | apply below_alloc | apply pw_below_drewN | apply below_drew1 | refine below_set ?_ GE199.out) | exact HB.out)⟩
              · replace c10 := Bool.eq_false_iff.mpr c10
                subst c10
                have H1 : (crossroadsref22_Write.l1 kj3 l0 x5_1 0 ((rd_T37 l0 x5_1).f0) ((rd_T37 l0 x5_1).f1) ((rd_T37 l0 x5_1).f2)) = some (r1, r2) := by rw [if_neg (show ¬ (false = true) by decide)] at H; exact H
                clear H
                have H := H1
                clear H1
                have H' := Aside0.mk H
                clear H
                go_wp2
                go_loopg [7] kj3 (fun kq v7 w' => ∃ (x7_3 : Int), v7 = .int .i64 x7_3 ∧ Aside0 (crossroadsref22_Write.l1 kq l0 x5_1 x7_3 ((rd_T37 l0 x5_1).f0) ((rd_T37 l0 x5_1).f1) ((rd_T37 l0 x5_1).f2) = some (r1, r2)) ∧ Aside0 (kq ≤ kj3) ∧ Aside0 (w'.heap[gb199]? = some (.cells #[.string ((rd_T37 l0 x5_1).f0), .bool ((rd_T37 l0 x5_1).f1), (.slice A198_2 ((rd_T37 l0 x5_1).f2).length c198_2)] 37 (0, 0))) ∧ Aside0 (Below w.heap.size w w'))
                case atStart => exact ⟨(0), (by first | rfl | (simp; done) | (simp [*]; done)), H', ⟨Nat.le_refl _⟩, ⟨by (with_reducible repeat (first | refine blk_drewN ?_ _ | refine blk_drew ?_ | refine blk_alloc ?_ _)); exact BK199.out⟩, ⟨by repeat (first | (with_reducible first | exact HB.out | apply below_alloc | apply pw_below_drewN | apply below_drew1 | refine below_set ?_ GE199.out) | exact HB.out)⟩⟩
                case round =>
                  clear H'
                  try clear c1
                  try clear p1
                  try clear q1
                  try clear hx1
                  try clear c2
                  try clear c2b0
                  try clear p2
                  try clear c3
                  try clear c3b0
                  try clear c7
                  try clear c7b0
                  try clear c7b1
                  try clear c7b2
                  try clear c10
                  try clear hcz6_0
                  try clear hcz6_1
                  try clear hcz6_2
                  try clear hcz8_0
                  try clear hcz8_1
                  try clear hcz8_2
                  try clear hcz9_0
                  try clear hcz9_1
                  try clear hcz9_2
                  try clear hfz6_0
                  try clear hfz6_1
                  try clear hfz6_2
                  try clear hfz8_0
                  try clear hfz8_1
                  try clear hfz8_2
                  try clear hfz9_0
                  try clear hfz9_1
                  try clear hfz9_2
                  try clear hx198_0
                  try clear hx198_1
                  try clear hx198_2
                  try clear p1
                  try clear p198
                  try clear p2
                  try clear q1
                  try clear q198
                  obtain ⟨x7_3, rfl, HA, HK3, BK199, HB⟩ := hrel
                  cases gk with
                  | zero => exact absurd HA.out (by simp [crossroadsref22_Write.l1])
                  | succ k3 =>
                    have H := HA.out
                    clear HA
                    simp only [crossroadsref22_Write.l1] at H
                    by_cases c11 : x7_3 < (((rd_T37 l0 x5_1).f0).size : Int)
                    · rw [if_pos c11] at H
                      have c11b0 : decide (x7_3 < (((rd_T37 l0 x5_1).f0).size : Int)) = true := decide_eq_true c11
                      clear c11
                      by_cases c12 : 0 ≤ x7_3
                      · rw [if_pos c12] at H
                        have c12b0 : decide (0 ≤ x7_3) = true := decide_eq_true c12
                        clear c12
                        by_cases c14 : (bt ((rd_T37 l0 x5_1).f0) x7_3) = 0
                        · rw [if_pos c14] at H
                          have c14b0 : ((bt ((rd_T37 l0 x5_1).f0) x7_3) == 0) = true := beq_iff_eq.mpr c14
                          have c14b1 : ((bt ((rd_T37 l0 x5_1).f0) x7_3) != 0) = false := bne_eq_false_iff_eq.mpr c14
                          clear c14
                          simp only [Option.some.injEq, Prod.mk.injEq] at H
                          obtain ⟨rfl, rfl⟩ := H
                          have hcz15_0 : wr.cell? ⟨gb199, 0, none⟩ = some (.string ((rd_T37 l0 x5_1).f0)) := (blk_cell BK199.out 0).trans rfl
                          have hcz15_1 : wr.cell? ⟨gb199, 1, none⟩ = some (.bool ((rd_T37 l0 x5_1).f1)) := (blk_cell BK199.out 1).trans rfl
                          have hcz15_2 : wr.cell? ⟨gb199, 2, none⟩ = some (.slice A198_2 ((rd_T37 l0 x5_1).f2).length c198_2) := (blk_cell BK199.out 2).trans rfl
                          have hfz15_0 := blk_frozen BK199.out 0
                          have hfz15_1 := blk_frozen BK199.out 1
                          have hfz15_2 := blk_frozen BK199.out 2
                          have p13 : 0 ≤ (x7_3 : Int) := of_decide_eq_true (by first | (with_reducible assumption) | assumption)
                          have q13 : x7_3 < (((rd_T37 l0 x5_1).f0).size : Int) := of_decide_eq_true (by first | (with_reducible assumption) | assumption)
                          have hx13 := bt_at ((rd_T37 l0 x5_1).f0) x7_3
                          replace p13 := eq_true p13
                          replace q13 := eq_true q13
                          go_wp2
                          go_ret2
                          exact ⟨_, by first | rfl | (simp [errW_none, errW_some] <;> rfl) | (simp [*, errW_none, errW_some] <;> rfl), by first | exact Kd.R_nil _ _ _ _ _ | exact Kd.N_nil _ _ _ _ _ | exact Kd.V_nil _ _ _ _ _ | exact Kd.Q_nil _ _ _ _ _ | exact Kd.S_nil _ _ _ _ _, by repeat (first | (with_reducible first | exact HB.out | apply below_alloc | apply pw_below_drewN | apply below_drew1 | refine below_set ?_ GE199.out) | exact HB.out)⟩
                        · rw [if_neg c14] at H
                          have c14b0 : ((bt ((rd_T37 l0 x5_1).f0) x7_3) == 0) = false := beq_eq_false_iff_ne.mpr c14
                          have c14b1 : ((bt ((rd_T37 l0 x5_1).f0) x7_3) != 0) = true := bne_iff_ne.mpr c14
                          have H' := Aside0.mk H
                          clear H
                          have hcz16_0 : wr.cell? ⟨gb199, 0, none⟩ = some (.string ((rd_T37 l0 x5_1).f0)) := (blk_cell BK199.out 0).trans rfl
                          have hcz16_1 : wr.cell? ⟨gb199, 1, none⟩ = some (.bool ((rd_T37 l0 x5_1).f1)) := (blk_cell BK199.out 1).trans rfl
                          have hcz16_2 : wr.cell? ⟨gb199, 2, none⟩ = some (.slice A198_2 ((rd_T37 l0 x5_1).f2).length c198_2) := (blk_cell BK199.out 2).trans rfl
                          have hfz16_0 := blk_frozen BK199.out 0
                          have hfz16_1 := blk_frozen BK199.out 1
                          have hfz16_2 := blk_frozen BK199.out 2
                          have p13 : 0 ≤ (x7_3 : Int) := of_decide_eq_true (by first | (with_reducible assumption) | assumption)
                          have q13 : x7_3 < (((rd_T37 l0 x5_1).f0).size : Int) := of_decide_eq_true (by first | (with_reducible assumption) | assumption)
                          have hx13 := bt_at ((rd_T37 l0 x5_1).f0) x7_3
                          replace p13 := eq_true p13
                          replace q13 := eq_true q13
                          go_wp2
                          go_roundg k3
                          case measure => have := HK1.out; have := HJ3.out; have := HK3.out; omega
                          case rel => exact ⟨(wrap64 (x7_3 + 1)), (by first | rfl | (simp; done) | (simp [*]; done)), H', ⟨by have := HK1.out; have := HJ3.out; have := HK3.out; omega⟩, ⟨by (with_reducible repeat (first | refine blk_drewN ?_ _ | refine blk_drew ?_ | refine blk_alloc ?_ _)); exact BK199.out⟩, ⟨by repeat (first | (with_reducible first | exact HB.out | apply below_alloc | apply pw_below_drewN | apply below_drew1 | refine below_set ?_ GE199.out) | exact HB.out)⟩⟩
                      · rw [if_neg c12] at H
                        exact absurd H (by simp)
                    · rw [if_neg c11] at H
                      have c11b0 : decide (x7_3 < (((rd_T37 l0 x5_1).f0).size : Int)) = false := decide_eq_false c11
                      clear c11
                      have H' := Aside0.mk H
                      clear H
                      have hcz17_0 : wr.cell? ⟨gb199, 0, none⟩ = some (.string ((rd_T37 l0 x5_1).f0)) := (blk_cell BK199.out 0).trans rfl
                      have hcz17_1 : wr.cell? ⟨gb199, 1, none⟩ = some (.bool ((rd_T37 l0 x5_1).f1)) := (blk_cell BK199.out 1).trans rfl
                      have hcz17_2 : wr.cell? ⟨gb199, 2, none⟩ = some (.slice A198_2 ((rd_T37 l0 x5_1).f2).length c198_2) := (blk_cell BK199.out 2).trans rfl
                      have hfz17_0 := blk_frozen BK199.out 0
                      have hfz17_1 := blk_frozen BK199.out 1
                      have hfz17_2 := blk_frozen BK199.out 2
                      go_wp2
                      go_roundg k3
                      case measure => have := HK1.out; have := HJ3.out; have := HK3.out; omega
                      case rel => exact ⟨(wrap64 (x5_1 + 1)), (by first | rfl | (simp; done) | (simp [*]; done)), H', ⟨by have := HK1.out; have := HJ3.out; have := HK3.out; omega⟩, ⟨by repeat (first | (with_reducible first | exact HB.out | apply below_alloc | apply pw_below_drewN | apply below_drew1 | refine below_set ?_ GE199.out) | exact HB.out)⟩⟩
        · rw [if_neg c3] at H
          exact absurd H (by simp)
      · rw [if_neg c2] at H
        have c2b0 : decide (x5_1 < (l0.length : Int)) = false := decide_eq_false c2
        clear c2
        have H' := Aside0.mk H
        clear H
        go_wp2
        go_loopg [8] k1 (fun kq v8 w' => ∃ (x8_2 : Int), v8 = .int .i64 x8_2 ∧ Aside0 (crossroadsref22_Write.l2 kq l0 x8_2 = some (r1, r2)) ∧ Aside0 (kq ≤ k1) ∧ Aside0 (Below w.heap.size w w'))
        case atStart => exact ⟨(0), (by first | rfl | (simp; done) | (simp [*]; done)), H', ⟨Nat.le_refl _⟩, ⟨by repeat (first | (with_reducible first | exact HB.out | apply below_alloc | apply pw_below_drewN | apply below_drew1) | exact HB.out)⟩⟩
        case round =>
          clear H'
          try clear c1
          try clear p1
          try clear q1
          try clear hx1
          try clear c2
          try clear c2b0
          try clear p2
          try clear c3
          try clear c3b0
          try clear p6
          try clear c7
          try clear c7b0
          try clear c7b1
          try clear c7b2
          try clear c10
          try clear c11
          try clear c11b0
          try clear c12
          try clear c12b0
          try clear p13
          try clear q13
          try clear hx13
          try clear c14
          try clear c14b0
          try clear c14b1
          try clear hcz15_0
          try clear hcz15_1
          try clear hcz15_2
          try clear hcz16_0
          try clear hcz16_1
          try clear hcz16_2
          try clear hcz17_0
          try clear hcz17_1
          try clear hcz17_2
          try clear hcz6_0
          try clear hcz6_1
          try clear hcz6_2
          try clear hcz8_0
          try clear hcz8_1
          try clear hcz8_2
          try clear hcz9_0
          try clear hcz9_1
          try clear hcz9_2
          try clear hfz15_0
          try clear hfz15_1
          try clear hfz15_2
          try clear hfz16_0
          try clear hfz16_1
          try clear hfz16_2
          try clear hfz17_0
          try clear hfz17_1
          try clear hfz17_2
          try clear hfz6_0
          try clear hfz6_1
          try clear hfz6_2
          try clear hfz8_0
          try clear hfz8_1
          try clear hfz8_2
          try clear hfz9_0
          try clear hfz9_1
          try clear hfz9_2
          try clear hx198_0
          try clear hx198_1
          try clear hx198_2
          try clear p1
          try clear p13
          try clear p198
          try clear p2
          try clear q1
          try clear q13
          try clear q198
          obtain ⟨x8_2, rfl, HA, HK2, HB⟩ := hrel
          cases gk with
          | zero => exact absurd HA.out (by simp [crossroadsref22_Write.l2])
          | succ k2 =>
            have H := HA.out
            clear HA
            simp only [crossroadsref22_Write.l2] at H
            by_cases c18 : x8_2 < (l0.length : Int)
            · rw [if_pos c18] at H
              have c18b0 : decide (x8_2 < (l0.length : Int)) = true := decide_eq_true c18
              clear c18
              by_cases c19 : 0 ≤ x8_2
              · rw [if_pos c19] at H
                have c19b0 : decide (0 ≤ x8_2) = true := decide_eq_true c19
                clear c19
                obtain ⟨bq20, hbq20⟩ : ∃ b_ : Bool, b_ = ((rd_T37 l0 x8_2).f1) := ⟨_, rfl⟩
                replace H : (if bq20 = true then (if (((rd_T37 l0 x8_2).f2).length : Int) > 0 then (some (([] : List Int), 12)) else (crossroadsref22_Write.l2 k2 l0 (wrap64 (x8_2 + 1)))) else (crossroadsref22_Write.l2 k2 l0 (wrap64 (x8_2 + 1)))) = some (r1, r2) := by rw [← hbq20] at H; exact H
                have Nbq20 := Aside0.mk hbq20
                clear hbq20
                by_cases c21 : bq20 = true
                · subst c21
                  have H1 : (if (((rd_T37 l0 x8_2).f2).length : Int) > 0 then (some (([] : List Int), 12)) else (crossroadsref22_Write.l2 k2 l0 (wrap64 (x8_2 + 1)))) = some (r1, r2) := by rw [if_pos rfl] at H; exact H
                  clear H
                  have H := H1
                  clear H1
                  by_cases c22 : (((rd_T37 l0 x8_2).f2).length : Int) > 0
                  · rw [if_pos c22] at H
                    have c22b0 : decide (0 < (((rd_T37 l0 x8_2).f2).length : Int)) = true := decide_eq_true c22
                    have c22b1 : decide (0 < ((rd_T37 l0 x8_2).f2).length) = true := decide_eq_true (by omega)
                    clear c22
                    simp only [Option.some.injEq, Prod.mk.injEq] at H
                    obtain ⟨rfl, rfl⟩ := H
                    have p200 : 0 ≤ (x8_2 : Int) := of_decide_eq_true (by first | (with_reducible assumption) | assumption)
                    have q200 : x8_2 < (l0.length : Int) := of_decide_eq_true (by first | (with_reducible assumption) | assumption)
                    obtain ⟨ad200, A200_2, c200_2, e200, hx200_0, hx200_1, hx200_2, hl200_2, hi200_2⟩ := at_T37 HR0.out x8_2 p200 q200
                    (try rw [← Nbq20.out] at hx200_1)
                    cases e200
                    replace hx200_0 := (HB.out.cell (World.block_lt_of_cell? w _ hx200_0)).trans hx200_0
                    replace hx200_1 := (HB.out.cell (World.block_lt_of_cell? w _ hx200_1)).trans hx200_1
                    replace hx200_2 := (HB.out.cell (World.block_lt_of_cell? w _ hx200_2)).trans hx200_2
                    have HR200_2 := Aside0.mk hi200_2
                    have HC200_2 := Aside0.mk hl200_2
                    clear hi200_2 hl200_2
                    replace p200 := eq_true p200
                    replace q200 := eq_true q200
                    have p201 : 0 ≤ (x8_2 : Int) := of_decide_eq_true (by first | (with_reducible assumption) | assumption)
                    have q201 : x8_2 < (l0.length : Int) := of_decide_eq_true (by first | (with_reducible assumption) | assumption)
                    obtain ⟨ad201, A201_2, c201_2, e201, hx201_0, hx201_1, hx201_2, hl201_2, hi201_2⟩ := at_T37 HR0.out x8_2 p201 q201
                    (try rw [← Nbq20.out] at hx201_1)
                    obtain rfl : ad200 = ad201 := (by injection e201)
                    replace hx201_0 := (HB.out.cell (World.block_lt_of_cell? w _ hx201_0)).trans hx201_0
                    replace hx201_1 := (HB.out.cell (World.block_lt_of_cell? w _ hx201_1)).trans hx201_1
                    replace hx201_2 := (HB.out.cell (World.block_lt_of_cell? w _ hx201_2)).trans hx201_2
                    have HR201_2 := Aside0.mk hi201_2
                    have HC201_2 := Aside0.mk hl201_2
                    clear hi201_2 hl201_2
                    replace p201 := eq_true p201
                    replace q201 := eq_true q201
                    have ea_ := Option.some.inj (hx200_2.symm.trans hx201_2)
                    injection ea_ with ea_ en_ ec_
                    subst ea_
                    subst ec_
                    clear en_
                    go_wp2
                    go_ret2
                    exact ⟨_, by first | rfl | (simp [errW_none, errW_some] <;> rfl) | (simp [*, errW_none, errW_some] <;> rfl), by first | exact Kd.R_nil _ _ _ _ _ | exact Kd.N_nil _ _ _ _ _ | exact Kd.V_nil _ _ _ _ _ | exact Kd.Q_nil _ _ _ _ _ | exact Kd.S_nil _ _ _ _ _, by repeat (first | (with_reducible first | exact HB.out | apply below_alloc | apply pw_below_drewN | apply below_drew1) | exact HB.out)⟩
                  · rw [if_neg c22] at H
                    have c22b0 : decide (0 < (((rd_T37 l0 x8_2).f2).length : Int)) = false := decide_eq_false c22
                    have c22b1 : decide (0 < ((rd_T37 l0 x8_2).f2).length) = false := decide_eq_false (by omega)
                    clear c22
                    have H' := Aside0.mk H
                    clear H
                    have p200 : 0 ≤ (x8_2 : Int) := of_decide_eq_true (by first | (with_reducible assumption) | assumption)
                    have q200 : x8_2 < (l0.length : Int) := of_decide_eq_true (by first | (with_reducible assumption) | assumption)
                    obtain ⟨ad200, A200_2, c200_2, e200, hx200_0, hx200_1, hx200_2, hl200_2, hi200_2⟩ := at_T37 HR0.out x8_2 p200 q200
                    (try rw [← Nbq20.out] at hx200_1)
                    cases e200
                    replace hx200_0 := (HB.out.cell (World.block_lt_of_cell? w _ hx200_0)).trans hx200_0
                    replace hx200_1 := (HB.out.cell (World.block_lt_of_cell? w _ hx200_1)).trans hx200_1
                    replace hx200_2 := (HB.out.cell (World.block_lt_of_cell? w _ hx200_2)).trans hx200_2
                    have HR200_2 := Aside0.mk hi200_2
                    have HC200_2 := Aside0.mk hl200_2
                    clear hi200_2 hl200_2
                    replace p200 := eq_true p200
                    replace q200 := eq_true q200
                    have p201 : 0 ≤ (x8_2 : Int) := of_decide_eq_true (by first | (with_reducible assumption) | assumption)
                    have q201 : x8_2 < (l0.length : Int) := of_decide_eq_true (by first | (with_reducible assumption) | assumption)
                    obtain ⟨ad201, A201_2, c201_2, e201, hx201_0, hx201_1, hx201_2, hl201_2, hi201_2⟩ := at_T37 HR0.out x8_2 p201 q201
                    (try rw [← Nbq20.out] at hx201_1)
                    obtain rfl : ad200 = ad201 := (by injection e201)
                    replace hx201_0 := (HB.out.cell (World.block_lt_of_cell? w _ hx201_0)).trans hx201_0
                    replace hx201_1 := (HB.out.cell (World.block_lt_of_cell? w _ hx201_1)).trans hx201_1
                    replace hx201_2 := (HB.out.cell (World.block_lt_of_cell? w _ hx201_2)).trans hx201_2
                    have HR201_2 := Aside0.mk hi201_2
                    have HC201_2 := Aside0.mk hl201_2
                    clear hi201_2 hl201_2
                    replace p201 := eq_true p201
                    replace q201 := eq_true q201
                    have ea_ := Option.some.inj (hx200_2.symm.trans hx201_2)
                    injection ea_ with ea_ en_ ec_
                    subst ea_
                    subst ec_
                    clear en_
                    go_wp2
                    go_roundg k2
                    case measure => have := HK1.out; have := HK2.out; omega
                    case rel => exact ⟨(wrap64 (x8_2 + 1)), (by first | rfl | (simp; done) | (simp [*]; done)), H', ⟨by have := HK1.out; have := HK2.out; omega⟩, ⟨by repeat (first | (with_reducible first | exact HB.out | apply below_alloc | apply pw_below_drewN | apply below_drew1) | exact HB.out)⟩⟩
                · replace c21 := Bool.eq_false_iff.mpr c21
                  subst c21
                  have H1 : (crossroadsref22_Write.l2 k2 l0 (wrap64 (x8_2 + 1))) = some (r1, r2) := by rw [if_neg (show ¬ (false = true) by decide)] at H; exact H
                  clear H
                  have H := H1
                  clear H1
                  have H' := Aside0.mk H
                  clear H
                  have p200 : 0 ≤ (x8_2 : Int) := of_decide_eq_true (by first | (with_reducible assumption) | assumption)
                  have q200 : x8_2 < (l0.length : Int) := of_decide_eq_true (by first | (with_reducible assumption) | assumption)
                  obtain ⟨ad200, A200_2, c200_2, e200, hx200_0, hx200_1, hx200_2, hl200_2, hi200_2⟩ := at_T37 HR0.out x8_2 p200 q200
                  (try rw [← Nbq20.out] at hx200_1)
                  cases e200
                  replace hx200_0 := (HB.out.cell (World.block_lt_of_cell? w _ hx200_0)).trans hx200_0
                  replace hx200_1 := (HB.out.cell (World.block_lt_of_cell? w _ hx200_1)).trans hx200_1
                  replace hx200_2 := (HB.out.cell (World.block_lt_of_cell? w _ hx200_2)).trans hx200_2
                  have HR200_2 := Aside0.mk hi200_2
                  have HC200_2 := Aside0.mk hl200_2
                  clear hi200_2 hl200_2
                  replace p200 := eq_true p200
                  replace q200 := eq_true q200
                  go_wp2
                  go_roundg k2
                  case measure => have := HK1.out; have := HK2.out; omega
                  case rel => exact ⟨(wrap64 (x8_2 + 1)), (by first | rfl | (simp; done) | (simp [*]; done)), H', ⟨by have := HK1.out; have := HK2.out; omega⟩, ⟨by repeat (first | (with_reducible first | exact HB.out | apply below_alloc | apply pw_below_drewN | apply below_drew1) | exact HB.out)⟩⟩
              · rw [if_neg c19] at H
                exact absurd H (by simp)
            · rw [if_neg c18] at H
              have c18b0 : decide (x8_2 < (l0.length : Int)) = false := decide_eq_false c18
              clear c18
              have H' := Aside0.mk H
              clear H
              go_wp2
              go_loopg [4, 9] k2 (fun kq v4 v9 w' => ∃ (x4_3 : List Int) (x9_3 : Int), v9 = .int .i64 x9_3 ∧ Aside0 (crossroadsref22_Write.l3 kq l0 x4_3 x9_3 = some (r1, r2)) ∧ Aside0 (kq ≤ k2) ∧ Aside0 (Kd.R (Kd.int .u8) 5 w' w.heap.size (fun _ => True) v4 x4_3) ∧ Aside0 (Below w.heap.size w w'))
              case atStart => exact ⟨(([] : List Int)), (0), (by first | rfl | (simp; done) | (simp [*]; done)), H', ⟨Nat.le_refl _⟩, ⟨by first | exact Kd.R_nil _ _ _ _ _ | exact Kd.N_nil _ _ _ _ _ | exact Kd.V_nil _ _ _ _ _ | exact Kd.Q_nil _ _ _ _ _ | exact Kd.S_nil _ _ _ _ _⟩, ⟨by repeat (first | (with_reducible first | exact HB.out | apply below_alloc | apply pw_below_drewN | apply below_drew1) | exact HB.out)⟩⟩
              case round =>
                clear H'
                try clear c1
                try clear p1
                try clear q1
                try clear hx1
                try clear c2
                try clear c2b0
                try clear p2
                try clear q2
                try clear hx2
                try clear c3
                try clear c3b0
                try clear p6
                try clear c7
                try clear c7b0
                try clear c7b1
                try clear c7b2
                try clear c10
                try clear c11
                try clear c11b0
                try clear c12
                try clear c12b0
                try clear p13
                try clear q13
                try clear hx13
                try clear c14
                try clear c14b0
                try clear c14b1
                try clear c18
                try clear c18b0
                try clear c19
                try clear c19b0
                try clear p19
                try clear q19
                try clear hx19
                try clear c20
                try clear p20
                try clear q20
                try clear hx20
                try clear c21
                try clear c22
                try clear c22b0
                try clear c22b1
                try clear hcz15_0
                try clear hcz15_1
                try clear hcz15_2
                try clear hcz16_0
                try clear hcz16_1
                try clear hcz16_2
                try clear hcz17_0
                try clear hcz17_1
                try clear hcz17_2
                try clear hcz6_0
                try clear hcz6_1
                try clear hcz6_2
                try clear hcz8_0
                try clear hcz8_1
                try clear hcz8_2
                try clear hcz9_0
                try clear hcz9_1
                try clear hcz9_2
                try clear hfz15_0
                try clear hfz15_1
                try clear hfz15_2
                try clear hfz16_0
                try clear hfz16_1
                try clear hfz16_2
                try clear hfz17_0
                try clear hfz17_1
                try clear hfz17_2
                try clear hfz6_0
                try clear hfz6_1
                try clear hfz6_2
                try clear hfz8_0
                try clear hfz8_1
                try clear hfz8_2
                try clear hfz9_0
                try clear hfz9_1
                try clear hfz9_2
                try clear hx198_0
                try clear hx198_1
                try clear hx198_2
                try clear hx200_0
                try clear hx200_1
                try clear hx200_2
                try clear hx201_0
                try clear hx201_1
                try clear hx201_2
                try clear p1
                try clear p13
                try clear p198
                try clear p2
                try clear p200
                try clear p201
                try clear p6
                try clear q1
                try clear q13
                try clear q198
                try clear q200
                try clear q201
                obtain ⟨x4_3, x9_3, rfl, HA, HK3, HO_4, HB⟩ := hrel
                cases gk with
                | zero => exact absurd HA.out (by simp [crossroadsref22_Write.l3])
                | succ k3 =>
                  have H := HA.out
                  clear HA
                  simp only [crossroadsref22_Write.l3] at H
                  by_cases c23 : x9_3 < (l0.length : Int)
                  · rw [if_pos c23] at H
                    have c23b0 : decide (x9_3 < (l0.length : Int)) = true := decide_eq_true c23
                    clear c23
                    by_cases c24 : 0 ≤ x9_3
                    · rw [if_pos c24] at H
                      have c24b0 : decide (0 ≤ x9_3) = true := decide_eq_true c24
                      clear c24
                      by_cases c25 : (wrap64 ((wrap64 ((x4_3.length : Int) + 1536)) + (((rd_T37 l0 x9_3).f2).length : Int))) > 66047
                      · rw [if_pos c25] at H
                        have c25b0 : decide (66047 < (wrap64 ((wrap64 ((x4_3.length : Int) + 1536)) + (((rd_T37 l0 x9_3).f2).length : Int)))) = true := decide_eq_true c25
                        clear c25
                        simp only [Option.some.injEq, Prod.mk.injEq] at H
                        obtain ⟨rfl, rfl⟩ := H
                        obtain ⟨Ao26, co26, eo26⟩ := Kd.R_slice HO_4.out
                        subst eo26
                        have p205 : 0 ≤ (x9_3 : Int) := of_decide_eq_true (by first | (with_reducible assumption) | assumption)
                        have q205 : x9_3 < (l0.length : Int) := of_decide_eq_true (by first | (with_reducible assumption) | assumption)
                        obtain ⟨ad205, A205_2, c205_2, e205, hx205_0, hx205_1, hx205_2, hl205_2, hi205_2⟩ := at_T37 HR0.out x9_3 p205 q205
                        cases e205
                        replace hx205_0 := (HB.out.cell (World.block_lt_of_cell? w _ hx205_0)).trans hx205_0
                        replace hx205_1 := (HB.out.cell (World.block_lt_of_cell? w _ hx205_1)).trans hx205_1
                        replace hx205_2 := (HB.out.cell (World.block_lt_of_cell? w _ hx205_2)).trans hx205_2
                        have HR205_2 := Aside0.mk hi205_2
                        have HC205_2 := Aside0.mk hl205_2
                        clear hi205_2 hl205_2
                        replace p205 := eq_true p205
                        replace q205 := eq_true q205
                        go_wp2
                        go_ret2
                        exact ⟨_, by first | rfl | (simp [errW_none, errW_some] <;> rfl) | (simp [*, errW_none, errW_some] <;> rfl), by first | exact Kd.R_nil _ _ _ _ _ | exact Kd.N_nil _ _ _ _ _ | exact Kd.V_nil _ _ _ _ _ | exact Kd.Q_nil _ _ _ _ _ | exact Kd.S_nil _ _ _ _ _, by repeat (first | (with_reducible first | exact HB.out | apply below_alloc | apply pw_below_drewN | apply below_drew1) | exact HB.out)⟩
                      · rw [if_neg c25] at H
                        have c25b0 : decide (66047 < (wrap64 ((wrap64 ((x4_3.length : Int) + 1536)) + (((rd_T37 l0 x9_3).f2).length : Int)))) = false := decide_eq_false c25
                        clear c25
                        replace H := Option.bind_eq_some_iff.mp H
                        obtain ⟨t207, A270, H⟩ := H
                        replace H : (if x4_3.length + t207.length < 140737488355328 then ((some (x4_3 ++ t207 : List Int)).bind fun y210 => (if y210.length + ((rd_T37 l0 x9_3).f2).length < 140737488355328 then (crossroadsref22_Write.l4 k3 l0 (y210 ++ ((rd_T37 l0 x9_3).f2)) x9_3) else (none))) else (none)) = some (r1, r2) := H
                        have A27 := Aside0.mk A270
                        clear A270
                        by_cases c28 : x4_3.length + t207.length < 140737488355328
                        · rw [if_pos c28] at H
                          have LMc28 := Aside0.mk c28
                          clear c28
                          obtain ⟨y210, hy210⟩ : ∃ y_ : List Int, y_ = (x4_3 ++ t207) := ⟨_, rfl⟩
                          replace H : (if y210.length + ((rd_T37 l0 x9_3).f2).length < 140737488355328 then (crossroadsref22_Write.l4 k3 l0 (y210 ++ ((rd_T37 l0 x9_3).f2)) x9_3) else (none)) = some (r1, r2) := by first | (rw [hy210]; with_reducible exact H) | (have H2_ := (Option.bind_some _ _).symm.trans H; rw [hy210]; with_reducible exact H2_) | (have H2_ := (Option.bind_some _ _).symm.trans H; with_reducible exact H2_) | with_reducible exact H | (rw [hy210]; exact H) | exact H
                          have Ny210 := Aside0.mk hy210
                          clear hy210
                          by_cases c29 : y210.length + ((rd_T37 l0 x9_3).f2).length < 140737488355328
                          · rw [if_pos c29] at H
                            have LMc29 := Aside0.mk c29
                            clear c29
                            obtain ⟨y214, hy214⟩ : ∃ y_ : List Int, y_ = (y210 ++ ((rd_T37 l0 x9_3).f2)) := ⟨_, rfl⟩
                            replace H : (crossroadsref22_Write.l4 k3 l0 y214 x9_3) = some (r1, r2) := by first | (rw [hy214]; with_reducible exact H) | (have H2_ := (Option.bind_some _ _).symm.trans H; rw [hy214]; with_reducible exact H2_) | (have H2_ := (Option.bind_some _ _).symm.trans H; with_reducible exact H2_) | with_reducible exact H | (rw [hy214]; exact H) | exact H
                            have Ny214 := Aside0.mk hy214
                            clear hy214
                            have H' := Aside0.mk H
                            clear H
                            obtain ⟨Ao30, co30, eo30⟩ := Kd.R_slice HO_4.out
                            subst eo30
                            have p205 : 0 ≤ (x9_3 : Int) := of_decide_eq_true (by first | (with_reducible assumption) | assumption)
                            have q205 : x9_3 < (l0.length : Int) := of_decide_eq_true (by first | (with_reducible assumption) | assumption)
                            obtain ⟨ad205, A205_2, c205_2, e205, hx205_0, hx205_1, hx205_2, hl205_2, hi205_2⟩ := at_T37 HR0.out x9_3 p205 q205
                            cases e205
                            replace hx205_0 := (HB.out.cell (World.block_lt_of_cell? w _ hx205_0)).trans hx205_0
                            replace hx205_1 := (HB.out.cell (World.block_lt_of_cell? w _ hx205_1)).trans hx205_1
                            replace hx205_2 := (HB.out.cell (World.block_lt_of_cell? w _ hx205_2)).trans hx205_2
                            have HR205_2 := Aside0.mk hi205_2
                            have HC205_2 := Aside0.mk hl205_2
                            clear hi205_2 hl205_2
                            replace p205 := eq_true p205
                            replace q205 := eq_true q205
                            try go_wp2
                            have n0_ := Aside0.mk (Kd.R_drew HO_4.out)
                            have n1_ := Aside0.mk (below_drew1 HB.out)
                            clear HO_4
                            clear HB
                            have HO_4 := n0_
                            have HB := n1_
                            clear n0_ n1_
                            have p206 : 0 ≤ (x9_3 : Int) := of_decide_eq_true (by first | (with_reducible assumption) | assumption)
                            have q206 : x9_3 < (l0.length : Int) := of_decide_eq_true (by first | (with_reducible assumption) | assumption)
                            obtain ⟨ad206, A206_2, c206_2, e206, hx206_0, hx206_1, hx206_2, hl206_2, hi206_2⟩ := at_T37 HR0.out x9_3 p206 q206
                            have hw206_2 := hx206_2
                            have hw206_1 := hx206_1
                            have hw206_0 := hx206_0
                            obtain rfl : ad205 = ad206 := (by injection e206)
                            replace hx206_0 := (HB.out.cell (World.block_lt_of_cell? w _ hx206_0)).trans hx206_0
                            replace hx206_1 := (HB.out.cell (World.block_lt_of_cell? w _ hx206_1)).trans hx206_1
                            replace hx206_2 := (HB.out.cell (World.block_lt_of_cell? w _ hx206_2)).trans hx206_2
                            have HR206_2 := Aside0.mk hi206_2
                            have HC206_2 := Aside0.mk hl206_2
                            clear hi206_2 hl206_2
                            replace p206 := eq_true p206
                            replace q206 := eq_true q206
                            (try clear hx205_2)
                            (try clear hx205_2)
                            have p213 : 0 ≤ (x9_3 : Int) := of_decide_eq_true (by first | (with_reducible assumption) | assumption)
                            have q213 : x9_3 < (l0.length : Int) := of_decide_eq_true (by first | (with_reducible assumption) | assumption)
                            obtain ⟨ad213, A213_2, c213_2, e213, hx213_0, hx213_1, hx213_2, hl213_2, hi213_2⟩ := at_T37 HR0.out x9_3 p213 q213
                            have hw213_2 := hx213_2
                            have hw213_1 := hx213_1
                            have hw213_0 := hx213_0
                            obtain rfl : ad205 = ad213 := (by injection e213)
                            replace hx213_0 := (HB.out.cell (World.block_lt_of_cell? w _ hx213_0)).trans hx213_0
                            replace hx213_1 := (HB.out.cell (World.block_lt_of_cell? w _ hx213_1)).trans hx213_1
                            replace hx213_2 := (HB.out.cell (World.block_lt_of_cell? w _ hx213_2)).trans hx213_2
                            have HR213_2 := Aside0.mk hi213_2
                            have HC213_2 := Aside0.mk hl213_2
                            clear hi213_2 hl213_2
                            replace p213 := eq_true p213
                            replace q213 := eq_true q213
                            have ea_ := Option.some.inj (hx206_2.symm.trans hx213_2)
                            injection ea_ with ea_ en_ ec_
                            subst ea_
                            subst ec_
                            clear en_
                            refine start_ (n := 14) (S := fun w' => w'.cell? (ad205.add ((x9_3).toNat * 3)) = some (.string ((rd_T37 l0 x9_3).f0)) ∧ w'.cell? ⟨(ad205.add ((x9_3).toNat * 3)).block, (ad205.add ((x9_3).toNat * 3)).off + 1, none⟩ = some (.bool ((rd_T37 l0 x9_3).f1)) ∧ w'.cell? ⟨(ad205.add ((x9_3).toNat * 3)).block, (ad205.add ((x9_3).toNat * 3)).off + 2, none⟩ = some (.slice A206_2 ((rd_T37 l0 x9_3).f2).length c206_2) ∧ w'.cell? (ad205.add ((x9_3).toNat * 3)) = some (.string ((rd_T37 l0 x9_3).f0)) ∧ w'.cell? ⟨(ad205.add ((x9_3).toNat * 3)).block, (ad205.add ((x9_3).toNat * 3)).off + 1, none⟩ = some (.bool ((rd_T37 l0 x9_3).f1)) ∧ w'.cell? ⟨(ad205.add ((x9_3).toNat * 3)).block, (ad205.add ((x9_3).toNat * 3)).off + 2, none⟩ = some (.slice A206_2 ((rd_T37 l0 x9_3).f2).length c206_2)) (ds := []) #[false, false, false, false, false, false, false, false, false, false, false, false, false, false] (by kernel_rfl) rfl rfl ⟨((HB.out.cell (World.block_lt_of_cell? w _ hw206_0)).trans hw206_0), ((HB.out.cell (World.block_lt_of_cell? w _ hw206_1)).trans hw206_1), ((HB.out.cell (World.block_lt_of_cell? w _ hw206_2)).trans hw206_2), ((HB.out.cell (World.block_lt_of_cell? w _ hw213_0)).trans hw213_0), ((HB.out.cell (World.block_lt_of_cell? w _ hw213_1)).trans hw213_1), ((HB.out.cell (World.block_lt_of_cell? w _ hw213_2)).trans hw213_2)⟩ (fun hHeld => ?_); refine with_tabW crossroadsref22_Write.tab23 crossroadsref22_Write.bits23 (fun HT_ HW_ => ?_)
                            generalize wr.drew = w31 at HO_4 HB HR206_2 HR213_2 hx206_0 hx206_1 hx206_2 hx213_0 hx213_1 hx213_2 hHeld ⊢
                            refine pure_ (i := 0) (N := some 79) (v := ?_) (a' := ?_) #[true, false, false, false, false, false, false, false, false, false, false, false, false, false] rfl rfl (any_of HT_.out (by kernel_rfl)) (fun _ _ _ h => h) (Or.inl ⟨by rfl, ?_⟩) ?_ ?_
                            rotate_left
                            · intro w'
                              go_simp
                              with_reducible rfl
                            rotate_left
                            · simp only [Act.put, List.setIfInBounds_toArray, List.set_cons_zero, List.set_cons_succ, i64_w, i32_w]
                              rfl
                            refine pure_ (i := 1) (N := some 80) (v := ?_) (a' := ?_) #[true, true, false, false, false, false, false, false, false, false, false, false, false, false] rfl rfl (any_of HT_.out (by kernel_rfl)) (fun _ _ _ h => h) (Or.inl ⟨by rfl, ?_⟩) ?_ ?_
                            rotate_left
                            · intro w'
                              go_simp
                              with_reducible rfl
                            rotate_left
                            · simp only [Act.put, List.setIfInBounds_toArray, List.set_cons_zero, List.set_cons_succ, i64_w, i32_w]
                              rfl
                            refine pure_ (i := 2) (N := some 81) (v := ?_) (a' := ?_) #[true, true, true, false, false, false, false, false, false, false, false, false, false, false] rfl rfl (any_of HT_.out (by kernel_rfl)) (fun _ _ _ h => h) (Or.inl ⟨by rfl, ?_⟩) ?_ ?_
                            rotate_left
                            · intro w'
                              go_simp
                              with_reducible rfl
                            rotate_left
                            · simp only [Act.put, List.setIfInBounds_toArray, List.set_cons_zero, List.set_cons_succ, i64_w, i32_w]
                              rfl
                            refine pure_ (i := 3) (N := some 82) (v := ?_) (a' := ?_) #[true, true, true, true, false, false, false, false, false, false, false, false, false, false] rfl rfl (any_of HT_.out (by kernel_rfl)) (fun _ _ _ h => h) (Or.inl ⟨by rfl, ?_⟩) ?_ ?_
                            rotate_left
                            · intro w'
                              go_simp
                              with_reducible rfl
                            rotate_left
                            · simp only [Act.put, List.setIfInBounds_toArray, List.set_cons_zero, List.set_cons_succ, i64_w, i32_w]
                              rfl
                            refine pure_ (i := 7) (N := some 86) (v := ?_) (a' := ?_) #[true, true, true, true, false, false, false, true, false, false, false, false, false, false] rfl rfl (any_of HT_.out (by kernel_rfl)) (fun _ _ _ h => h) (Or.inl ⟨by rfl, ?_⟩) ?_ ?_
                            rotate_left
                            · intro w'
                              go_simp
                              with_reducible rfl
                            rotate_left
                            · simp only [Act.put, List.setIfInBounds_toArray, List.set_cons_zero, List.set_cons_succ, i64_w, i32_w]
                              rfl
                            refine pure_ (i := 8) (N := some 87) (v := ?_) (a' := ?_) #[true, true, true, true, false, false, false, true, true, false, false, false, false, false] rfl rfl (any_of HT_.out (by kernel_rfl)) (fun _ _ _ h => h) (Or.inl ⟨by rfl, ?_⟩) ?_ ?_
                            rotate_left
                            · intro w'
                              go_simp
                              with_reducible rfl
                            rotate_left
                            · simp only [Act.put, List.setIfInBounds_toArray, List.set_cons_zero, List.set_cons_succ, i64_w, i32_w]
                              rfl
                            refine pure_ (i := 9) (N := some 88) (v := ?_) (a' := ?_) #[true, true, true, true, false, false, false, true, true, true, false, false, false, false] rfl rfl (any_of HT_.out (by kernel_rfl)) (fun _ _ _ h => h) (Or.inl ⟨by rfl, ?_⟩) ?_ ?_
                            rotate_left
                            · intro w'
                              go_simp
                              with_reducible rfl
                            rotate_left
                            · simp only [Act.put, List.setIfInBounds_toArray, List.set_cons_zero, List.set_cons_succ, i64_w, i32_w]
                              rfl
                            refine pure_ (i := 10) (N := some 89) (v := ?_) (a' := ?_) #[true, true, true, true, false, false, false, true, true, true, true, false, false, false] rfl rfl (any_of HT_.out (by kernel_rfl)) (fun _ _ _ h => h) (Or.inl ⟨by rfl, ?_⟩) ?_ ?_
                            rotate_left
                            · intro w'
                              go_simp
                              with_reducible rfl
                            rotate_left
                            · simp only [Act.put, List.setIfInBounds_toArray, List.set_cons_zero, List.set_cons_succ, i64_w, i32_w]
                              rfl
                            refine take_ (i := 4) (N := some 83) (v := ?_) (a' := ?_) #[true, true, true, true, true, false, false, true, true, true, true, false, false, false] rfl rfl (take_ofW HT_.out HW_.out (by kernel_rfl)) (fun _ _ _ h => h) (Or.inl ⟨by rfl, ?_⟩) hHeld ?_ ?_
                            rotate_left
                            · rintro w' ⟨s0, s1, s2, s3, s4, s5⟩
                              go_simp
                              with_reducible rfl
                            rotate_left
                            · simp only [Act.put, List.setIfInBounds_toArray, List.set_cons_zero, List.set_cons_succ, i64_w, i32_w]
                              rfl
                            refine take_ (i := 11) (N := some 90) (v := ?_) (a' := ?_) #[true, true, true, true, true, false, false, true, true, true, true, true, false, false] rfl rfl (take_ofW HT_.out HW_.out (by kernel_rfl)) (fun _ _ _ h => h) (Or.inl ⟨by rfl, ?_⟩) hHeld ?_ ?_
                            rotate_left
                            · rintro w' ⟨s0, s1, s2, s3, s4, s5⟩
                              go_simp
                              with_reducible rfl
                            rotate_left
                            · simp only [Act.put, List.setIfInBounds_toArray, List.set_cons_zero, List.set_cons_succ, i64_w, i32_w]
                              rfl
                            refine one_ (i := 5) (N := some 84) #[true, true, true, true, true, true, false, true, true, true, true, true, false, false] rfl rfl (one_of HT_.out (by kernel_rfl)) (by decide) (fun K hK => ?_)
                            refine goes_ Tryd.func14 (by kernel_rfl) rfl #[.agg #[.string ((rd_T37 l0 x9_3).f0), .bool ((rd_T37 l0 x9_3).f1), .slice A206_2 ((rd_T37 l0 x9_3).f2).length c206_2]] (by rfl) rfl rfl (by (try simp only [List.map_toArray, List.map_cons, List.map_nil]); first | done | rfl | (simp only [List.length_drop, List.length_take]; rfl)) ?_
                            with_reducible refine (crossroadsref22_Head.calls ((rd_T37 l0 x9_3).f0) ((rd_T37 l0 x9_3).f1) _ _ ((rd_T37 l0 x9_3).f2) t207 _ ?side1 ?side2 A27.out).mono ?_
                            (case side1 => repeat (first | exact (Kd.C_below HR206_2.out HB.out) | (with_reducible refine Kd.C_alloc ?_ _) | (with_reducible refine Kd.C_drewN ?_ _) | (with_reducible refine Kd.C_drew ?_)))
                            (case side2 => exact HC206_2.out)
                            rintro e w32 ⟨v208, rfl, ho0, hb⟩
                            refine ⟨_, rfl, ?_⟩
                            have n0_ := Aside0.mk (Kd.R_elder' (by (with_reducible repeat (first | apply Kd.R_alloc | apply Kd.R_drewN | apply Kd.R_drew)); exact HO_4.out) (Kd.R_base ho0) hb)
                            have n1_ := Aside0.mk (Kd.R_lower (Kd.R_new' ho0 (Kd.R_lt (by (with_reducible repeat (first | apply Kd.R_alloc | apply Kd.R_drewN | apply Kd.R_drew)); exact HO_4.out))) (below_size (by repeat (first | (with_reducible first | exact HB.out | apply below_alloc | apply pw_below_drewN | apply below_drew1) | exact HB.out))))
                            have n2_ := Aside0.mk (below_step (by repeat (first | (with_reducible first | exact HB.out | apply below_alloc | apply pw_below_drewN | apply below_drew1) | exact HB.out)) hb)
                            clear HO_4
                            clear HB
                            have HO_4 := n0_
                            have HO209 := n1_
                            have HB := n2_
                            clear n0_ n1_ n2_
                            (try clear hb)
                            (try clear hb2)
                            (try clear hk)
                            (try clear hi)
                            (try clear ho0)
                            obtain ⟨Ao34, co34, eo34⟩ := Kd.R_slice HO209.out
                            (first | subst eo34 | (injection eo34 with f1_ f2_ f3_; have f4_ := f1_.symm; have f5_ := f3_.symm; clear f1_ f2_ f3_; subst f4_; subst f5_))
                            refine hK.out _ _ ⟨((HB.out.cell (World.block_lt_of_cell? w _ hw206_0)).trans hw206_0), ((HB.out.cell (World.block_lt_of_cell? w _ hw206_1)).trans hw206_1), ((HB.out.cell (World.block_lt_of_cell? w _ hw206_2)).trans hw206_2), ((HB.out.cell (World.block_lt_of_cell? w _ hw213_0)).trans hw213_0), ((HB.out.cell (World.block_lt_of_cell? w _ hw213_1)).trans hw213_1), ((HB.out.cell (World.block_lt_of_cell? w _ hw213_2)).trans hw213_2)⟩ (fun hHeld => ?_)
                            clear hK K
                            refine norm_ (a' := ?_) ?_ ?_
                            rotate_left
                            · show Act.put _ (some 84) _ = _
                              simp only [Act.put, List.setIfInBounds_toArray, List.set_cons_zero, List.set_cons_succ, i64_w, i32_w]
                              rfl
                            refine one_ (i := 6) (N := some 85) #[true, true, true, true, true, true, true, true, true, true, true, true, false, false] rfl rfl (one_of HT_.out (by kernel_rfl)) (by decide) (fun K hK => ?_)
                            refine Kd.R_append_rows_step (Kd.int .u8) (w0 := w) w.heap.size (by rfl) (.tmp 79) (.tmp 84) 25 5 (.int .u8 0) 1 rfl Tryd.underlying25 info5 rfl (by decide) (by omega) (.slice Ao30 x4_3.length co30) x4_3 t207 _ _ _ (fun k_ => some k_ ≠ (.slice Ao34 t207.length co34 : Value).ownBlock) (fun _ => False) rfl rfl ?aO ?aR (fun _ _ h => h) (fun _ h => h.elim) ?aF ?aB ?aS ?aL ?_
                            (case aR => repeat (first | exact (Kd.R_reads' HO209.out).2.2 | (with_reducible refine Kd.C_alloc ?_ _) | (with_reducible refine Kd.C_drewN ?_ _) | (with_reducible refine Kd.C_drew ?_)))
                            (case aB => exact (by repeat (first | (with_reducible first | exact HB.out | apply below_alloc | apply pw_below_drewN | apply below_drew1) | exact HB.out)))
                            (case aF => exact (fun k_ hk => Kd.fresh' (Kd.R_lt (by (with_reducible repeat (first | apply Kd.R_alloc | apply Kd.R_drewN | apply Kd.R_drew)); exact HO209.out)) k_ hk))
                            (case aO => exact (by (with_reducible repeat (first | apply Kd.R_alloc | apply Kd.R_drewN | apply Kd.R_drew)); exact Kd.R_mono HO_4.out (fun _ hk => hk.2)))
                            (case aS => exact (below_size (by repeat (first | (with_reducible first | exact HB.out | apply below_alloc | apply pw_below_drewN | apply below_drew1) | exact HB.out))))
                            (case aL => have := LMc28.out; omega)
                            intro v211 w33 ho hb hg hat
                            rw [← Ny210.out] at ho
                            have n0_ := Aside0.mk (Kd.R_after (ok := (fun _ => True)) (by (with_reducible repeat (first | apply Kd.R_alloc | apply Kd.R_drewN | apply Kd.R_drew)); exact HO209.out) hg hat)
                            have n1_ := Aside0.mk (hb)
                            have n2_ := Aside0.mk (ho)
                            clear HO209
                            clear HB
                            clear HO_4
                            have HO209 := n0_
                            have HB := n1_
                            have HO212 := n2_
                            clear n0_ n1_ n2_
                            clear ho hb hg hat
                            refine hK.out _ _ ⟨((HB.out.cell (World.block_lt_of_cell? w _ hw206_0)).trans hw206_0), ((HB.out.cell (World.block_lt_of_cell? w _ hw206_1)).trans hw206_1), ((HB.out.cell (World.block_lt_of_cell? w _ hw206_2)).trans hw206_2), ((HB.out.cell (World.block_lt_of_cell? w _ hw213_0)).trans hw213_0), ((HB.out.cell (World.block_lt_of_cell? w _ hw213_1)).trans hw213_1), ((HB.out.cell (World.block_lt_of_cell? w _ hw213_2)).trans hw213_2)⟩ (fun hHeld => ?_)
                            clear hK K
                            refine norm_ (a' := ?_) ?_ ?_
                            rotate_left
                            · show Act.put _ (some 85) _ = _
                              simp only [Act.put, List.setIfInBounds_toArray, List.set_cons_zero, List.set_cons_succ, i64_w, i32_w]
                              rfl
                            refine one_ (i := 12) (N := some 91) #[true, true, true, true, true, true, true, true, true, true, true, true, true, false] rfl rfl (one_of HT_.out (by kernel_rfl)) (by decide) (fun K hK => ?_)
                            refine Kd.R_append_rows_step (Kd.int .u8) (w0 := w) w.heap.size (by rfl) (.tmp 85) (.tmp 90) 25 5 (.int .u8 0) 1 rfl Tryd.underlying25 info5 rfl (by decide) (by omega) v211 y210 ((rd_T37 l0 x9_3).f2) _ _ _ (fun k_ => some k_ ≠ (.slice Ao34 t207.length co34 : Value).ownBlock) (fun _ => False) rfl rfl ?aO ?aR (fun _ _ h => h) (fun _ h => h.elim) ?aF ?aB ?aS ?aL ?_
                            (case aR => repeat (first | exact (Kd.C_below HR213_2.out HB.out) | (with_reducible refine Kd.C_alloc ?_ _) | (with_reducible refine Kd.C_drewN ?_ _) | (with_reducible refine Kd.C_drew ?_)))
                            (case aB => exact (by repeat (first | (with_reducible first | exact HB.out | apply below_alloc | apply pw_below_drewN | apply below_drew1) | exact HB.out)))
                            (case aF => exact (fun k_ hk => Kd.fresh' (Kd.R_lt (by (with_reducible repeat (first | apply Kd.R_alloc | apply Kd.R_drewN | apply Kd.R_drew)); exact HO209.out)) k_ hk))
                            (case aO => exact (by (with_reducible repeat (first | apply Kd.R_alloc | apply Kd.R_drewN | apply Kd.R_drew)); exact HO212.out))
                            (case aS => exact (below_size (by repeat (first | (with_reducible first | exact HB.out | apply below_alloc | apply pw_below_drewN | apply below_drew1) | exact HB.out))))
                            (case aL => have := LMc29.out; omega)
                            intro v215 w35 ho hb hg hat
                            rw [← Ny214.out] at ho
                            have n0_ := Aside0.mk (Kd.R_after (ok := (fun _ => True)) (by (with_reducible repeat (first | apply Kd.R_alloc | apply Kd.R_drewN | apply Kd.R_drew)); exact HO209.out) hg hat)
                            have n1_ := Aside0.mk (hb)
                            have n2_ := Aside0.mk (ho)
                            clear HO209
                            clear HB
                            clear HO212
                            have HO209 := n0_
                            have HB := n1_
                            have HO216 := n2_
                            clear n0_ n1_ n2_
                            clear ho hb hg hat
                            refine hK.out _ _ ⟨((HB.out.cell (World.block_lt_of_cell? w _ hw206_0)).trans hw206_0), ((HB.out.cell (World.block_lt_of_cell? w _ hw206_1)).trans hw206_1), ((HB.out.cell (World.block_lt_of_cell? w _ hw206_2)).trans hw206_2), ((HB.out.cell (World.block_lt_of_cell? w _ hw213_0)).trans hw213_0), ((HB.out.cell (World.block_lt_of_cell? w _ hw213_1)).trans hw213_1), ((HB.out.cell (World.block_lt_of_cell? w _ hw213_2)).trans hw213_2)⟩ (fun hHeld => ?_)
                            clear hK K
                            refine norm_ (a' := ?_) ?_ ?_
                            rotate_left
                            · show Act.put _ (some 91) _ = _
                              simp only [Act.put, List.setIfInBounds_toArray, List.set_cons_zero, List.set_cons_succ, i64_w, i32_w]
                              rfl
                            refine pure_ (i := 13) (N := some 4) (v := ?_) (a' := ?_) #[true, true, true, true, true, true, true, true, true, true, true, true, true, true] rfl rfl (any_of HT_.out (by kernel_rfl)) (fun _ _ _ h => h) (Or.inl ⟨by rfl, ?_⟩) ?_ ?_
                            rotate_left
                            · intro w'
                              go_simp
                              with_reducible rfl
                            rotate_left
                            · simp only [Act.put, List.setIfInBounds_toArray, List.set_cons_zero, List.set_cons_succ, i64_w, i32_w]
                              rfl
                            refine done_ (done_of HT_.out (by kernel_rfl)) ?_
                            try go_wp2
                            go_loopg [4] k3 (fun kq v4 w' => ∃ (x4_4 : List Int), Aside0 (crossroadsref22_Write.l4 kq l0 x4_4 x9_3 = some (r1, r2)) ∧ Aside0 (kq ≤ k3) ∧ Aside0 (Kd.R (Kd.int .u8) 5 w' w.heap.size (fun _ => True) v4 x4_4) ∧ Aside0 (Below w.heap.size w w'))
                            case atStart => exact ⟨(y214), H', ⟨Nat.le_refl _⟩, ⟨by (with_reducible repeat (first | apply Kd.R_alloc | apply Kd.R_drewN | apply Kd.R_drew)); exact Kd.R_mono HO216.out (fun _ hk => trivial)⟩, ⟨by repeat (first | (with_reducible first | exact HB.out | apply below_alloc | apply pw_below_drewN | apply below_drew1) | exact HB.out)⟩⟩
                            case round =>
                              clear H'
                              try clear c1
                              try clear p1
                              try clear q1
                              try clear hx1
                              try clear c2
                              try clear c2b0
                              try clear p2
                              try clear q2
                              try clear hx2
                              try clear c3
                              try clear c3b0
                              try clear p6
                              try clear c7
                              try clear c7b0
                              try clear c7b1
                              try clear c7b2
                              try clear c10
                              try clear c11
                              try clear c11b0
                              try clear c12
                              try clear c12b0
                              try clear p13
                              try clear q13
                              try clear hx13
                              try clear c14
                              try clear c14b0
                              try clear c14b1
                              try clear c18
                              try clear c18b0
                              try clear c19
                              try clear c19b0
                              try clear p19
                              try clear q19
                              try clear hx19
                              try clear c20
                              try clear p20
                              try clear q20
                              try clear hx20
                              try clear c21
                              try clear p21
                              try clear q21
                              try clear hx21
                              try clear c22
                              try clear c22b0
                              try clear c22b1
                              try clear c23
                              try clear c23b0
                              try clear c24
                              try clear c24b0
                              try clear c25
                              try clear c25b0
                              try clear c28
                              try clear c29
                              try clear hcz15_0
                              try clear hcz15_1
                              try clear hcz15_2
                              try clear hcz16_0
                              try clear hcz16_1
                              try clear hcz16_2
                              try clear hcz17_0
                              try clear hcz17_1
                              try clear hcz17_2
                              try clear hcz6_0
                              try clear hcz6_1
                              try clear hcz6_2
                              try clear hcz8_0
                              try clear hcz8_1
                              try clear hcz8_2
                              try clear hcz9_0
                              try clear hcz9_1
                              try clear hcz9_2
                              try clear hfz15_0
                              try clear hfz15_1
                              try clear hfz15_2
                              try clear hfz16_0
                              try clear hfz16_1
                              try clear hfz16_2
                              try clear hfz17_0
                              try clear hfz17_1
                              try clear hfz17_2
                              try clear hfz6_0
                              try clear hfz6_1
                              try clear hfz6_2
                              try clear hfz8_0
                              try clear hfz8_1
                              try clear hfz8_2
                              try clear hfz9_0
                              try clear hfz9_1
                              try clear hfz9_2
                              try clear hx198_0
                              try clear hx198_1
                              try clear hx198_2
                              try clear hx200_0
                              try clear hx200_1
                              try clear hx200_2
                              try clear hx201_0
                              try clear hx201_1
                              try clear hx201_2
                              try clear hx205_0
                              try clear hx205_1
                              try clear hx205_2
                              try clear hx206_0
                              try clear hx206_1
                              try clear hx206_2
                              try clear hx213_0
                              try clear hx213_1
                              try clear hx213_2
                              try clear p1
                              try clear p13
                              try clear p19
                              try clear p198
                              try clear p2
                              try clear p20
                              try clear p200
                              try clear p201
                              try clear p205
                              try clear p206
                              try clear p213
                              try clear p6
                              try clear q1
                              try clear q13
                              try clear q19
                              try clear q198
                              try clear q2
                              try clear q20
                              try clear q200
                              try clear q201
                              try clear q205
                              try clear q206
                              try clear q213
                              obtain ⟨x4_4, HA, HK4, HO_4, HB⟩ := hrel
                              cases gk with
                              | zero => exact absurd HA.out (by simp [crossroadsref22_Write.l4])
                              | succ k4 =>
                                have H := HA.out
                                clear HA
                                simp only [crossroadsref22_Write.l4] at H
                                by_cases c36 : ((x4_4.length : Int) % 512) = 0
                                · rw [if_pos c36] at H
                                  have c36b0 : (((x4_4.length : Int) % 512) == 0) = true := beq_iff_eq.mpr c36
                                  have c36b1 : (((x4_4.length : Int) % 512) != 0) = false := bne_eq_false_iff_eq.mpr c36
                                  clear c36
                                  have H' := Aside0.mk H
                                  clear H
                                  obtain ⟨Ao37, co37, eo37⟩ := Kd.R_slice HO_4.out
                                  subst eo37
                                  go_wp2
                                  go_roundg k4
                                  case measure => have := HK1.out; have := HK2.out; have := HK3.out; have := HK4.out; omega
                                  case rel => exact ⟨(x4_4), (wrap64 (x9_3 + 1)), (by first | rfl | (simp; done) | (simp [*]; done)), H', ⟨by have := HK1.out; have := HK2.out; have := HK3.out; have := HK4.out; omega⟩, ⟨by (with_reducible repeat (first | apply Kd.R_alloc | apply Kd.R_drewN | apply Kd.R_drew)); exact HO_4.out⟩, ⟨by repeat (first | (with_reducible first | exact HB.out | apply below_alloc | apply pw_below_drewN | apply below_drew1) | exact HB.out)⟩⟩
                                · rw [if_neg c36] at H
                                  have c36b0 : (((x4_4.length : Int) % 512) == 0) = false := beq_eq_false_iff_ne.mpr c36
                                  have c36b1 : (((x4_4.length : Int) % 512) != 0) = true := bne_iff_ne.mpr c36
                                  by_cases c38 : x4_4.length < 140737488355328
                                  · rw [if_pos c38] at H
                                    have LMc38 := Aside0.mk c38
                                    clear c38
                                    obtain ⟨y217, hy217⟩ : ∃ y_ : List Int, y_ = (x4_4 ++ [0]) := ⟨_, rfl⟩
                                    replace H : (crossroadsref22_Write.l4 k4 l0 y217 x9_3) = some (r1, r2) := by first | (rw [hy217]; with_reducible exact H) | (have H2_ := (Option.bind_some _ _).symm.trans H; rw [hy217]; with_reducible exact H2_) | (have H2_ := (Option.bind_some _ _).symm.trans H; with_reducible exact H2_) | with_reducible exact H | (rw [hy217]; exact H) | exact H
                                    have Ny217 := Aside0.mk hy217
                                    clear hy217
                                    have H' := Aside0.mk H
                                    clear H
                                    obtain ⟨Ao39, co39, eo39⟩ := Kd.R_slice HO_4.out
                                    subst eo39
                                    go_wp2_with (first | ((with_reducible refine gate_builtin (b := .append) (xs := #[.tmp 96, .tmp 97]) rfl ?_); (try (refine gate_guard (by rfl) ?_; dsimp only)); at_builtin; refine Kd.R_append (Kd.int .u8) (w0 := w) w.heap.size rfl (.tmp 96) (.tmp 97) 25 5 (.int .u8 0) 1 rfl Tryd.underlying25 info5 rfl (by decide) (by omega) (.slice Ao39 x4_4.length co39) x4_4 0 [.int .u8 0] (fun _ => True) (fun _ => False) rfl rfl ?aP (fun _ hk => hk.elim) ?aF ?aO ?aB ?aS ?aL ?_; (case aP => exact rfl); (case aB => exact (by repeat (first | (with_reducible first | exact HB.out | apply below_alloc | apply pw_below_drewN | apply below_drew1) | exact HB.out))); (case aF => exact (fun _ _ => trivial)); (case aO => exact (by (with_reducible repeat (first | apply Kd.R_alloc | apply Kd.R_drewN | apply Kd.R_drew)); exact HO_4.out)); (case aS => exact (below_size (by repeat (first | (with_reducible first | exact HB.out | apply below_alloc | apply pw_below_drewN | apply below_drew1) | exact HB.out)))); (case aL => have := LMc38.out; omega); intro v218 w40 ho hb hg hat; rw [← Ny217.out] at ho; have n0_ := Aside0.mk (hb); have n1_ := Aside0.mk (ho); clear HB; clear HO_4; have HB := n0_; have HO219 := n1_; clear n0_ n1_; clear ho hb hg hat))
                                    go_roundg k4
                                    case measure => have := HK1.out; have := HK2.out; have := HK3.out; have := HK4.out; omega
                                    case rel => exact ⟨(y217), H', ⟨by have := HK1.out; have := HK2.out; have := HK3.out; have := HK4.out; omega⟩, ⟨by (with_reducible repeat (first | apply Kd.R_alloc | apply Kd.R_drewN | apply Kd.R_drew)); exact HO219.out⟩, ⟨by repeat (first | (with_reducible first | exact HB.out | apply below_alloc | apply pw_below_drewN | apply below_drew1) | exact HB.out)⟩⟩
                                  · rw [if_neg c38] at H
                                    exact absurd H (by simp)
                          · rw [if_neg c29] at H
                            exact absurd H (by simp)
                        · rw [if_neg c28] at H
                          exact absurd H (by simp)
                    · rw [if_neg c24] at H
                      exact absurd H (by simp)
                  · rw [if_neg c23] at H
                    have c23b0 : decide (x9_3 < (l0.length : Int)) = false := decide_eq_false c23
                    clear c23
                    by_cases c41 : x4_3.length + 1024 < 140737488355328
                    · rw [if_pos c41] at H
                      have LMc41 := Aside0.mk c41
                      clear c41
                      obtain ⟨y202, hy202⟩ : ∃ y_ : List Int, y_ = (x4_3 ++ List.replicate 1024 0) := ⟨_, rfl⟩
                      replace H : (if (y202.length : Int) > 65536 then (some (([] : List Int), 3)) else (some (y202, 0))) = some (r1, r2) := by first | (rw [hy202]; with_reducible exact H) | (have H2_ := (Option.bind_some _ _).symm.trans H; rw [hy202]; with_reducible exact H2_) | (have H2_ := (Option.bind_some _ _).symm.trans H; with_reducible exact H2_) | with_reducible exact H | (rw [hy202]; exact H) | exact H
                      have Ny202 := Aside0.mk hy202
                      clear hy202
                      by_cases c42 : (y202.length : Int) > 65536
                      · rw [if_pos c42] at H
                        have c42b0 : decide (65536 < (y202.length : Int)) = true := decide_eq_true c42
                        have c42b1 : decide (65536 < y202.length) = true := decide_eq_true (by omega)
                        clear c42
                        simp only [Option.some.injEq, Prod.mk.injEq] at H
                        obtain ⟨rfl, rfl⟩ := H
                        go_wp2_with (first | (at_builtin; refine Kd.R_append_zeros (Kd.int .u8) (w0 := w) w.heap.size rfl (.tmp 99) (.const (.int .i64 1024)) 25 3 5 (.int .u8 0) 1 rfl Tryd.underlying25 Tryd.underlying3 info5 rfl (by decide) (by omega) u4 x4_3 0 (1024 : Int) (fun _ => True) rfl rfl rfl ?aF ?aO (by omega) ?aB ?aS ?aL ?_; (case aB => exact (by repeat (first | (with_reducible first | exact HB.out | apply below_alloc | apply pw_below_drewN | apply below_drew1) | exact HB.out))); (case aF => exact (fun _ _ => trivial)); (case aO => exact (by (with_reducible repeat (first | apply Kd.R_alloc | apply Kd.R_drewN | apply Kd.R_drew)); exact HO_4.out)); (case aS => exact (below_size (by repeat (first | (with_reducible first | exact HB.out | apply below_alloc | apply pw_below_drewN | apply below_drew1) | exact HB.out)))); (case aL => have := LMc41.out; omega); intro v203 w43 ho hb hg hat; rw [show (1024 : Int).toNat = 1024 from rfl, ← Ny202.out] at ho; have n0_ := Aside0.mk (hb); have n1_ := Aside0.mk (ho); clear HB; clear HO_4; have HB := n0_; have HO204 := n1_; clear n0_ n1_; clear ho hb hg hat; obtain ⟨Ao44, co44, eo44⟩ := Kd.R_slice HO204.out; subst eo44))
                        go_ret2
                        exact ⟨_, by first | rfl | (simp [errW_none, errW_some] <;> rfl) | (simp [*, errW_none, errW_some] <;> rfl), by first | exact Kd.R_nil _ _ _ _ _ | exact Kd.N_nil _ _ _ _ _ | exact Kd.V_nil _ _ _ _ _ | exact Kd.Q_nil _ _ _ _ _ | exact Kd.S_nil _ _ _ _ _, by repeat (first | (with_reducible first | exact HB.out | apply below_alloc | apply pw_below_drewN | apply below_drew1) | exact HB.out)⟩
                      · rw [if_neg c42] at H
                        have c42b0 : decide (65536 < (y202.length : Int)) = false := decide_eq_false c42
                        have c42b1 : decide (65536 < y202.length) = false := decide_eq_false (by omega)
                        clear c42
                        simp only [Option.some.injEq, Prod.mk.injEq] at H
                        obtain ⟨rfl, rfl⟩ := H
                        go_wp2_with (first | (at_builtin; refine Kd.R_append_zeros (Kd.int .u8) (w0 := w) w.heap.size rfl (.tmp 99) (.const (.int .i64 1024)) 25 3 5 (.int .u8 0) 1 rfl Tryd.underlying25 Tryd.underlying3 info5 rfl (by decide) (by omega) u4 x4_3 0 (1024 : Int) (fun _ => True) rfl rfl rfl ?aF ?aO (by omega) ?aB ?aS ?aL ?_; (case aB => exact (by repeat (first | (with_reducible first | exact HB.out | apply below_alloc | apply pw_below_drewN | apply below_drew1) | exact HB.out))); (case aF => exact (fun _ _ => trivial)); (case aO => exact (by (with_reducible repeat (first | apply Kd.R_alloc | apply Kd.R_drewN | apply Kd.R_drew)); exact HO_4.out)); (case aS => exact (below_size (by repeat (first | (with_reducible first | exact HB.out | apply below_alloc | apply pw_below_drewN | apply below_drew1) | exact HB.out)))); (case aL => have := LMc41.out; omega); intro v203 w45 ho hb hg hat; rw [show (1024 : Int).toNat = 1024 from rfl, ← Ny202.out] at ho; have n0_ := Aside0.mk (hb); have n1_ := Aside0.mk (ho); clear HB; clear HO_4; have HB := n0_; have HO204 := n1_; clear n0_ n1_; clear ho hb hg hat; obtain ⟨Ao46, co46, eo46⟩ := Kd.R_slice HO204.out; subst eo46))
                        go_ret2
                        exact ⟨_, by first | rfl | (simp [errW_none, errW_some] <;> rfl) | (simp [*, errW_none, errW_some] <;> rfl), by (with_reducible repeat (first | apply Kd.R_alloc | apply Kd.R_drewN | apply Kd.R_drew)); exact HO204.out, by repeat (first | (with_reducible first | exact HB.out | apply below_alloc | apply pw_below_drewN | apply below_drew1) | exact HB.out)⟩
                    · rw [if_neg c41] at H
                      exact absurd H (by simp)

end Go.Proofs.YtlnogacjebbepaaDoor.P
