/- Joined by a program of this session out of: Px3, Px4. -/
import Derived.Test.YtnhpfdnhnocgjaaPx2
-- Laid by a program of this session (the kit's print, changed): Lean checks it.
namespace Go.Proofs.Ytnhpfdnhnocgjaa.P
open Go.RowKit Go.Proofs.YtnhpfdnhnocgjaaW.PrintWords Go.Proofs.YtnhpfdnhnocgjaaW.PrintLast Go.Proofs.YtnhpfdnhnocgjaaW.PrintMore
attribute [local go_sem] max2_int min2_int max_two min_two max_three min_three max_four min_four   -- for this text's walks alone
set_option linter.unusedVariables false
set_option linter.unusedSimpArgs false

/-! ### crossroadsref1_Unit: function 17 -/
mutual
def crossroadsref1_Unit.l0 : Nat → List (List Int) → List Int → Option (List Int × Bool)
  | 0, _, _ => none
  | k + 1, x1, x8 => crossroadsref1_Unit.l1 k x1 x8 false 0
def crossroadsref1_Unit.l1 : Nat → List (List Int) → List Int → Bool → Int → Option (List Int × Bool)
  | 0, _, _, _, _ => none
  | k + 1, x1, x8, x9, x10 => if x10 < (x1.length : Int) then (crossroadsref1_Unit.l2 k x1 x8 x9 x10 false 0 0) else (if x9 = true then (crossroadsref1_Unit.l0 k x1 x8) else (some (x8, false)))
def crossroadsref1_Unit.l2 : Nat → List (List Int) → List Int → Bool → Int → Bool → Int → Int → Option (List Int × Bool)
  | 0, _, _, _, _, _, _, _ => none
  | k + 1, x1, x8, x9, x10, x11, x12, x13 => if 0 ≤ x10 then (if x10 < (x1.length : Int) then (if x13 < ((rd_L1 x1 x10).length : Int) then (if 0 ≤ x13 then (if 0 ≤ (wrap64 ((mx (rd (rd_L1 x1 x10) x13) (wrap64 (-(rd (rd_L1 x1 x10) x13)))) - 1)) then (if (wrap64 ((mx (rd (rd_L1 x1 x10) x13) (wrap64 (-(rd (rd_L1 x1 x10) x13)))) - 1)) < (x8.length : Int) then (if (rd x8 (wrap64 ((mx (rd (rd_L1 x1 x10) x13) (wrap64 (-(rd (rd_L1 x1 x10) x13)))) - 1))) = 0 then (if x11 = true then (crossroadsref1_Unit.l2 k x1 x8 x9 x10 true (rd (rd_L1 x1 x10) x13) (wrap64 (x13 + 1))) else (crossroadsref1_Unit.l2 k x1 x8 x9 x10 false (rd (rd_L1 x1 x10) x13) (wrap64 (x13 + 1)))) else (if x11 = true then (crossroadsref1_Unit.l2 k x1 x8 x9 x10 true x12 (wrap64 (x13 + 1))) else (crossroadsref1_Unit.l2 k x1 x8 x9 x10 (((rd x8 (wrap64 ((mx (rd (rd_L1 x1 x10) x13) (wrap64 (-(rd (rd_L1 x1 x10) x13)))) - 1))) == 1) == (decide ((rd (rd_L1 x1 x10) x13) > 0))) x12 (wrap64 (x13 + 1))))) else (none)) else (none)) else (none)) else (if x11 = true then (crossroadsref1_Unit.j3 k x1 x8 x9 x10 x12 true) else ((crossroadsref1_differ.f k (rd_L1 x1 x10) x8).bind fun t125 => (crossroadsref1_Unit.j3 k x1 x8 x9 x10 x12 t125)))) else (none)) else (none)
def crossroadsref1_Unit.j3 : Nat → List (List Int) → List Int → Bool → Int → Int → Bool → Option (List Int × Bool)
  | 0, _, _, _, _, _, _ => none
  | k + 1, x1, x8, x9, x10, x12, x71 => if x71 = true then (crossroadsref1_Unit.l1 k x1 x8 x9 (wrap64 (x10 + 1))) else (if x12 = 0 then (some (([] : List Int), true)) else (if 0 ≤ (wrap64 ((mx x12 (wrap64 (-x12))) - 1)) then (if (wrap64 ((mx x12 (wrap64 (-x12))) - 1)) < (x8.length : Int) then ((some (x8.set ((wrap64 ((mx x12 (wrap64 (-x12))) - 1)) : Int).toNat 1 : List Int)).bind fun y126 => (if x12 < 0 then (if 0 ≤ (wrap64 ((wrap64 (-x12)) - 1)) then (if (wrap64 ((wrap64 (-x12)) - 1)) < (x8.length : Int) then (crossroadsref1_Unit.l1 k x1 (y126.set ((wrap64 ((wrap64 (-x12)) - 1)) : Int).toNat (-1)) true (wrap64 (x10 + 1))) else (none)) else (none)) else (crossroadsref1_Unit.l1 k x1 y126 true (wrap64 (x10 + 1))))) else (none)) else (none)))
end
def crossroadsref1_Unit.f (k : Nat) (a0 : Int) (l1 : List (List Int)) (l2 : List Int) : Option (List Int × Bool) := if ([] : List Int).length + l2.length < 17592186044416 then (crossroadsref1_Unit.l0 k l1 (([] : List Int) ++ l2)) else (none)
theorem crossroadsref1_Unit.mono_l : ∀ k, (∀ y0 y1, LeO (crossroadsref1_Unit.l0 k y0 y1) (crossroadsref1_Unit.l0 (k + 1) y0 y1)) ∧ (∀ y0 y1 y2 y3, LeO (crossroadsref1_Unit.l1 k y0 y1 y2 y3) (crossroadsref1_Unit.l1 (k + 1) y0 y1 y2 y3)) ∧ (∀ y0 y1 y2 y3 y4 y5 y6, LeO (crossroadsref1_Unit.l2 k y0 y1 y2 y3 y4 y5 y6) (crossroadsref1_Unit.l2 (k + 1) y0 y1 y2 y3 y4 y5 y6)) ∧ (∀ y0 y1 y2 y3 y4 y5, LeO (crossroadsref1_Unit.j3 k y0 y1 y2 y3 y4 y5) (crossroadsref1_Unit.j3 (k + 1) y0 y1 y2 y3 y4 y5))
  | 0 => ⟨fun _ _ r h => by simp [crossroadsref1_Unit.l0] at h, fun _ _ _ _ r h => by simp [crossroadsref1_Unit.l1] at h, fun _ _ _ _ _ _ _ r h => by simp [crossroadsref1_Unit.l2] at h, fun _ _ _ _ _ _ r h => by simp [crossroadsref1_Unit.j3] at h⟩
  | k + 1 => by
    obtain ⟨ih0, ih1, ih2, ih3⟩ := crossroadsref1_Unit.mono_l k
    refine ⟨?_, ?_, ?_, ?_⟩
    · intro y0 y1
      unfold crossroadsref1_Unit.l0
      repeat' first
      | (with_reducible exact ih0 _ _)
      | (with_reducible exact ih1 _ _ _ _)
      | (with_reducible exact ih2 _ _ _ _ _ _ _)
      | (with_reducible exact ih3 _ _ _ _ _ _)
      | (with_reducible exact crossroadsref1_differ.mono _ _ _)
      | (with_reducible exact LeO.refl _)
      | (with_reducible exact LeO.none _)
      | (with_reducible refine LeO.ite ?_ ?_)
      | (with_reducible refine LeO.bind ?_ (fun _ => ?_))
      | exact ih0 _ _
      | exact ih1 _ _ _ _
      | exact ih2 _ _ _ _ _ _ _
      | exact ih3 _ _ _ _ _ _
      | exact crossroadsref1_differ.mono _ _ _
      | exact LeO.none _
      | refine LeO.ite ?_ ?_
      | refine LeO.bind ?_ (fun _ => ?_)
    · intro y0 y1 y2 y3
      unfold crossroadsref1_Unit.l1
      repeat' first
      | (with_reducible exact ih0 _ _)
      | (with_reducible exact ih1 _ _ _ _)
      | (with_reducible exact ih2 _ _ _ _ _ _ _)
      | (with_reducible exact ih3 _ _ _ _ _ _)
      | (with_reducible exact crossroadsref1_differ.mono _ _ _)
      | (with_reducible exact LeO.refl _)
      | (with_reducible exact LeO.none _)
      | (with_reducible refine LeO.ite ?_ ?_)
      | (with_reducible refine LeO.bind ?_ (fun _ => ?_))
      | exact ih0 _ _
      | exact ih1 _ _ _ _
      | exact ih2 _ _ _ _ _ _ _
      | exact ih3 _ _ _ _ _ _
      | exact crossroadsref1_differ.mono _ _ _
      | exact LeO.none _
      | refine LeO.ite ?_ ?_
      | refine LeO.bind ?_ (fun _ => ?_)
    · intro y0 y1 y2 y3 y4 y5 y6
      unfold crossroadsref1_Unit.l2
      repeat' first
      | (with_reducible exact ih0 _ _)
      | (with_reducible exact ih1 _ _ _ _)
      | (with_reducible exact ih2 _ _ _ _ _ _ _)
      | (with_reducible exact ih3 _ _ _ _ _ _)
      | (with_reducible exact crossroadsref1_differ.mono _ _ _)
      | (with_reducible exact LeO.refl _)
      | (with_reducible exact LeO.none _)
      | (with_reducible refine LeO.ite ?_ ?_)
      | (with_reducible refine LeO.bind ?_ (fun _ => ?_))
      | exact ih0 _ _
      | exact ih1 _ _ _ _
      | exact ih2 _ _ _ _ _ _ _
      | exact ih3 _ _ _ _ _ _
      | exact crossroadsref1_differ.mono _ _ _
      | exact LeO.none _
      | refine LeO.ite ?_ ?_
      | refine LeO.bind ?_ (fun _ => ?_)
    · intro y0 y1 y2 y3 y4 y5
      unfold crossroadsref1_Unit.j3
      repeat' first
      | (with_reducible exact ih0 _ _)
      | (with_reducible exact ih1 _ _ _ _)
      | (with_reducible exact ih2 _ _ _ _ _ _ _)
      | (with_reducible exact ih3 _ _ _ _ _ _)
      | (with_reducible exact crossroadsref1_differ.mono _ _ _)
      | (with_reducible exact LeO.refl _)
      | (with_reducible exact LeO.none _)
      | (with_reducible refine LeO.ite ?_ ?_)
      | (with_reducible refine LeO.bind ?_ (fun _ => ?_))
      | exact ih0 _ _
      | exact ih1 _ _ _ _
      | exact ih2 _ _ _ _ _ _ _
      | exact ih3 _ _ _ _ _ _
      | exact crossroadsref1_differ.mono _ _ _
      | exact LeO.none _
      | refine LeO.ite ?_ ?_
      | refine LeO.bind ?_ (fun _ => ?_)
theorem crossroadsref1_Unit.mono : ∀ a0 a1 a2 k, LeO (crossroadsref1_Unit.f k a0 a1 a2) (crossroadsref1_Unit.f (k + 1) a0 a1 a2) := by
  intro a0 a1 a2 k
  obtain ⟨ih0, ih1, ih2, ih3⟩ := crossroadsref1_Unit.mono_l k
  unfold crossroadsref1_Unit.f
  repeat' first
      | (with_reducible exact ih0 _ _)
      | (with_reducible exact ih1 _ _ _ _)
      | (with_reducible exact ih2 _ _ _ _ _ _ _)
      | (with_reducible exact ih3 _ _ _ _ _ _)
      | (with_reducible exact crossroadsref1_differ.mono _ _ _)
      | (with_reducible exact LeO.refl _)
      | (with_reducible exact LeO.none _)
      | (with_reducible refine LeO.ite ?_ ?_)
      | (with_reducible refine LeO.bind ?_ (fun _ => ?_))
      | exact ih0 _ _
      | exact ih1 _ _ _ _
      | exact ih2 _ _ _ _ _ _ _
      | exact ih3 _ _ _ _ _ _
      | exact crossroadsref1_differ.mono _ _ _
      | exact LeO.none _
      | refine LeO.ite ?_ ?_
      | refine LeO.bind ?_ (fun _ => ?_)
set_option maxHeartbeats 8000000 in
set_option maxRecDepth 100000 in
theorem crossroadsref1_Unit.calls (k : Nat) (a0 : Int) (A1 : Option Addr) (c1 : Nat) (l1 : List (List Int)) (A2 : Option Addr) (c2 : Nat) (l2 : List Int) (r1 : List Int) (r2 : Bool) (w : World) (hr1 : Kd.C (Kd.slice 3 (Kd.int .i64)) w A1 l1.length l1) (hc1 : l1.length ≤ c1) (hr2 : Kd.C (Kd.int .i64) w A2 l2.length l2) (hc2 : l2.length ≤ c2) (h : crossroadsref1_Unit.f k a0 l1 l2 = some (r1, r2)) :
    Calls Try.prog 17 #[.int .i64 a0, .slice A1 l1.length c1, .slice A2 l2.length c2] w fun e w' => ∃ v0_ : Value, e = .returned (.tuple #[v0_, .bool r2]) ∧ Kd.R (Kd.int .i64) 3 w' w.heap.size (fun _ => True) v0_ r1 ∧ Below w.heap.size w w' := by
  have HR1 := Aside0.mk hr1
  have HC1 := Aside0.mk hc1
  clear hr1 hc1
  have HR2 := Aside0.mk hr2
  have HC2 := Aside0.mk hc2
  clear hr2 hc2
  have HB := Aside0.mk (Below.refl w.heap.size w)
  have H : (if ([] : List Int).length + l2.length < 17592186044416 then (crossroadsref1_Unit.l0 k l1 (([] : List Int) ++ l2)) else (none)) = some (r1, r2) := h
  clear h
  by_cases c4 : ([] : List Int).length + l2.length < 17592186044416
  · rw [if_pos c4] at H
    have LMc4 := Aside0.mk c4
    clear c4
    obtain ⟨y117, hy117⟩ : ∃ y_ : List Int, y_ = (([] : List Int) ++ l2) := ⟨_, rfl⟩
    replace H : (crossroadsref1_Unit.l0 k l1 y117) = some (r1, r2) := by first | (rw [hy117]; with_reducible exact H) | (have H2_ := (Option.bind_some _ _).symm.trans H; rw [hy117]; with_reducible exact H2_) | (have H2_ := (Option.bind_some _ _).symm.trans H; with_reducible exact H2_) | with_reducible exact H | (rw [hy117]; exact H) | exact H
    have Ny117 := Aside0.mk hy117
    clear hy117
    have H' := Aside0.mk H
    clear H
    go_enter Try.func17, Try.ntmps17
    go_wp2_with (first | ((with_reducible refine gate_builtin (b := .append) (xs := #[.const (.slice none 0 0), .tmp 16]) rfl ?_); at_builtin; refine Kd.R_append_rows (Kd.int .i64) (w0 := w) w.heap.size rfl (.const (.slice none 0 0)) (.tmp 16) 37 3 (.int .i64 0) 8 rfl Try.underlying37 info3 rfl (by decide) (by omega) (.slice none 0 0) ([] : List Int) l2 _ _ _ (fun _ => True) (fun _ => False) rfl rfl ?aO ?aR (fun _ _ h => h) (fun _ h => h.elim) ?aF ?aB ?aS ?aL ?_; (case aR => repeat (first | exact HR2.out | (with_reducible refine Kd.C_alloc ?_ _) | (with_reducible refine Kd.C_drewN ?_ _) | (with_reducible refine Kd.C_drew ?_))); (case aB => exact (by repeat (first | (with_reducible first | exact HB.out | apply below_alloc | apply pw_below_drewN | apply below_drew1) | exact HB.out))); (case aF => exact (fun _ _ => trivial)); (case aO => exact ((Kd.R_nil _ _ _ _ (fun _ => True)))); (case aS => exact (below_size (by repeat (first | (with_reducible first | exact HB.out | apply below_alloc | apply pw_below_drewN | apply below_drew1) | exact HB.out)))); (case aL => have := LMc4.out; omega); intro v118 w5 ho hb hg hat; rw [← Ny117.out] at ho; have n0_ := Aside0.mk (hb); have n1_ := Aside0.mk (ho); clear HB; have HB := n0_; have HO119 := n1_; clear n0_ n1_; clear ho hb hg hat))
    go_loopg [] k (fun kq w' => ∃ (x8_1 : List Int), Aside0 (crossroadsref1_Unit.l0 kq l1 x8_1 = some (r1, r2)) ∧ Aside0 (kq ≤ k) ∧ Aside0 (Kd.R (Kd.int .i64) 3 w' w.heap.size (fun _ => True) v118 x8_1) ∧ Aside0 (Below w.heap.size w w'))
    case atStart => exact ⟨(y117), H', ⟨Nat.le_refl _⟩, ⟨by (with_reducible repeat (first | apply Kd.R_alloc | apply Kd.R_drewN | apply Kd.R_drew)); exact HO119.out⟩, ⟨by repeat (first | (with_reducible first | exact HB.out | apply below_alloc | apply pw_below_drewN | apply below_drew1) | exact HB.out)⟩⟩
    case round =>
      clear H'
      try clear c1
      try clear c2
      try clear p2
      try clear c4
      obtain ⟨x8_1, HA, HK1, HO_8, HB⟩ := hrel
      cases gk with
      | zero => exact absurd HA.out (by simp [crossroadsref1_Unit.l0])
      | succ k1 =>
        have H := HA.out
        clear HA
        simp only [crossroadsref1_Unit.l0] at H
        have H' := Aside0.mk H
        clear H
        go_wp2
        go_loopg [9, 10] k1 (fun kq v9 v10 w' => ∃ (x8_2 : List Int) (x9_2 : Bool) (x10_2 : Int), v9 = .bool x9_2 ∧ v10 = .int .i64 x10_2 ∧ Aside0 (crossroadsref1_Unit.l1 kq l1 x8_2 x9_2 x10_2 = some (r1, r2)) ∧ Aside0 (kq ≤ k1) ∧ Aside0 (Kd.R (Kd.int .i64) 3 w' w.heap.size (fun _ => True) v118 x8_2) ∧ Aside0 (Below w.heap.size w w'))
        case atStart => exact ⟨(x8_1), (false), (0), (by first | rfl | (simp; done) | (simp [*]; done)), (by first | rfl | (simp; done) | (simp [*]; done)), H', ⟨Nat.le_refl _⟩, ⟨by (with_reducible repeat (first | apply Kd.R_alloc | apply Kd.R_drewN | apply Kd.R_drew)); exact HO_8.out⟩, ⟨by repeat (first | (with_reducible first | exact HB.out | apply below_alloc | apply pw_below_drewN | apply below_drew1) | exact HB.out)⟩⟩
        case round =>
          clear H'
          try clear c1
          try clear c2
          try clear p2
          try clear c4
          try clear p2
          obtain ⟨x8_2, x9_2, x10_2, rfl, rfl, HA, HK2, HO_8, HB⟩ := hrel
          cases gk with
          | zero => exact absurd HA.out (by simp [crossroadsref1_Unit.l1])
          | succ k2 =>
            have H := HA.out
            clear HA
            simp only [crossroadsref1_Unit.l1] at H
            by_cases c6 : x10_2 < (l1.length : Int)
            · rw [if_pos c6] at H
              have c6b0 : decide (x10_2 < (l1.length : Int)) = true := decide_eq_true c6
              clear c6
              have H' := Aside0.mk H
              clear H
              go_wp2
              go_loopg [11, 12, 13] k2 (fun kq v11 v12 v13 w' => ∃ (x11_3 : Bool) (x12_3 : Int) (x13_3 : Int), v11 = .bool x11_3 ∧ v12 = .int .i64 x12_3 ∧ v13 = .int .i64 x13_3 ∧ Aside0 (crossroadsref1_Unit.l2 kq l1 x8_2 x9_2 x10_2 x11_3 x12_3 x13_3 = some (r1, r2)) ∧ Aside0 (kq ≤ k2) ∧ Aside0 (Kd.R (Kd.int .i64) 3 w' w.heap.size (fun _ => True) v118 x8_2) ∧ Aside0 (Below w.heap.size w w'))
              case atStart => exact ⟨(false), (0), (0), (by first | rfl | (simp; done) | (simp [*]; done)), (by first | rfl | (simp; done) | (simp [*]; done)), (by first | rfl | (simp; done) | (simp [*]; done)), H', ⟨Nat.le_refl _⟩, ⟨by (with_reducible repeat (first | apply Kd.R_alloc | apply Kd.R_drewN | apply Kd.R_drew)); exact HO_8.out⟩, ⟨by repeat (first | (with_reducible first | exact HB.out | apply below_alloc | apply pw_below_drewN | apply below_drew1) | exact HB.out)⟩⟩
              case round =>
                clear H'
                try clear c1
                try clear c2
                try clear p2
                try clear c4
                try clear c6
                try clear c6b0
                try clear p2
                obtain ⟨x11_3, x12_3, x13_3, rfl, rfl, rfl, HA, HK3, HO_8, HB⟩ := hrel
                cases gk with
                | zero => exact absurd HA.out (by simp [crossroadsref1_Unit.l2])
                | succ k3 =>
                  have H := HA.out
                  clear HA
                  simp only [crossroadsref1_Unit.l2] at H
                  by_cases c7 : 0 ≤ x10_2
                  · rw [if_pos c7] at H
                    have c7b0 : decide (0 ≤ x10_2) = true := decide_eq_true c7
                    clear c7
                    by_cases c8 : x10_2 < (l1.length : Int)
                    · rw [if_pos c8] at H
                      have c8b0 : decide (x10_2 < (l1.length : Int)) = true := decide_eq_true c8
                      clear c8
                      by_cases c9 : x13_3 < ((rd_L1 l1 x10_2).length : Int)
                      · rw [if_pos c9] at H
                        have c9b0 : decide (x13_3 < ((rd_L1 l1 x10_2).length : Int)) = true := decide_eq_true c9
                        clear c9
                        by_cases c10 : 0 ≤ x13_3
                        · rw [if_pos c10] at H
                          have c10b0 : decide (0 ≤ x13_3) = true := decide_eq_true c10
                          clear c10
                          obtain ⟨ji11, hji11⟩ : ∃ j_ : Int, (mx (rd (rd_L1 l1 x10_2) x13_3) (wrap64 (-(rd (rd_L1 l1 x10_2) x13_3)))) = j_ := ⟨_, rfl⟩
                          replace H : (if 0 ≤ (wrap64 ((ji11) - 1)) then (if (wrap64 ((ji11) - 1)) < (x8_2.length : Int) then (if (rd x8_2 (wrap64 ((ji11) - 1))) = 0 then (if x11_3 = true then (crossroadsref1_Unit.l2 k3 l1 x8_2 x9_2 x10_2 true (rd (rd_L1 l1 x10_2) x13_3) (wrap64 (x13_3 + 1))) else (crossroadsref1_Unit.l2 k3 l1 x8_2 x9_2 x10_2 false (rd (rd_L1 l1 x10_2) x13_3) (wrap64 (x13_3 + 1)))) else (if x11_3 = true then (crossroadsref1_Unit.l2 k3 l1 x8_2 x9_2 x10_2 true x12_3 (wrap64 (x13_3 + 1))) else (crossroadsref1_Unit.l2 k3 l1 x8_2 x9_2 x10_2 (((rd x8_2 (wrap64 ((ji11) - 1))) == 1) == (decide ((rd (rd_L1 l1 x10_2) x13_3) > 0))) x12_3 (wrap64 (x13_3 + 1))))) else (none)) else (none)) = some (r1, r2) := by first | (rw [hji11] at H; exact H) | (simp only [hji11] at H ⊢; exact H)
                          have hji11_ : (if (rd (rd_L1 l1 x10_2) x13_3) < (wrap64 (-(rd (rd_L1 l1 x10_2) x13_3))) then (wrap64 (-(rd (rd_L1 l1 x10_2) x13_3))) else (rd (rd_L1 l1 x10_2) x13_3)) = ji11 := hji11
                          obtain ⟨ji12, hji12⟩ : ∃ j_ : Int, (wrap64 ((ji11) - 1)) = j_ := ⟨_, rfl⟩
                          replace H : (if 0 ≤ (ji12) then (if (ji12) < (x8_2.length : Int) then (if (rd x8_2 (ji12)) = 0 then (if x11_3 = true then (crossroadsref1_Unit.l2 k3 l1 x8_2 x9_2 x10_2 true (rd (rd_L1 l1 x10_2) x13_3) (wrap64 (x13_3 + 1))) else (crossroadsref1_Unit.l2 k3 l1 x8_2 x9_2 x10_2 false (rd (rd_L1 l1 x10_2) x13_3) (wrap64 (x13_3 + 1)))) else (if x11_3 = true then (crossroadsref1_Unit.l2 k3 l1 x8_2 x9_2 x10_2 true x12_3 (wrap64 (x13_3 + 1))) else (crossroadsref1_Unit.l2 k3 l1 x8_2 x9_2 x10_2 (((rd x8_2 (ji12)) == 1) == (decide ((rd (rd_L1 l1 x10_2) x13_3) > 0))) x12_3 (wrap64 (x13_3 + 1))))) else (none)) else (none)) = some (r1, r2) := by first | (rw [hji12] at H; exact H) | (simp only [hji12] at H ⊢; exact H)
                          have hji12w : (IntKind.i64.wrap ((ji11) - 1)) = ji12 := (i64_w _).trans hji12
                          by_cases c13 : 0 ≤ (ji12)
                          · rw [if_pos c13] at H
                            have c13b0 : decide (0 ≤ (ji12)) = true := decide_eq_true c13
                            clear c13
                            by_cases c14 : (ji12) < (x8_2.length : Int)
                            · rw [if_pos c14] at H
                              have c14b0 : decide ((ji12) < (x8_2.length : Int)) = true := decide_eq_true c14
                              clear c14
                              by_cases c15 : (rd x8_2 (ji12)) = 0
                              · rw [if_pos c15] at H
                                have c15b0 : ((rd x8_2 (ji12)) == 0) = true := beq_iff_eq.mpr c15
                                have c15b1 : ((rd x8_2 (ji12)) != 0) = false := bne_eq_false_iff_eq.mpr c15
                                clear c15
                                by_cases c16 : x11_3 = true
                                · subst c16
                                  have H1 : (crossroadsref1_Unit.l2 k3 l1 x8_2 x9_2 x10_2 true (rd (rd_L1 l1 x10_2) x13_3) (wrap64 (x13_3 + 1))) = some (r1, r2) := by rw [if_pos rfl] at H; exact H
                                  clear H
                                  have H := H1
                                  clear H1
                                  have H' := Aside0.mk H
                                  clear H
                                  have p120 : 0 ≤ (x10_2 : Int) := of_decide_eq_true (by first | (with_reducible assumption) | assumption)
                                  have q120 : x10_2 < (l1.length : Int) := of_decide_eq_true (by first | (with_reducible assumption) | assumption)
                                  obtain ⟨ad120, A120_0, c120_0, e120, hx120_0, hl120_0, hi120_0⟩ := at_L1 HR1.out x10_2 p120 q120
                                  cases e120
                                  replace hx120_0 := (HB.out.cell (World.block_lt_of_cell? w _ hx120_0)).trans hx120_0
                                  have HR120_0 := Aside0.mk hi120_0
                                  have HC120_0 := Aside0.mk hl120_0
                                  clear hi120_0 hl120_0
                                  replace p120 := eq_true p120
                                  replace q120 := eq_true q120
                                  have p121 : 0 ≤ (x10_2 : Int) := of_decide_eq_true (by first | (with_reducible assumption) | assumption)
                                  have q121 : x10_2 < (l1.length : Int) := of_decide_eq_true (by first | (with_reducible assumption) | assumption)
                                  obtain ⟨ad121, A121_0, c121_0, e121, hx121_0, hl121_0, hi121_0⟩ := at_L1 HR1.out x10_2 p121 q121
                                  obtain rfl : ad120 = ad121 := (by injection e121)
                                  replace hx121_0 := (HB.out.cell (World.block_lt_of_cell? w _ hx121_0)).trans hx121_0
                                  have HR121_0 := Aside0.mk hi121_0
                                  have HC121_0 := Aside0.mk hl121_0
                                  clear hi121_0 hl121_0
                                  replace p121 := eq_true p121
                                  replace q121 := eq_true q121
                                  have ea_ := Option.some.inj (hx120_0.symm.trans hx121_0)
                                  injection ea_ with ea_ en_ ec_
                                  subst ea_
                                  subst ec_
                                  clear en_
                                  have p122 : 0 ≤ (x13_3 : Int) := of_decide_eq_true (by first | (with_reducible assumption) | assumption)
                                  have q122 : x13_3 < ((rd_L1 l1 x10_2).length : Int) := of_decide_eq_true (by first | (with_reducible assumption) | assumption)
                                  obtain ⟨ad122, e122, hx122_0⟩ := Kd.at_int HR121_0.out x13_3 p122 q122
                                  cases e122
                                  replace hx122_0 := (HB.out.cell (World.block_lt_of_cell? w _ hx122_0)).trans hx122_0
                                  replace p122 := eq_true p122
                                  replace q122 := eq_true q122
                                  obtain ⟨Ao17, co17, eo17⟩ := Kd.R_slice HO_8.out
                                  subst eo17
                                  have p123 : 0 ≤ ((ji12) : Int) := of_decide_eq_true (by first | (with_reducible assumption) | assumption)
                                  have q123 : (ji12) < (x8_2.length : Int) := of_decide_eq_true (by first | (with_reducible assumption) | assumption)
                                  (try (obtain ⟨Aoo123, coo123, eoo123⟩ := Kd.R_slice HO_8.out; subst eoo123))
                                  obtain ⟨ad123, e123, hx123_0⟩ := Kd.at_int (Kd.R_reads' HO_8.out).2.2 (ji12) p123 q123
                                  cases e123
                                  replace p123 := eq_true p123
                                  replace q123 := eq_true q123
                                  go_wp2
                                  go_roundg k3
                                  case measure => have := HK1.out; have := HK2.out; have := HK3.out; omega
                                  case rel => exact ⟨(true), (rd (rd_L1 l1 x10_2) x13_3), (wrap64 (x13_3 + 1)), (by first | rfl | (simp; done) | (simp [*]; done)), (by first | rfl | (simp; done) | (simp [*]; done)), (by first | rfl | (simp; done) | (simp [*]; done)), H', ⟨by have := HK1.out; have := HK2.out; have := HK3.out; omega⟩, ⟨by (with_reducible repeat (first | apply Kd.R_alloc | apply Kd.R_drewN | apply Kd.R_drew)); exact HO_8.out⟩, ⟨by repeat (first | (with_reducible first | exact HB.out | apply below_alloc | apply pw_below_drewN | apply below_drew1) | exact HB.out)⟩⟩
                                · replace c16 := Bool.eq_false_iff.mpr c16
                                  subst c16
                                  have H1 : (crossroadsref1_Unit.l2 k3 l1 x8_2 x9_2 x10_2 false (rd (rd_L1 l1 x10_2) x13_3) (wrap64 (x13_3 + 1))) = some (r1, r2) := by rw [if_neg (show ¬ (false = true) by decide)] at H; exact H
                                  clear H
                                  have H := H1
                                  clear H1
                                  have H' := Aside0.mk H
                                  clear H
                                  have p120 : 0 ≤ (x10_2 : Int) := of_decide_eq_true (by first | (with_reducible assumption) | assumption)
                                  have q120 : x10_2 < (l1.length : Int) := of_decide_eq_true (by first | (with_reducible assumption) | assumption)
                                  obtain ⟨ad120, A120_0, c120_0, e120, hx120_0, hl120_0, hi120_0⟩ := at_L1 HR1.out x10_2 p120 q120
                                  cases e120
                                  replace hx120_0 := (HB.out.cell (World.block_lt_of_cell? w _ hx120_0)).trans hx120_0
                                  have HR120_0 := Aside0.mk hi120_0
                                  have HC120_0 := Aside0.mk hl120_0
                                  clear hi120_0 hl120_0
                                  replace p120 := eq_true p120
                                  replace q120 := eq_true q120
                                  have p121 : 0 ≤ (x10_2 : Int) := of_decide_eq_true (by first | (with_reducible assumption) | assumption)
                                  have q121 : x10_2 < (l1.length : Int) := of_decide_eq_true (by first | (with_reducible assumption) | assumption)
                                  obtain ⟨ad121, A121_0, c121_0, e121, hx121_0, hl121_0, hi121_0⟩ := at_L1 HR1.out x10_2 p121 q121
                                  obtain rfl : ad120 = ad121 := (by injection e121)
                                  replace hx121_0 := (HB.out.cell (World.block_lt_of_cell? w _ hx121_0)).trans hx121_0
                                  have HR121_0 := Aside0.mk hi121_0
                                  have HC121_0 := Aside0.mk hl121_0
                                  clear hi121_0 hl121_0
                                  replace p121 := eq_true p121
                                  replace q121 := eq_true q121
                                  have ea_ := Option.some.inj (hx120_0.symm.trans hx121_0)
                                  injection ea_ with ea_ en_ ec_
                                  subst ea_
                                  subst ec_
                                  clear en_
                                  have p122 : 0 ≤ (x13_3 : Int) := of_decide_eq_true (by first | (with_reducible assumption) | assumption)
                                  have q122 : x13_3 < ((rd_L1 l1 x10_2).length : Int) := of_decide_eq_true (by first | (with_reducible assumption) | assumption)
                                  obtain ⟨ad122, e122, hx122_0⟩ := Kd.at_int HR121_0.out x13_3 p122 q122
                                  cases e122
                                  replace hx122_0 := (HB.out.cell (World.block_lt_of_cell? w _ hx122_0)).trans hx122_0
                                  replace p122 := eq_true p122
                                  replace q122 := eq_true q122
                                  obtain ⟨Ao18, co18, eo18⟩ := Kd.R_slice HO_8.out
                                  subst eo18
                                  have p123 : 0 ≤ ((ji12) : Int) := of_decide_eq_true (by first | (with_reducible assumption) | assumption)
                                  have q123 : (ji12) < (x8_2.length : Int) := of_decide_eq_true (by first | (with_reducible assumption) | assumption)
                                  (try (obtain ⟨Aoo123, coo123, eoo123⟩ := Kd.R_slice HO_8.out; subst eoo123))
                                  obtain ⟨ad123, e123, hx123_0⟩ := Kd.at_int (Kd.R_reads' HO_8.out).2.2 (ji12) p123 q123
                                  cases e123
                                  replace p123 := eq_true p123
                                  replace q123 := eq_true q123
                                  go_wp2
                                  go_roundg k3
                                  case measure => have := HK1.out; have := HK2.out; have := HK3.out; omega
                                  case rel => exact ⟨(false), (rd (rd_L1 l1 x10_2) x13_3), (wrap64 (x13_3 + 1)), (by first | rfl | (simp; done) | (simp [*]; done)), (by first | rfl | (simp; done) | (simp [*]; done)), (by first | rfl | (simp; done) | (simp [*]; done)), H', ⟨by have := HK1.out; have := HK2.out; have := HK3.out; omega⟩, ⟨by (with_reducible repeat (first | apply Kd.R_alloc | apply Kd.R_drewN | apply Kd.R_drew)); exact HO_8.out⟩, ⟨by repeat (first | (with_reducible first | exact HB.out | apply below_alloc | apply pw_below_drewN | apply below_drew1) | exact HB.out)⟩⟩
                              · rw [if_neg c15] at H
                                have c15b0 : ((rd x8_2 (ji12)) == 0) = false := beq_eq_false_iff_ne.mpr c15
                                have c15b1 : ((rd x8_2 (ji12)) != 0) = true := bne_iff_ne.mpr c15
                                by_cases c19 : x11_3 = true
                                · subst c19
                                  have H1 : (crossroadsref1_Unit.l2 k3 l1 x8_2 x9_2 x10_2 true x12_3 (wrap64 (x13_3 + 1))) = some (r1, r2) := by rw [if_pos rfl] at H; exact H
                                  clear H
                                  have H := H1
                                  clear H1
                                  have H' := Aside0.mk H
                                  clear H
                                  have p120 : 0 ≤ (x10_2 : Int) := of_decide_eq_true (by first | (with_reducible assumption) | assumption)
                                  have q120 : x10_2 < (l1.length : Int) := of_decide_eq_true (by first | (with_reducible assumption) | assumption)
                                  obtain ⟨ad120, A120_0, c120_0, e120, hx120_0, hl120_0, hi120_0⟩ := at_L1 HR1.out x10_2 p120 q120
                                  cases e120
                                  replace hx120_0 := (HB.out.cell (World.block_lt_of_cell? w _ hx120_0)).trans hx120_0
                                  have HR120_0 := Aside0.mk hi120_0
                                  have HC120_0 := Aside0.mk hl120_0
                                  clear hi120_0 hl120_0
                                  replace p120 := eq_true p120
                                  replace q120 := eq_true q120
                                  have p121 : 0 ≤ (x10_2 : Int) := of_decide_eq_true (by first | (with_reducible assumption) | assumption)
                                  have q121 : x10_2 < (l1.length : Int) := of_decide_eq_true (by first | (with_reducible assumption) | assumption)
                                  obtain ⟨ad121, A121_0, c121_0, e121, hx121_0, hl121_0, hi121_0⟩ := at_L1 HR1.out x10_2 p121 q121
                                  obtain rfl : ad120 = ad121 := (by injection e121)
                                  replace hx121_0 := (HB.out.cell (World.block_lt_of_cell? w _ hx121_0)).trans hx121_0
                                  have HR121_0 := Aside0.mk hi121_0
                                  have HC121_0 := Aside0.mk hl121_0
                                  clear hi121_0 hl121_0
                                  replace p121 := eq_true p121
                                  replace q121 := eq_true q121
                                  have ea_ := Option.some.inj (hx120_0.symm.trans hx121_0)
                                  injection ea_ with ea_ en_ ec_
                                  subst ea_
                                  subst ec_
                                  clear en_
                                  have p122 : 0 ≤ (x13_3 : Int) := of_decide_eq_true (by first | (with_reducible assumption) | assumption)
                                  have q122 : x13_3 < ((rd_L1 l1 x10_2).length : Int) := of_decide_eq_true (by first | (with_reducible assumption) | assumption)
                                  obtain ⟨ad122, e122, hx122_0⟩ := Kd.at_int HR121_0.out x13_3 p122 q122
                                  cases e122
                                  replace hx122_0 := (HB.out.cell (World.block_lt_of_cell? w _ hx122_0)).trans hx122_0
                                  replace p122 := eq_true p122
                                  replace q122 := eq_true q122
                                  obtain ⟨Ao20, co20, eo20⟩ := Kd.R_slice HO_8.out
                                  subst eo20
                                  have p123 : 0 ≤ ((ji12) : Int) := of_decide_eq_true (by first | (with_reducible assumption) | assumption)
                                  have q123 : (ji12) < (x8_2.length : Int) := of_decide_eq_true (by first | (with_reducible assumption) | assumption)
                                  (try (obtain ⟨Aoo123, coo123, eoo123⟩ := Kd.R_slice HO_8.out; subst eoo123))
                                  obtain ⟨ad123, e123, hx123_0⟩ := Kd.at_int (Kd.R_reads' HO_8.out).2.2 (ji12) p123 q123
                                  cases e123
                                  replace p123 := eq_true p123
                                  replace q123 := eq_true q123
                                  go_wp2
                                  go_roundg k3
                                  case measure => have := HK1.out; have := HK2.out; have := HK3.out; omega
                                  case rel => exact ⟨(true), (x12_3), (wrap64 (x13_3 + 1)), (by first | rfl | (simp; done) | (simp [*]; done)), (by first | rfl | (simp; done) | (simp [*]; done)), (by first | rfl | (simp; done) | (simp [*]; done)), H', ⟨by have := HK1.out; have := HK2.out; have := HK3.out; omega⟩, ⟨by (with_reducible repeat (first | apply Kd.R_alloc | apply Kd.R_drewN | apply Kd.R_drew)); exact HO_8.out⟩, ⟨by repeat (first | (with_reducible first | exact HB.out | apply below_alloc | apply pw_below_drewN | apply below_drew1) | exact HB.out)⟩⟩
                                · replace c19 := Bool.eq_false_iff.mpr c19
                                  subst c19
                                  have H1 : (crossroadsref1_Unit.l2 k3 l1 x8_2 x9_2 x10_2 (((rd x8_2 (ji12)) == 1) == (decide ((rd (rd_L1 l1 x10_2) x13_3) > 0))) x12_3 (wrap64 (x13_3 + 1))) = some (r1, r2) := by rw [if_neg (show ¬ (false = true) by decide)] at H; exact H
                                  clear H
                                  have H := H1
                                  clear H1
                                  have H' := Aside0.mk H
                                  clear H
                                  have p120 : 0 ≤ (x10_2 : Int) := of_decide_eq_true (by first | (with_reducible assumption) | assumption)
                                  have q120 : x10_2 < (l1.length : Int) := of_decide_eq_true (by first | (with_reducible assumption) | assumption)
                                  obtain ⟨ad120, A120_0, c120_0, e120, hx120_0, hl120_0, hi120_0⟩ := at_L1 HR1.out x10_2 p120 q120
                                  cases e120
                                  replace hx120_0 := (HB.out.cell (World.block_lt_of_cell? w _ hx120_0)).trans hx120_0
                                  have HR120_0 := Aside0.mk hi120_0
                                  have HC120_0 := Aside0.mk hl120_0
                                  clear hi120_0 hl120_0
                                  replace p120 := eq_true p120
                                  replace q120 := eq_true q120
                                  have p121 : 0 ≤ (x10_2 : Int) := of_decide_eq_true (by first | (with_reducible assumption) | assumption)
                                  have q121 : x10_2 < (l1.length : Int) := of_decide_eq_true (by first | (with_reducible assumption) | assumption)
                                  obtain ⟨ad121, A121_0, c121_0, e121, hx121_0, hl121_0, hi121_0⟩ := at_L1 HR1.out x10_2 p121 q121
                                  obtain rfl : ad120 = ad121 := (by injection e121)
                                  replace hx121_0 := (HB.out.cell (World.block_lt_of_cell? w _ hx121_0)).trans hx121_0
                                  have HR121_0 := Aside0.mk hi121_0
                                  have HC121_0 := Aside0.mk hl121_0
                                  clear hi121_0 hl121_0
                                  replace p121 := eq_true p121
                                  replace q121 := eq_true q121
                                  have ea_ := Option.some.inj (hx120_0.symm.trans hx121_0)
                                  injection ea_ with ea_ en_ ec_
                                  subst ea_
                                  subst ec_
                                  clear en_
                                  have p122 : 0 ≤ (x13_3 : Int) := of_decide_eq_true (by first | (with_reducible assumption) | assumption)
                                  have q122 : x13_3 < ((rd_L1 l1 x10_2).length : Int) := of_decide_eq_true (by first | (with_reducible assumption) | assumption)
                                  obtain ⟨ad122, e122, hx122_0⟩ := Kd.at_int HR121_0.out x13_3 p122 q122
                                  cases e122
                                  replace hx122_0 := (HB.out.cell (World.block_lt_of_cell? w _ hx122_0)).trans hx122_0
                                  replace p122 := eq_true p122
                                  replace q122 := eq_true q122
                                  obtain ⟨Ao21, co21, eo21⟩ := Kd.R_slice HO_8.out
                                  subst eo21
                                  have p123 : 0 ≤ ((ji12) : Int) := of_decide_eq_true (by first | (with_reducible assumption) | assumption)
                                  have q123 : (ji12) < (x8_2.length : Int) := of_decide_eq_true (by first | (with_reducible assumption) | assumption)
                                  (try (obtain ⟨Aoo123, coo123, eoo123⟩ := Kd.R_slice HO_8.out; subst eoo123))
                                  obtain ⟨ad123, e123, hx123_0⟩ := Kd.at_int (Kd.R_reads' HO_8.out).2.2 (ji12) p123 q123
                                  cases e123
                                  replace p123 := eq_true p123
                                  replace q123 := eq_true q123
                                  go_wp2
                                  go_roundg k3
                                  case measure => have := HK1.out; have := HK2.out; have := HK3.out; omega
                                  case rel => exact ⟨((((rd x8_2 (ji12)) == 1) == (decide ((rd (rd_L1 l1 x10_2) x13_3) > 0)))), (x12_3), (wrap64 (x13_3 + 1)), (by first | rfl | (simp; done) | (simp only [← hji12] <;> (first | rfl | simp)) | (simp [*]; done)), (by first | rfl | (simp; done) | (simp [*]; done)), (by first | rfl | (simp; done) | (simp [*]; done)), H', ⟨by have := HK1.out; have := HK2.out; have := HK3.out; omega⟩, ⟨by (with_reducible repeat (first | apply Kd.R_alloc | apply Kd.R_drewN | apply Kd.R_drew)); exact HO_8.out⟩, ⟨by repeat (first | (with_reducible first | exact HB.out | apply below_alloc | apply pw_below_drewN | apply below_drew1) | exact HB.out)⟩⟩
                            · rw [if_neg c14] at H
                              exact absurd H (by simp)
                          · rw [if_neg c13] at H
                            exact absurd H (by simp)
                        · rw [if_neg c10] at H
                          exact absurd H (by simp)
                      · rw [if_neg c9] at H
                        have c9b0 : decide (x13_3 < ((rd_L1 l1 x10_2).length : Int)) = false := decide_eq_false c9
                        clear c9
                        have HC22 := Aside0.mk H
                        clear H
                        have p120 : 0 ≤ (x10_2 : Int) := of_decide_eq_true (by first | (with_reducible assumption) | assumption)
                        have q120 : x10_2 < (l1.length : Int) := of_decide_eq_true (by first | (with_reducible assumption) | assumption)
                        obtain ⟨ad120, A120_0, c120_0, e120, hx120_0, hl120_0, hi120_0⟩ := at_L1 HR1.out x10_2 p120 q120
                        cases e120
                        replace hx120_0 := (HB.out.cell (World.block_lt_of_cell? w _ hx120_0)).trans hx120_0
                        have HR120_0 := Aside0.mk hi120_0
                        have HC120_0 := Aside0.mk hl120_0
                        clear hi120_0 hl120_0
                        replace p120 := eq_true p120
                        replace q120 := eq_true q120
                        go_upto_region 15 with (fail)
                        go_cut [71] (fun v71 wc => ∃ (kq : Nat) (x71_21 : Bool), v71 = .bool x71_21 ∧ Aside0 (crossroadsref1_Unit.j3 kq l1 x8_2 x9_2 x10_2 x12_3 x71_21 = some (r1, r2)) ∧ Aside0 (kq ≤ k3) ∧ Aside0 (Kd.R (Kd.int .i64) 3 wc w.heap.size (fun _ => True) v118 x8_2) ∧ Aside0 (Below w.heap.size w wc))
                        case first =>
                          have H := HC22.out
                          clear HC22
                          by_cases c23 : x11_3 = true
                          · subst c23
                            have H1 : (crossroadsref1_Unit.j3 k3 l1 x8_2 x9_2 x10_2 x12_3 true) = some (r1, r2) := by rw [if_pos rfl] at H; exact H
                            clear H
                            have H := H1
                            clear H1
                            have H' := Aside0.mk H
                            clear H
                            go_wp2
                            go_meet
                            case rel => exact ⟨_, (true), (by first | rfl | (simp; done) | (simp [*]; done)), H', ⟨by have := HK1.out; have := HK2.out; have := HK3.out; first | omega | exact Nat.le_refl _⟩, ⟨by (with_reducible repeat (first | apply Kd.R_alloc | apply Kd.R_drewN | apply Kd.R_drew)); exact HO_8.out⟩, ⟨by repeat (first | (with_reducible first | exact HB.out | apply below_alloc | apply pw_below_drewN | apply below_drew1) | exact HB.out)⟩⟩
                          · replace c23 := Bool.eq_false_iff.mpr c23
                            subst c23
                            have H1 : ((crossroadsref1_differ.f k3 (rd_L1 l1 x10_2) x8_2).bind fun t125 => (crossroadsref1_Unit.j3 k3 l1 x8_2 x9_2 x10_2 x12_3 t125)) = some (r1, r2) := by rw [if_neg (show ¬ (false = true) by decide)] at H; exact H
                            clear H
                            have H := H1
                            clear H1
                            replace H := Option.bind_eq_some_iff.mp H
                            obtain ⟨t125, A240, H⟩ := H
                            replace H : (crossroadsref1_Unit.j3 k3 l1 x8_2 x9_2 x10_2 x12_3 t125) = some (r1, r2) := H
                            have A24 := Aside0.mk A240
                            clear A240
                            have H' := Aside0.mk H
                            clear H
                            have p124 : 0 ≤ (x10_2 : Int) := of_decide_eq_true (by first | (with_reducible assumption) | assumption)
                            have q124 : x10_2 < (l1.length : Int) := of_decide_eq_true (by first | (with_reducible assumption) | assumption)
                            obtain ⟨ad124, A124_0, c124_0, e124, hx124_0, hl124_0, hi124_0⟩ := at_L1 HR1.out x10_2 p124 q124
                            obtain rfl : ad120 = ad124 := (by injection e124)
                            replace hx124_0 := (HB.out.cell (World.block_lt_of_cell? w _ hx124_0)).trans hx124_0
                            have HR124_0 := Aside0.mk hi124_0
                            have HC124_0 := Aside0.mk hl124_0
                            clear hi124_0 hl124_0
                            replace p124 := eq_true p124
                            replace q124 := eq_true q124
                            (try clear hx120_0)
                            (try clear hx120_0)
                            (try clear hx120_0)
                            (try clear hx120_0)
                            (try clear hx120_0)
                            obtain ⟨Ao25, co25, eo25⟩ := Kd.R_slice HO_8.out
                            subst eo25
                            go_wp2_with (first | (go_at_call 23; (with_reducible refine (crossroadsref1_differ.calls k3 _ _ (rd_L1 l1 x10_2) _ _ x8_2 t125 _ ?side1 ?side2 ?side3 ?side4 A24.out).mono ?_); (case side1 => repeat (first | exact (Kd.C_below HR124_0.out HB.out) | (with_reducible refine Kd.C_alloc ?_ _) | (with_reducible refine Kd.C_drewN ?_ _) | (with_reducible refine Kd.C_drew ?_))); (case side2 => exact HC124_0.out); (case side3 => repeat (first | exact (Kd.R_reads' HO_8.out).2.2 | (with_reducible refine Kd.C_alloc ?_ _) | (with_reducible refine Kd.C_drewN ?_ _) | (with_reducible refine Kd.C_drew ?_))); (case side4 => exact (Kd.R_reads' HO_8.out).2.1); rintro e w26 ⟨rfl, hb⟩; have n0_ := Aside0.mk (Kd.R_below (by (with_reducible repeat (first | apply Kd.R_alloc | apply Kd.R_drewN | apply Kd.R_drew)); exact HO_8.out) hb); have n1_ := Aside0.mk (below_step (by repeat (first | (with_reducible first | exact HB.out | apply below_alloc | apply pw_below_drewN | apply below_drew1) | exact HB.out)) hb); clear HO_8; clear HB; have HO_8 := n0_; have HB := n1_; clear n0_ n1_; (try clear hb); (try clear hb2); (try clear hk); (try clear hi)))
                            go_meet
                            case rel => exact ⟨_, (t125), (by first | rfl | (simp; done) | (simp [*]; done)), H', ⟨by have := HK1.out; have := HK2.out; have := HK3.out; first | omega | exact Nat.le_refl _⟩, ⟨by (with_reducible repeat (first | apply Kd.R_alloc | apply Kd.R_drewN | apply Kd.R_drew)); exact HO_8.out⟩, ⟨by repeat (first | (with_reducible first | exact HB.out | apply below_alloc | apply pw_below_drewN | apply below_drew1) | exact HB.out)⟩⟩
                        case rest =>
                          clear HC22
                          try clear c1
                          try clear p1
                          try clear q1
                          try clear hx1
                          try clear c2
                          try clear p2
                          try clear c4
                          try clear c6
                          try clear c6b0
                          try clear p6
                          try clear c7
                          try clear c7b0
                          try clear c8
                          try clear c8b0
                          try clear c9
                          try clear c9b0
                          try clear c10
                          try clear c10b0
                          try clear c12
                          try clear p12
                          try clear q12
                          try clear hx12
                          try clear c13
                          try clear c13b0
                          try clear c14
                          try clear c14b0
                          try clear c15
                          try clear c15b0
                          try clear c15b1
                          try clear c16
                          try clear c17
                          try clear c19
                          try clear c23
                          try clear hx120_0
                          try clear hx121_0
                          try clear hx122_0
                          try clear hx123_0
                          try clear hx124_0
                          try clear p120
                          try clear p121
                          try clear p122
                          try clear p123
                          try clear p124
                          try clear p2
                          try clear q120
                          try clear q121
                          try clear q122
                          try clear q123
                          try clear q124
                          obtain ⟨kq, x71_21, rfl, HA, HJ21, HO_8, HB⟩ := hcut
                          cases kq with
                          | zero => exact absurd HA.out (by simp [crossroadsref1_Unit.j3])
                          | succ kj21 =>
                            have H := HA.out
                            clear HA
                            simp only [crossroadsref1_Unit.j3] at H
                            by_cases c27 : x71_21 = true
                            · subst c27
                              have H1 : (crossroadsref1_Unit.l1 kj21 l1 x8_2 x9_2 (wrap64 (x10_2 + 1))) = some (r1, r2) := by rw [if_pos rfl] at H; exact H
                              clear H
                              have H := H1
                              clear H1
                              have H' := Aside0.mk H
                              clear H
                              go_wp2
                              go_roundg kj21
                              case measure => have := HK1.out; have := HK2.out; have := HK3.out; have := HJ21.out; omega
                              case rel => exact ⟨(x8_2), (x9_2), (wrap64 (x10_2 + 1)), (by first | rfl | (simp; done) | (simp [*]; done)), (by first | rfl | (simp; done) | (simp [*]; done)), H', ⟨by have := HK1.out; have := HK2.out; have := HK3.out; have := HJ21.out; omega⟩, ⟨by (with_reducible repeat (first | apply Kd.R_alloc | apply Kd.R_drewN | apply Kd.R_drew)); exact HO_8.out⟩, ⟨by repeat (first | (with_reducible first | exact HB.out | apply below_alloc | apply pw_below_drewN | apply below_drew1) | exact HB.out)⟩⟩
                            · replace c27 := Bool.eq_false_iff.mpr c27
                              subst c27
                              have H1 : (if x12_3 = 0 then (some (([] : List Int), true)) else (if 0 ≤ (wrap64 ((mx x12_3 (wrap64 (-x12_3))) - 1)) then (if (wrap64 ((mx x12_3 (wrap64 (-x12_3))) - 1)) < (x8_2.length : Int) then ((some (x8_2.set ((wrap64 ((mx x12_3 (wrap64 (-x12_3))) - 1)) : Int).toNat 1 : List Int)).bind fun y126 => (if x12_3 < 0 then (if 0 ≤ (wrap64 ((wrap64 (-x12_3)) - 1)) then (if (wrap64 ((wrap64 (-x12_3)) - 1)) < (x8_2.length : Int) then (crossroadsref1_Unit.l1 kj21 l1 (y126.set ((wrap64 ((wrap64 (-x12_3)) - 1)) : Int).toNat (-1)) true (wrap64 (x10_2 + 1))) else (none)) else (none)) else (crossroadsref1_Unit.l1 kj21 l1 y126 true (wrap64 (x10_2 + 1))))) else (none)) else (none))) = some (r1, r2) := by rw [if_neg (show ¬ (false = true) by decide)] at H; exact H
                              clear H
                              have H := H1
                              clear H1
                              by_cases c28 : x12_3 = 0
                              · rw [if_pos c28] at H
                                have c28b0 : (x12_3 == 0) = true := beq_iff_eq.mpr c28
                                have c28b1 : (x12_3 != 0) = false := bne_eq_false_iff_eq.mpr c28
                                clear c28
                                simp only [Option.some.injEq, Prod.mk.injEq] at H
                                obtain ⟨rfl, rfl⟩ := H
                                go_wp2
                                go_ret2
                                exact ⟨_, by first | rfl | (simp [errW_none, errW_some] <;> rfl) | (simp [*, errW_none, errW_some] <;> rfl), by first | exact Kd.R_nil _ _ _ _ _ | exact Kd.N_nil _ _ _ _ _ | exact Kd.V_nil _ _ _ _ _ | exact Kd.Q_nil _ _ _ _ _ | exact Kd.S_nil _ _ _ _ _, by repeat (first | (with_reducible first | exact HB.out | apply below_alloc | apply pw_below_drewN | apply below_drew1) | exact HB.out)⟩
                              · rw [if_neg c28] at H
                                have c28b0 : (x12_3 == 0) = false := beq_eq_false_iff_ne.mpr c28
                                have c28b1 : (x12_3 != 0) = true := bne_iff_ne.mpr c28
                                obtain ⟨ji29, hji29⟩ : ∃ j_ : Int, (mx x12_3 (wrap64 (-x12_3))) = j_ := ⟨_, rfl⟩
                                replace H : (if 0 ≤ (wrap64 ((ji29) - 1)) then (if (wrap64 ((ji29) - 1)) < (x8_2.length : Int) then ((some (x8_2.set ((wrap64 ((ji29) - 1)) : Int).toNat 1 : List Int)).bind fun y126 => (if x12_3 < 0 then (if 0 ≤ (wrap64 ((wrap64 (-x12_3)) - 1)) then (if (wrap64 ((wrap64 (-x12_3)) - 1)) < (x8_2.length : Int) then (crossroadsref1_Unit.l1 kj21 l1 (y126.set ((wrap64 ((wrap64 (-x12_3)) - 1)) : Int).toNat (-1)) true (wrap64 (x10_2 + 1))) else (none)) else (none)) else (crossroadsref1_Unit.l1 kj21 l1 y126 true (wrap64 (x10_2 + 1))))) else (none)) else (none)) = some (r1, r2) := by first | (rw [hji29] at H; exact H) | (simp only [hji29] at H ⊢; exact H)
                                have hji29_ : (if x12_3 < (wrap64 (-x12_3)) then (wrap64 (-x12_3)) else x12_3) = ji29 := hji29
                                obtain ⟨ji30, hji30⟩ : ∃ j_ : Int, (wrap64 ((ji29) - 1)) = j_ := ⟨_, rfl⟩
                                replace H : (if 0 ≤ (ji30) then (if (ji30) < (x8_2.length : Int) then ((some (x8_2.set ((ji30) : Int).toNat 1 : List Int)).bind fun y126 => (if x12_3 < 0 then (if 0 ≤ (wrap64 ((wrap64 (-x12_3)) - 1)) then (if (wrap64 ((wrap64 (-x12_3)) - 1)) < (x8_2.length : Int) then (crossroadsref1_Unit.l1 kj21 l1 (y126.set ((wrap64 ((wrap64 (-x12_3)) - 1)) : Int).toNat (-1)) true (wrap64 (x10_2 + 1))) else (none)) else (none)) else (crossroadsref1_Unit.l1 kj21 l1 y126 true (wrap64 (x10_2 + 1))))) else (none)) else (none)) = some (r1, r2) := by first | (rw [hji30] at H; exact H) | (simp only [hji30] at H ⊢; exact H)
                                have hji30w : (IntKind.i64.wrap ((ji29) - 1)) = ji30 := (i64_w _).trans hji30
                                by_cases c31 : 0 ≤ (ji30)
                                · rw [if_pos c31] at H
                                  have c31b0 : decide (0 ≤ (ji30)) = true := decide_eq_true c31
                                  clear c31
                                  by_cases c32 : (ji30) < (x8_2.length : Int)
                                  · rw [if_pos c32] at H
                                    have c32b0 : decide ((ji30) < (x8_2.length : Int)) = true := decide_eq_true c32
                                    clear c32
                                    obtain ⟨y126, hy126⟩ : ∃ y_ : List Int, y_ = (x8_2.set ((ji30) : Int).toNat 1) := ⟨_, rfl⟩
                                    replace H : (if x12_3 < 0 then (if 0 ≤ (wrap64 ((wrap64 (-x12_3)) - 1)) then (if (wrap64 ((wrap64 (-x12_3)) - 1)) < (x8_2.length : Int) then (crossroadsref1_Unit.l1 kj21 l1 (y126.set ((wrap64 ((wrap64 (-x12_3)) - 1)) : Int).toNat (-1)) true (wrap64 (x10_2 + 1))) else (none)) else (none)) else (crossroadsref1_Unit.l1 kj21 l1 y126 true (wrap64 (x10_2 + 1)))) = some (r1, r2) := by first | (rw [hy126]; with_reducible exact H) | (have H2_ := (Option.bind_some _ _).symm.trans H; rw [hy126]; with_reducible exact H2_) | (have H2_ := (Option.bind_some _ _).symm.trans H; with_reducible exact H2_) | with_reducible exact H | (rw [hy126]; exact H) | exact H
                                    have Ny126 := Aside0.mk hy126
                                    clear hy126
                                    by_cases c34 : x12_3 < 0
                                    · rw [if_pos c34] at H
                                      have c34b0 : decide (x12_3 < 0) = true := decide_eq_true c34
                                      clear c34
                                      obtain ⟨ji35, hji35⟩ : ∃ j_ : Int, (wrap64 ((wrap64 (-x12_3)) - 1)) = j_ := ⟨_, rfl⟩
                                      replace H : (if 0 ≤ (ji35) then (if (ji35) < (x8_2.length : Int) then (crossroadsref1_Unit.l1 kj21 l1 (y126.set ((ji35) : Int).toNat (-1)) true (wrap64 (x10_2 + 1))) else (none)) else (none)) = some (r1, r2) := by first | (rw [hji35] at H; exact H) | (simp only [hji35] at H ⊢; exact H)
                                      have hji35w : (IntKind.i64.wrap ((wrap64 (-x12_3)) - 1)) = ji35 := (i64_w _).trans hji35
                                      by_cases c36 : 0 ≤ (ji35)
                                      · rw [if_pos c36] at H
                                        have c36b0 : decide (0 ≤ (ji35)) = true := decide_eq_true c36
                                        clear c36
                                        by_cases c37 : (ji35) < (x8_2.length : Int)
                                        · rw [if_pos c37] at H
                                          have c37b0 : decide ((ji35) < (x8_2.length : Int)) = true := decide_eq_true c37
                                          clear c37
                                          obtain ⟨y127, hy127⟩ : ∃ y_ : List Int, y_ = (y126.set ((ji35) : Int).toNat (-1)) := ⟨_, rfl⟩
                                          replace H : (crossroadsref1_Unit.l1 kj21 l1 y127 true (wrap64 (x10_2 + 1))) = some (r1, r2) := by first | (rw [hy127]; with_reducible exact H) | (have H2_ := (Option.bind_some _ _).symm.trans H; rw [hy127]; with_reducible exact H2_) | (have H2_ := (Option.bind_some _ _).symm.trans H; with_reducible exact H2_) | with_reducible exact H | (rw [hy127]; exact H) | exact H
                                          have Ny127 := Aside0.mk hy127
                                          clear hy127
                                          have H' := Aside0.mk H
                                          clear H
                                          have p33 : 0 ≤ ((ji30) : Int) := of_decide_eq_true (by first | (with_reducible assumption) | assumption)
                                          have q33 : ((ji30) : Int) < ((x8_2.length : Int) : Int) := of_decide_eq_true (by first | (with_reducible assumption) | assumption)
                                          obtain ⟨go33, co33, eo33, gb33, gl33, cl33, HG33⟩ := Kd.R_form HO_8.out (by omega)
                                          (first | cases eo33 | (injection eo33 with ea_ en_ ec_; (first | subst ea_ | (injection ea_ with ea_; subst ea_)); subst ec_; clear en_))
                                          have GB33 := Aside0.mk gb33
                                          have GG33 := Aside0.mk HG33
                                          clear gb33 gl33 HG33
                                          obtain ⟨hx33_0, hf33_0⟩ := Kd.R_celln 0 HO_8.out ((ji30) : Int) p33 q33
                                          replace p33 := eq_true p33
                                          replace q33 := eq_true q33
                                          have HP39 := Kd.R_putg HO_8.out ((ji30) : Int) 1
                                          go_wp2_with (first | ((with_reducible refine gate_store (t := 3) (p := 80) rfl ?_); refine store_event (t := 3) (p := 80) (v := ?vo_w40) (w1 := (wc.setCell ⟨go33, ((ji30) : Int).toNat, none⟩ (.int .i64 1))) ?hg ?ho ?hn ?hr ?_; (case ho => rfl); (case hg => rfl); (case hn => rfl); (case hr => first | (go_simp; done) | (go_simp; rfl)); intro w40 hw; have hg : wc.grownBy w40 (some go33) := (by rw [hw]; exact HP39.2); have hp_ : Kd.R (Kd.int .i64) 3 w40 w.heap.size (fun _ => True) (.slice (some ⟨go33, 0, none⟩) x8_2.length co33) y126 := (by rw [hw, Ny126.out]; exact HP39.1); clear HP39; have n0_ := Aside0.mk (hp_); have n1_ := Aside0.mk ((by rw [hw]; exact below_set (HB.out) GB33.out : Below w.heap.size w w40)); clear HO_8; clear HB; have HO_8 := n0_; have HB := n1_; clear n0_ n1_; clear hg hw hp_; have p38 : 0 ≤ ((ji35) : Int) := of_decide_eq_true (by first | (with_reducible assumption) | assumption); have q38 : ((ji35) : Int) < ((x8_2.length : Int) : Int) := of_decide_eq_true (by first | (with_reducible assumption) | assumption); obtain ⟨hx38_0, hf38_0⟩ := Kd.R_celln 0 HO_8.out ((ji35) : Int) p38 q38; replace p38 := eq_true p38; replace q38 := eq_true q38; obtain ⟨hy41_, hz41_⟩ := Kd.R_celln 0 HO_8.out ((ji35) : Int) (of_decide_eq_true (by first | (with_reducible assumption) | assumption)) (of_decide_eq_true (by first | (with_reducible assumption) | assumption)); have HP41 := Kd.R_putg HO_8.out ((ji35) : Int) (-1)) | ((with_reducible refine gate_store (t := 3) (p := 87) rfl ?_); refine store_event (t := 3) (p := 87) (v := ?vo_w42) (w1 := (w40.setCell ⟨go33, ((ji35) : Int).toNat, none⟩ (.int .i64 (-1)))) ?hg ?ho ?hn ?hr ?_; (case ho => rfl); (case hg => rfl); (case hn => rfl); (case hr => first | (go_simp; done) | (go_simp; rfl)); intro w42 hw; have hg : w40.grownBy w42 (some go33) := (by rw [hw]; exact HP41.2); have hp_ : Kd.R (Kd.int .i64) 3 w42 w.heap.size (fun _ => True) (.slice (some ⟨go33, 0, none⟩) x8_2.length co33) y127 := (by rw [hw, Ny127.out]; exact HP41.1); clear HP41; have n0_ := Aside0.mk (hp_); have n1_ := Aside0.mk ((by rw [hw]; exact below_set (HB.out) GB33.out : Below w.heap.size w w42)); clear HO_8; clear HB; have HO_8 := n0_; have HB := n1_; clear n0_ n1_; clear hg hw hp_))
                                          go_roundg kj21
                                          case measure => have := HK1.out; have := HK2.out; have := HK3.out; have := HJ21.out; omega
                                          case rel => exact ⟨(y127), (true), (wrap64 (x10_2 + 1)), (by first | rfl | (simp; done) | (simp [*]; done)), (by first | rfl | (simp; done) | (simp [*]; done)), H', ⟨by have := HK1.out; have := HK2.out; have := HK3.out; have := HJ21.out; omega⟩, ⟨by (with_reducible repeat (first | apply Kd.R_alloc | apply Kd.R_drewN | apply Kd.R_drew)); exact HO_8.out⟩, ⟨by repeat (first | (with_reducible first | exact HB.out | apply below_alloc | apply pw_below_drewN | apply below_drew1) | exact HB.out)⟩⟩
                                        · rw [if_neg c37] at H
                                          exact absurd H (by simp)
                                      · rw [if_neg c36] at H
                                        exact absurd H (by simp)
                                    · rw [if_neg c34] at H
                                      have c34b0 : decide (x12_3 < 0) = false := decide_eq_false c34
                                      clear c34
                                      have H' := Aside0.mk H
                                      clear H
                                      have p33 : 0 ≤ ((ji30) : Int) := of_decide_eq_true (by first | (with_reducible assumption) | assumption)
                                      have q33 : ((ji30) : Int) < ((x8_2.length : Int) : Int) := of_decide_eq_true (by first | (with_reducible assumption) | assumption)
                                      obtain ⟨go33, co33, eo33, gb33, gl33, cl33, HG33⟩ := Kd.R_form HO_8.out (by omega)
                                      (first | cases eo33 | (injection eo33 with ea_ en_ ec_; (first | subst ea_ | (injection ea_ with ea_; subst ea_)); subst ec_; clear en_))
                                      have GB33 := Aside0.mk gb33
                                      have GG33 := Aside0.mk HG33
                                      clear gb33 gl33 HG33
                                      obtain ⟨hx33_0, hf33_0⟩ := Kd.R_celln 0 HO_8.out ((ji30) : Int) p33 q33
                                      replace p33 := eq_true p33
                                      replace q33 := eq_true q33
                                      have HP43 := Kd.R_putg HO_8.out ((ji30) : Int) 1
                                      go_wp2_with (first | ((with_reducible refine gate_store (t := 3) (p := 80) rfl ?_); refine store_event (t := 3) (p := 80) (v := ?vo_w44) (w1 := (wc.setCell ⟨go33, ((ji30) : Int).toNat, none⟩ (.int .i64 1))) ?hg ?ho ?hn ?hr ?_; (case ho => rfl); (case hg => rfl); (case hn => rfl); (case hr => first | (go_simp; done) | (go_simp; rfl)); intro w44 hw; have hg : wc.grownBy w44 (some go33) := (by rw [hw]; exact HP43.2); have hp_ : Kd.R (Kd.int .i64) 3 w44 w.heap.size (fun _ => True) (.slice (some ⟨go33, 0, none⟩) x8_2.length co33) y126 := (by rw [hw, Ny126.out]; exact HP43.1); clear HP43; have n0_ := Aside0.mk (hp_); have n1_ := Aside0.mk ((by rw [hw]; exact below_set (HB.out) GB33.out : Below w.heap.size w w44)); clear HO_8; clear HB; have HO_8 := n0_; have HB := n1_; clear n0_ n1_; clear hg hw hp_))
                                      go_roundg kj21
                                      case measure => have := HK1.out; have := HK2.out; have := HK3.out; have := HJ21.out; omega
                                      case rel => exact ⟨(y126), (true), (wrap64 (x10_2 + 1)), (by first | rfl | (simp; done) | (simp [*]; done)), (by first | rfl | (simp; done) | (simp [*]; done)), H', ⟨by have := HK1.out; have := HK2.out; have := HK3.out; have := HJ21.out; omega⟩, ⟨by (with_reducible repeat (first | apply Kd.R_alloc | apply Kd.R_drewN | apply Kd.R_drew)); exact HO_8.out⟩, ⟨by repeat (first | (with_reducible first | exact HB.out | apply below_alloc | apply pw_below_drewN | apply below_drew1) | exact HB.out)⟩⟩
                                  · rw [if_neg c32] at H
                                    exact absurd H (by simp)
                                · rw [if_neg c31] at H
                                  exact absurd H (by simp)
                    · rw [if_neg c8] at H
                      exact absurd H (by simp)
                  · rw [if_neg c7] at H
                    exact absurd H (by simp)
            · rw [if_neg c6] at H
              have c6b0 : decide (x10_2 < (l1.length : Int)) = false := decide_eq_false c6
              clear c6
              by_cases c45 : x9_2 = true
              · subst c45
                have H1 : (crossroadsref1_Unit.l0 k2 l1 x8_2) = some (r1, r2) := by rw [if_pos rfl] at H; exact H
                clear H
                have H := H1
                clear H1
                have H' := Aside0.mk H
                clear H
                go_wp2
                go_roundg k2
                case measure => have := HK1.out; have := HK2.out; omega
                case rel => exact ⟨(x8_2), H', ⟨by have := HK1.out; have := HK2.out; omega⟩, ⟨by (with_reducible repeat (first | apply Kd.R_alloc | apply Kd.R_drewN | apply Kd.R_drew)); exact HO_8.out⟩, ⟨by repeat (first | (with_reducible first | exact HB.out | apply below_alloc | apply pw_below_drewN | apply below_drew1) | exact HB.out)⟩⟩
              · replace c45 := Bool.eq_false_iff.mpr c45
                subst c45
                have H1 : (some (x8_2, false)) = some (r1, r2) := by rw [if_neg (show ¬ (false = true) by decide)] at H; exact H
                clear H
                have H := H1
                clear H1
                simp only [Option.some.injEq, Prod.mk.injEq] at H
                obtain ⟨rfl, rfl⟩ := H
                go_wp2
                go_ret2
                exact ⟨_, by first | rfl | (simp [errW_none, errW_some] <;> rfl) | (simp [*, errW_none, errW_some] <;> rfl), by (with_reducible repeat (first | apply Kd.R_alloc | apply Kd.R_drewN | apply Kd.R_drew)); exact HO_8.out, by repeat (first | (with_reducible first | exact HB.out | apply below_alloc | apply pw_below_drewN | apply below_drew1) | exact HB.out)⟩
  · rw [if_neg c4] at H
    exact absurd H (by simp)

/-! ### clause_Number: function 24 -/
def clause_Number.f (a0 : Int) : Option (Int) := if a0 = (-9223372036854775808) then (some 0) else (some (mx a0 (wrap64 (-a0))))
set_option maxHeartbeats 8000000 in
set_option maxRecDepth 100000 in
theorem clause_Number.calls (a0 : Int) (r : Int) (w : World) (h : clause_Number.f a0 = some r) :
    Calls Try.prog 24 #[.int .i64 a0] w fun e w' => e = .returned (.int .i64 r) ∧ Below w.heap.size w w' := by
  have HB := Aside0.mk (Below.refl w.heap.size w)
  have H : (if a0 = (-9223372036854775808) then (some 0) else (some (mx a0 (wrap64 (-a0))))) = some r := h
  clear h
  by_cases c2 : a0 = (-9223372036854775808)
  · rw [if_pos c2] at H
    have c2b0 : (a0 == (-9223372036854775808)) = true := beq_iff_eq.mpr c2
    have c2b1 : (a0 != (-9223372036854775808)) = false := bne_eq_false_iff_eq.mpr c2
    clear c2
    obtain rfl := Option.some.inj H
    go_enter Try.func24, Try.ntmps24
    go_wp2
    go_ret
    exact ⟨by first | rfl | (simp [errW_none, errW_some] <;> rfl) | (simp [*, errW_none, errW_some] <;> rfl), by repeat (first | (with_reducible first | exact HB.out | apply below_alloc | apply pw_below_drewN | apply below_drew1) | exact HB.out)⟩
  · rw [if_neg c2] at H
    have c2b0 : (a0 == (-9223372036854775808)) = false := beq_eq_false_iff_ne.mpr c2
    have c2b1 : (a0 != (-9223372036854775808)) = true := bne_iff_ne.mpr c2
    obtain ⟨ji3, hji3⟩ : ∃ j_ : Int, (mx a0 (wrap64 (-a0))) = j_ := ⟨_, rfl⟩
    replace H : (some ji3) = some r := by first | (rw [hji3] at H; exact H) | (simp only [hji3] at H ⊢; exact H)
    have hji3_ : (if a0 < (wrap64 (-a0)) then (wrap64 (-a0)) else a0) = ji3 := hji3
    obtain rfl := Option.some.inj H
    go_enter Try.func24, Try.ntmps24
    go_wp2
    go_ret
    exact ⟨by first | rfl | (simp [errW_none, errW_some] <;> rfl) | (simp only [← hji3]; first | rfl | (simp [errW_none, errW_some] <;> rfl)) | (simp [*, errW_none, errW_some] <;> rfl), by repeat (first | (with_reducible first | exact HB.out | apply below_alloc | apply pw_below_drewN | apply below_drew1) | exact HB.out)⟩

end Go.Proofs.Ytnhpfdnhnocgjaa.P
-- Laid by a program of this session (the kit's print, changed): Lean checks it.
namespace Go.Proofs.Ytnhpfdnhnocgjaa.P
open Go.RowKit Go.Proofs.YtnhpfdnhnocgjaaW.PrintWords Go.Proofs.YtnhpfdnhnocgjaaW.PrintLast Go.Proofs.YtnhpfdnhnocgjaaW.PrintMore
attribute [local go_sem] max2_int min2_int max_two min_two max_three min_three max_four min_four   -- for this text's walks alone
set_option linter.unusedVariables false
set_option linter.unusedSimpArgs false

/-! ### clause_May: function 18 -/
mutual
def clause_May.j0 : Nat → Int → List (List Int) → Bool → Option (Bool)
  | 0, _, _, _ => none
  | k + 1, x0, x1, x15 => if x15 = true then (some false) else (clause_May.l0 k x0 x1 (x1.length : Int) 0)
def clause_May.l0 : Nat → Int → List (List Int) → Int → Int → Option (Bool)
  | 0, _, _, _, _ => none
  | k + 1, x0, x16, x17, x18 => if x18 < x17 then (if 0 ≤ x18 then (if x18 < (x16.length : Int) then (clause_May.l1 k x0 x16 x17 x18 (rd_L1 x16 x18) ((rd_L1 x16 x18).length : Int) 0) else (none)) else (none)) else (some true)
def clause_May.l1 : Nat → Int → List (List Int) → Int → Int → List Int → Int → Int → Option (Bool)
  | 0, _, _, _, _, _, _, _ => none
  | k + 1, x0, x16, x17, x18, x22, x23, x24 => if x24 < x23 then (if 0 ≤ x24 then (if x24 < (x22.length : Int) then ((clause_Number.f (rd x22 x24)).bind fun t130 => (if t130 < 1 then (some false) else (if t130 > x0 then (some false) else (clause_May.l1 k x0 x16 x17 x18 x22 x23 (wrap64 (x24 + 1)))))) else (none)) else (none)) else (clause_May.l0 k x0 x16 x17 (wrap64 (x18 + 1)))
end
def clause_May.f (k : Nat) (a0 : Int) (l1 : List (List Int)) : Option (Bool) := if a0 < 0 then (clause_May.j0 k a0 l1 true) else (clause_May.j0 k a0 l1 (decide (a0 > 65536)))
theorem clause_May.mono_l : ∀ k, (∀ y0 y1 y2, LeO (clause_May.j0 k y0 y1 y2) (clause_May.j0 (k + 1) y0 y1 y2)) ∧ (∀ y0 y1 y2 y3, LeO (clause_May.l0 k y0 y1 y2 y3) (clause_May.l0 (k + 1) y0 y1 y2 y3)) ∧ (∀ y0 y1 y2 y3 y4 y5 y6, LeO (clause_May.l1 k y0 y1 y2 y3 y4 y5 y6) (clause_May.l1 (k + 1) y0 y1 y2 y3 y4 y5 y6))
  | 0 => ⟨fun _ _ _ r h => by simp [clause_May.j0] at h, fun _ _ _ _ r h => by simp [clause_May.l0] at h, fun _ _ _ _ _ _ _ r h => by simp [clause_May.l1] at h⟩
  | k + 1 => by
    obtain ⟨ih0, ih1, ih2⟩ := clause_May.mono_l k
    refine ⟨?_, ?_, ?_⟩
    · intro y0 y1 y2
      unfold clause_May.j0
      repeat' first
      | (with_reducible exact ih0 _ _ _)
      | (with_reducible exact ih1 _ _ _ _)
      | (with_reducible exact ih2 _ _ _ _ _ _ _)
      | (with_reducible exact LeO.refl _)
      | (with_reducible exact LeO.none _)
      | (with_reducible refine LeO.ite ?_ ?_)
      | (with_reducible refine LeO.bind ?_ (fun _ => ?_))
      | exact ih0 _ _ _
      | exact ih1 _ _ _ _
      | exact ih2 _ _ _ _ _ _ _
      | exact LeO.none _
      | refine LeO.ite ?_ ?_
      | refine LeO.bind ?_ (fun _ => ?_)
    · intro y0 y1 y2 y3
      unfold clause_May.l0
      repeat' first
      | (with_reducible exact ih0 _ _ _)
      | (with_reducible exact ih1 _ _ _ _)
      | (with_reducible exact ih2 _ _ _ _ _ _ _)
      | (with_reducible exact LeO.refl _)
      | (with_reducible exact LeO.none _)
      | (with_reducible refine LeO.ite ?_ ?_)
      | (with_reducible refine LeO.bind ?_ (fun _ => ?_))
      | exact ih0 _ _ _
      | exact ih1 _ _ _ _
      | exact ih2 _ _ _ _ _ _ _
      | exact LeO.none _
      | refine LeO.ite ?_ ?_
      | refine LeO.bind ?_ (fun _ => ?_)
    · intro y0 y1 y2 y3 y4 y5 y6
      unfold clause_May.l1
      repeat' first
      | (with_reducible exact ih0 _ _ _)
      | (with_reducible exact ih1 _ _ _ _)
      | (with_reducible exact ih2 _ _ _ _ _ _ _)
      | (with_reducible exact LeO.refl _)
      | (with_reducible exact LeO.none _)
      | (with_reducible refine LeO.ite ?_ ?_)
      | (with_reducible refine LeO.bind ?_ (fun _ => ?_))
      | exact ih0 _ _ _
      | exact ih1 _ _ _ _
      | exact ih2 _ _ _ _ _ _ _
      | exact LeO.none _
      | refine LeO.ite ?_ ?_
      | refine LeO.bind ?_ (fun _ => ?_)
theorem clause_May.mono : ∀ a0 a1 k, LeO (clause_May.f k a0 a1) (clause_May.f (k + 1) a0 a1) := by
  intro a0 a1 k
  obtain ⟨ih0, ih1, ih2⟩ := clause_May.mono_l k
  unfold clause_May.f
  repeat' first
      | (with_reducible exact ih0 _ _ _)
      | (with_reducible exact ih1 _ _ _ _)
      | (with_reducible exact ih2 _ _ _ _ _ _ _)
      | (with_reducible exact LeO.refl _)
      | (with_reducible exact LeO.none _)
      | (with_reducible refine LeO.ite ?_ ?_)
      | (with_reducible refine LeO.bind ?_ (fun _ => ?_))
      | exact ih0 _ _ _
      | exact ih1 _ _ _ _
      | exact ih2 _ _ _ _ _ _ _
      | exact LeO.none _
      | refine LeO.ite ?_ ?_
      | refine LeO.bind ?_ (fun _ => ?_)
set_option maxHeartbeats 8000000 in
set_option maxRecDepth 100000 in
theorem clause_May.calls (k : Nat) (a0 : Int) (A1 : Option Addr) (c1 : Nat) (l1 : List (List Int)) (r : Bool) (w : World) (hr1 : Kd.C (Kd.slice 3 (Kd.int .i64)) w A1 l1.length l1) (hc1 : l1.length ≤ c1) (h : clause_May.f k a0 l1 = some r) :
    Calls Try.prog 18 #[.int .i64 a0, .slice A1 l1.length c1] w fun e w' => e = .returned (.bool r) ∧ Below w.heap.size w w' := by
  have HR1 := Aside0.mk hr1
  have HC1 := Aside0.mk hc1
  clear hr1 hc1
  have HB := Aside0.mk (Below.refl w.heap.size w)
  have H : (if a0 < 0 then (clause_May.j0 k a0 l1 true) else (clause_May.j0 k a0 l1 (decide (a0 > 65536)))) = some r := h
  clear h
  have HC3 := Aside0.mk H
  clear H
  go_enter Try.func18, Try.ntmps18
  go_upto_region 1 with (fail)
  go_cut [15] (fun v15 wc => ∃ (kq : Nat) (x15_2 : Bool), v15 = .bool x15_2 ∧ Aside0 (clause_May.j0 kq a0 l1 x15_2 = some r) ∧ Aside0 (kq ≤ k) ∧ Aside0 (Below w.heap.size w wc))
  case first =>
    have H := HC3.out
    clear HC3
    by_cases c4 : a0 < 0
    · rw [if_pos c4] at H
      have c4b0 : decide (a0 < 0) = true := decide_eq_true c4
      clear c4
      (first | rw [c4b0] | (simp only [i64_w, i32_w]; rw [c4b0]) | (rw [c4b2]; (try simp only [Bool.not_true, Bool.not_false])) | skip)
      have H' := Aside0.mk H
      clear H
      go_wp2
      go_meet
      case rel => exact ⟨_, (true), (by first | rfl | (simp; done) | (simp [*]; done)), H', ⟨by first | omega | exact Nat.le_refl _⟩, ⟨by repeat (first | (with_reducible first | exact HB.out | apply below_alloc | apply pw_below_drewN | apply below_drew1) | exact HB.out)⟩⟩
    · rw [if_neg c4] at H
      have c4b0 : decide (a0 < 0) = false := decide_eq_false c4
      clear c4
      (first | rw [c4b0] | (simp only [i64_w, i32_w]; rw [c4b0]) | (rw [c4b2]; (try simp only [Bool.not_true, Bool.not_false])) | skip)
      have H' := Aside0.mk H
      clear H
      go_wp2
      go_meet
      case rel => exact ⟨_, (decide (a0 > 65536)), (by first | rfl | (simp; done) | (simp [*]; done)), H', ⟨by first | omega | exact Nat.le_refl _⟩, ⟨by repeat (first | (with_reducible first | exact HB.out | apply below_alloc | apply pw_below_drewN | apply below_drew1) | exact HB.out)⟩⟩
  case rest =>
    clear HC3
    try clear c1
    try clear p2
    try clear c4
    try clear c4b0
    try clear c4b2
    obtain ⟨kq, x15_2, rfl, HA, HJ2, HB⟩ := hcut
    cases kq with
    | zero => exact absurd HA.out (by simp [clause_May.j0])
    | succ kj2 =>
      have H := HA.out
      clear HA
      simp only [clause_May.j0] at H
      by_cases c5 : x15_2 = true
      · subst c5
        have H1 : (some false) = some r := by rw [if_pos rfl] at H; exact H
        clear H
        have H := H1
        clear H1
        obtain rfl := Option.some.inj H
        go_wp2
        go_ret
        exact ⟨by first | rfl | (simp [errW_none, errW_some] <;> rfl) | (simp [*, errW_none, errW_some] <;> rfl), by repeat (first | (with_reducible first | exact HB.out | apply below_alloc | apply pw_below_drewN | apply below_drew1) | exact HB.out)⟩
      · replace c5 := Bool.eq_false_iff.mpr c5
        subst c5
        have H1 : (clause_May.l0 kj2 a0 l1 (l1.length : Int) 0) = some r := by rw [if_neg (show ¬ (false = true) by decide)] at H; exact H
        clear H
        have H := H1
        clear H1
        have H' := Aside0.mk H
        clear H
        go_wp2
        go_loopg [18] kj2 (fun kq v18 w' => ∃ (x18_2 : Int), v18 = .int .i64 x18_2 ∧ Aside0 (clause_May.l0 kq a0 l1 (l1.length : Int) x18_2 = some r) ∧ Aside0 (kq ≤ kj2) ∧ Aside0 (Below w.heap.size w w'))
        case atStart => exact ⟨(0), (by first | rfl | (simp; done) | (simp [*]; done)), H', ⟨Nat.le_refl _⟩, ⟨by repeat (first | (with_reducible first | exact HB.out | apply below_alloc | apply pw_below_drewN | apply below_drew1) | exact HB.out)⟩⟩
        case round =>
          clear H'
          try clear c1
          try clear p2
          try clear c4
          try clear c4b0
          try clear c4b2
          try clear c5
          try clear p2
          obtain ⟨x18_2, rfl, HA, HK2, HB⟩ := hrel
          cases gk with
          | zero => exact absurd HA.out (by simp [clause_May.l0])
          | succ k2 =>
            have H := HA.out
            clear HA
            simp only [clause_May.l0] at H
            by_cases c6 : x18_2 < (l1.length : Int)
            · rw [if_pos c6] at H
              have c6b0 : decide (x18_2 < (l1.length : Int)) = true := decide_eq_true c6
              clear c6
              by_cases c7 : 0 ≤ x18_2
              · rw [if_pos c7] at H
                have c7b0 : decide (0 ≤ x18_2) = true := decide_eq_true c7
                clear c7
                by_cases c8 : x18_2 < (l1.length : Int)
                · rw [if_pos c8] at H
                  have c8b0 : decide (x18_2 < (l1.length : Int)) = true := decide_eq_true c8
                  clear c8
                  have H' := Aside0.mk H
                  clear H
                  have p128 : 0 ≤ (x18_2 : Int) := of_decide_eq_true (by first | (with_reducible assumption) | assumption)
                  have q128 : x18_2 < (l1.length : Int) := of_decide_eq_true (by first | (with_reducible assumption) | assumption)
                  obtain ⟨ad128, A128_0, c128_0, e128, hx128_0, hl128_0, hi128_0⟩ := at_L1 HR1.out x18_2 p128 q128
                  cases e128
                  replace hx128_0 := (HB.out.cell (World.block_lt_of_cell? w _ hx128_0)).trans hx128_0
                  have HR128_0 := Aside0.mk hi128_0
                  have HC128_0 := Aside0.mk hl128_0
                  clear hi128_0 hl128_0
                  replace p128 := eq_true p128
                  replace q128 := eq_true q128
                  go_wp2
                  go_loopg [24] k2 (fun kq v24 w' => ∃ (x24_3 : Int), v24 = .int .i64 x24_3 ∧ Aside0 (clause_May.l1 kq a0 l1 (l1.length : Int) x18_2 (rd_L1 l1 x18_2) ((rd_L1 l1 x18_2).length : Int) x24_3 = some r) ∧ Aside0 (kq ≤ k2) ∧ Aside0 (Below w.heap.size w w'))
                  case atStart => exact ⟨(0), (by first | rfl | (simp; done) | (simp [*]; done)), H', ⟨Nat.le_refl _⟩, ⟨by repeat (first | (with_reducible first | exact HB.out | apply below_alloc | apply pw_below_drewN | apply below_drew1) | exact HB.out)⟩⟩
                  case round =>
                    clear H'
                    try clear c1
                    try clear p1
                    try clear q1
                    try clear hx1
                    try clear p2
                    try clear c4
                    try clear c4b0
                    try clear c4b2
                    try clear c5
                    try clear c6
                    try clear c6b0
                    try clear c7
                    try clear c7b0
                    try clear c8
                    try clear c8b0
                    try clear hx128_0
                    try clear p128
                    try clear p2
                    try clear q128
                    obtain ⟨x24_3, rfl, HA, HK3, HB⟩ := hrel
                    cases gk with
                    | zero => exact absurd HA.out (by simp [clause_May.l1])
                    | succ k3 =>
                      have H := HA.out
                      clear HA
                      simp only [clause_May.l1] at H
                      by_cases c9 : x24_3 < ((rd_L1 l1 x18_2).length : Int)
                      · rw [if_pos c9] at H
                        have c9b0 : decide (x24_3 < ((rd_L1 l1 x18_2).length : Int)) = true := decide_eq_true c9
                        clear c9
                        by_cases c10 : 0 ≤ x24_3
                        · rw [if_pos c10] at H
                          have c10b0 : decide (0 ≤ x24_3) = true := decide_eq_true c10
                          clear c10
                          by_cases c11 : x24_3 < ((rd_L1 l1 x18_2).length : Int)
                          · rw [if_pos c11] at H
                            have c11b0 : decide (x24_3 < ((rd_L1 l1 x18_2).length : Int)) = true := decide_eq_true c11
                            clear c11
                            replace H := Option.bind_eq_some_iff.mp H
                            obtain ⟨t130, A120, H⟩ := H
                            replace H : (if t130 < 1 then (some false) else (if t130 > a0 then (some false) else (clause_May.l1 k3 a0 l1 (l1.length : Int) x18_2 (rd_L1 l1 x18_2) ((rd_L1 l1 x18_2).length : Int) (wrap64 (x24_3 + 1))))) = some r := H
                            have A12 := Aside0.mk A120
                            clear A120
                            by_cases c13 : t130 < 1
                            · rw [if_pos c13] at H
                              have c13b0 : decide (t130 < 1) = true := decide_eq_true c13
                              clear c13
                              obtain rfl := Option.some.inj H
                              have p129 : 0 ≤ (x24_3 : Int) := of_decide_eq_true (by first | (with_reducible assumption) | assumption)
                              have q129 : x24_3 < ((rd_L1 l1 x18_2).length : Int) := of_decide_eq_true (by first | (with_reducible assumption) | assumption)
                              obtain ⟨ad129, e129, hx129_0⟩ := Kd.at_int HR128_0.out x24_3 p129 q129
                              cases e129
                              replace hx129_0 := (HB.out.cell (World.block_lt_of_cell? w _ hx129_0)).trans hx129_0
                              replace p129 := eq_true p129
                              replace q129 := eq_true q129
                              go_wp2_with (first | ((with_reducible refine gate_callee (f := 24) rfl ?_); refine goesL_ (some 29) rfl rfl Try.func24 (by kernel_rfl) rfl #[.int .i64 (rd (rd_L1 l1 x18_2) x24_3)] rfl (by (try simp only [List.map_toArray, List.map_cons, List.map_nil]); first | done | rfl | (simp only [List.length_drop, List.length_take]; rfl)) ?_; (with_reducible refine (clause_Number.calls (rd (rd_L1 l1 x18_2) x24_3) t130 _ A12.out).mono ?_); rintro e w14 ⟨rfl, hb⟩; refine ⟨_, rfl, ?_⟩; have n0_ := Aside0.mk (below_step (by repeat (first | (with_reducible first | exact HB.out | apply below_alloc | apply pw_below_drewN | apply below_drew1) | exact HB.out)) hb); clear HB; have HB := n0_; clear n0_; (try clear hb); (try clear hb2); (try clear hk); (try clear hi)))
                              go_ret
                              exact ⟨by first | rfl | (simp [errW_none, errW_some] <;> rfl) | (simp [*, errW_none, errW_some] <;> rfl), by repeat (first | (with_reducible first | exact HB.out | apply below_alloc | apply pw_below_drewN | apply below_drew1) | exact HB.out)⟩
                            · rw [if_neg c13] at H
                              have c13b0 : decide (t130 < 1) = false := decide_eq_false c13
                              clear c13
                              by_cases c15 : t130 > a0
                              · rw [if_pos c15] at H
                                have c15b0 : decide (a0 < t130) = true := decide_eq_true c15
                                clear c15
                                obtain rfl := Option.some.inj H
                                have p129 : 0 ≤ (x24_3 : Int) := of_decide_eq_true (by first | (with_reducible assumption) | assumption)
                                have q129 : x24_3 < ((rd_L1 l1 x18_2).length : Int) := of_decide_eq_true (by first | (with_reducible assumption) | assumption)
                                obtain ⟨ad129, e129, hx129_0⟩ := Kd.at_int HR128_0.out x24_3 p129 q129
                                cases e129
                                replace hx129_0 := (HB.out.cell (World.block_lt_of_cell? w _ hx129_0)).trans hx129_0
                                replace p129 := eq_true p129
                                replace q129 := eq_true q129
                                go_wp2_with (first | ((with_reducible refine gate_callee (f := 24) rfl ?_); refine goesL_ (some 29) rfl rfl Try.func24 (by kernel_rfl) rfl #[.int .i64 (rd (rd_L1 l1 x18_2) x24_3)] rfl (by (try simp only [List.map_toArray, List.map_cons, List.map_nil]); first | done | rfl | (simp only [List.length_drop, List.length_take]; rfl)) ?_; (with_reducible refine (clause_Number.calls (rd (rd_L1 l1 x18_2) x24_3) t130 _ A12.out).mono ?_); rintro e w16 ⟨rfl, hb⟩; refine ⟨_, rfl, ?_⟩; have n0_ := Aside0.mk (below_step (by repeat (first | (with_reducible first | exact HB.out | apply below_alloc | apply pw_below_drewN | apply below_drew1) | exact HB.out)) hb); clear HB; have HB := n0_; clear n0_; (try clear hb); (try clear hb2); (try clear hk); (try clear hi)))
                                go_ret
                                exact ⟨by first | rfl | (simp [errW_none, errW_some] <;> rfl) | (simp [*, errW_none, errW_some] <;> rfl), by repeat (first | (with_reducible first | exact HB.out | apply below_alloc | apply pw_below_drewN | apply below_drew1) | exact HB.out)⟩
                              · rw [if_neg c15] at H
                                have c15b0 : decide (a0 < t130) = false := decide_eq_false c15
                                clear c15
                                have H' := Aside0.mk H
                                clear H
                                have p129 : 0 ≤ (x24_3 : Int) := of_decide_eq_true (by first | (with_reducible assumption) | assumption)
                                have q129 : x24_3 < ((rd_L1 l1 x18_2).length : Int) := of_decide_eq_true (by first | (with_reducible assumption) | assumption)
                                obtain ⟨ad129, e129, hx129_0⟩ := Kd.at_int HR128_0.out x24_3 p129 q129
                                cases e129
                                replace hx129_0 := (HB.out.cell (World.block_lt_of_cell? w _ hx129_0)).trans hx129_0
                                replace p129 := eq_true p129
                                replace q129 := eq_true q129
                                go_wp2_with (first | ((with_reducible refine gate_callee (f := 24) rfl ?_); refine goesL_ (some 29) rfl rfl Try.func24 (by kernel_rfl) rfl #[.int .i64 (rd (rd_L1 l1 x18_2) x24_3)] rfl (by (try simp only [List.map_toArray, List.map_cons, List.map_nil]); first | done | rfl | (simp only [List.length_drop, List.length_take]; rfl)) ?_; (with_reducible refine (clause_Number.calls (rd (rd_L1 l1 x18_2) x24_3) t130 _ A12.out).mono ?_); rintro e w17 ⟨rfl, hb⟩; refine ⟨_, rfl, ?_⟩; have n0_ := Aside0.mk (below_step (by repeat (first | (with_reducible first | exact HB.out | apply below_alloc | apply pw_below_drewN | apply below_drew1) | exact HB.out)) hb); clear HB; have HB := n0_; clear n0_; (try clear hb); (try clear hb2); (try clear hk); (try clear hi)))
                                go_roundg k3
                                case measure => have := HJ2.out; have := HK2.out; have := HK3.out; omega
                                case rel => exact ⟨(wrap64 (x24_3 + 1)), (by first | rfl | (simp; done) | (simp [*]; done)), H', ⟨by have := HJ2.out; have := HK2.out; have := HK3.out; omega⟩, ⟨by repeat (first | (with_reducible first | exact HB.out | apply below_alloc | apply pw_below_drewN | apply below_drew1) | exact HB.out)⟩⟩
                          · rw [if_neg c11] at H
                            exact absurd H (by simp)
                        · rw [if_neg c10] at H
                          exact absurd H (by simp)
                      · rw [if_neg c9] at H
                        have c9b0 : decide (x24_3 < ((rd_L1 l1 x18_2).length : Int)) = false := decide_eq_false c9
                        clear c9
                        have H' := Aside0.mk H
                        clear H
                        go_wp2
                        go_roundg k3
                        case measure => have := HJ2.out; have := HK2.out; have := HK3.out; omega
                        case rel => exact ⟨(wrap64 (x18_2 + 1)), (by first | rfl | (simp; done) | (simp [*]; done)), H', ⟨by have := HJ2.out; have := HK2.out; have := HK3.out; omega⟩, ⟨by repeat (first | (with_reducible first | exact HB.out | apply below_alloc | apply pw_below_drewN | apply below_drew1) | exact HB.out)⟩⟩
                · rw [if_neg c8] at H
                  exact absurd H (by simp)
              · rw [if_neg c7] at H
                exact absurd H (by simp)
            · rw [if_neg c6] at H
              have c6b0 : decide (x18_2 < (l1.length : Int)) = false := decide_eq_false c6
              clear c6
              obtain rfl := Option.some.inj H
              go_wp2
              go_ret
              exact ⟨by first | rfl | (simp [errW_none, errW_some] <;> rfl) | (simp [*, errW_none, errW_some] <;> rfl), by repeat (first | (with_reducible first | exact HB.out | apply below_alloc | apply pw_below_drewN | apply below_drew1) | exact HB.out)⟩

/-- THE ONE PURE STATEMENT of clause_May. -/
def clause_May.Pure : Prop := ∀ (a0 : Int) (l1 : List (List Int)), (Lit.int .i64 a0).wf = true → (l1.length * 24 ≤ 140737488351232 ∧ l1.length ≤ 9223372036854775807 ∧ ∀ y1_ ∈ l1, (y1_.length * 8 ≤ 140737488351232 ∧ y1_.length ≤ 9223372036854775807 ∧ ∀ y2_ ∈ y1_, (Lit.int .i64 y2_).wf = true)) → ∃ k, clause_May.f k a0 l1 = some true

end Go.Proofs.Ytnhpfdnhnocgjaa.P
