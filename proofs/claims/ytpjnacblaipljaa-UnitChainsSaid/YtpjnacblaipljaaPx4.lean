-- Laid by a program of this session (the kit's print, changed): Lean checks it.
import Derived.Test.YtpjnacblaipljaaPx0
import Derived.Test.YtpjnacblaipljaaPx3
namespace Go.Proofs.Ytpjnacblaipljaa.G
end Go.Proofs.Ytpjnacblaipljaa.G
namespace Go.Proofs.Ytpjnacblaipljaa.P
open Go.Proofs.Ytpjnacblaipljaa.G
open Go.RowKit Go.Proofs.YtpjnacblaipljaaW.PrintWords Go.Proofs.YtpjnacblaipljaaW.PrintLast Go.Proofs.YtpjnacblaipljaaW.PrintMore
attribute [local go_sem] max2_int min2_int max_two min_two max_three min_three max_four min_four   -- for this text's walks alone
set_option linter.unusedVariables false
set_option linter.unusedSimpArgs false

/-! ### crossroadsref1_Unit: function 21 -/
mutual
def crossroadsref1_Unit.l0 : Nat → List (List Int) → List Int → Option (List Int × Bool)
  | 0, _, _ => none
  | k + 1, x1, x8 => crossroadsref1_Unit.l1 k x1 x8 false 0
def crossroadsref1_Unit.l1 : Nat → List (List Int) → List Int → Bool → Int → Option (List Int × Bool)
  | 0, _, _, _, _ => none
  | k + 1, x1, x8, x9, x10 => if x10 < (x1.length : Int) then (crossroadsref1_Unit.l2 k x1 x8 x9 x10 false 0 0) else (if x9 = true then (crossroadsref1_Unit.l0 k x1 x8) else (some (x8, false)))
def crossroadsref1_Unit.l2 : Nat → List (List Int) → List Int → Bool → Int → Bool → Int → Int → Option (List Int × Bool)
  | 0, _, _, _, _, _, _, _ => none
  | k + 1, x1, x8, x9, x10, x11, x12, x13 => if 0 ≤ x10 then (if x10 < (x1.length : Int) then (if x13 < ((rd_L1 x1 x10).length : Int) then (if 0 ≤ x13 then (if 0 ≤ (wrap64 ((mx (rd (rd_L1 x1 x10) x13) (wrap64 (-(rd (rd_L1 x1 x10) x13)))) - 1)) then (if (wrap64 ((mx (rd (rd_L1 x1 x10) x13) (wrap64 (-(rd (rd_L1 x1 x10) x13)))) - 1)) < (x8.length : Int) then (if (rd x8 (wrap64 ((mx (rd (rd_L1 x1 x10) x13) (wrap64 (-(rd (rd_L1 x1 x10) x13)))) - 1))) = 0 then (if x11 = true then (crossroadsref1_Unit.l2 k x1 x8 x9 x10 true (rd (rd_L1 x1 x10) x13) (wrap64 (x13 + 1))) else (crossroadsref1_Unit.l2 k x1 x8 x9 x10 false (rd (rd_L1 x1 x10) x13) (wrap64 (x13 + 1)))) else (if x11 = true then (crossroadsref1_Unit.l2 k x1 x8 x9 x10 true x12 (wrap64 (x13 + 1))) else (crossroadsref1_Unit.l2 k x1 x8 x9 x10 (((rd x8 (wrap64 ((mx (rd (rd_L1 x1 x10) x13) (wrap64 (-(rd (rd_L1 x1 x10) x13)))) - 1))) == 1) == (decide ((rd (rd_L1 x1 x10) x13) > 0))) x12 (wrap64 (x13 + 1))))) else (none)) else (none)) else (none)) else (if x11 = true then (crossroadsref1_Unit.j3 k x1 x8 x9 x10 x12 true) else ((crossroadsref1_differ.f k (rd_L1 x1 x10) x8).bind fun t155 => (crossroadsref1_Unit.j3 k x1 x8 x9 x10 x12 t155)))) else (none)) else (none)
def crossroadsref1_Unit.j3 : Nat → List (List Int) → List Int → Bool → Int → Int → Bool → Option (List Int × Bool)
  | 0, _, _, _, _, _, _ => none
  | k + 1, x1, x8, x9, x10, x12, x71 => if x71 = true then (crossroadsref1_Unit.l1 k x1 x8 x9 (wrap64 (x10 + 1))) else (if x12 = 0 then (some (([] : List Int), true)) else (if 0 ≤ (wrap64 ((mx x12 (wrap64 (-x12))) - 1)) then (if (wrap64 ((mx x12 (wrap64 (-x12))) - 1)) < (x8.length : Int) then ((some (x8.set ((wrap64 ((mx x12 (wrap64 (-x12))) - 1)) : Int).toNat 1 : List Int)).bind fun y156 => (if x12 < 0 then (if 0 ≤ (wrap64 ((wrap64 (-x12)) - 1)) then (if (wrap64 ((wrap64 (-x12)) - 1)) < (x8.length : Int) then (crossroadsref1_Unit.l1 k x1 (y156.set ((wrap64 ((wrap64 (-x12)) - 1)) : Int).toNat (-1)) true (wrap64 (x10 + 1))) else (none)) else (none)) else (crossroadsref1_Unit.l1 k x1 y156 true (wrap64 (x10 + 1))))) else (none)) else (none)))
end
def crossroadsref1_Unit.f (k : Nat) (a0 : Int) (l1 : List (List Int)) (l2 : List Int) : Option (List Int × Bool) := if ([] : List Int).length + l2.length < 17592186044416 then (crossroadsref1_Unit.l0 k l1 (([] : List Int) ++ l2)) else (none)
theorem crossroadsref1_Unit.mono_l : ∀ k, (∀ y0 y1, LeO (crossroadsref1_Unit.l0 k y0 y1) (crossroadsref1_Unit.l0 (k + 1) y0 y1)) ∧ (∀ y0 y1 y2 y3, LeO (crossroadsref1_Unit.l1 k y0 y1 y2 y3) (crossroadsref1_Unit.l1 (k + 1) y0 y1 y2 y3)) ∧ (∀ y0 y1 y2 y3 y4 y5 y6, LeO (crossroadsref1_Unit.l2 k y0 y1 y2 y3 y4 y5 y6) (crossroadsref1_Unit.l2 (k + 1) y0 y1 y2 y3 y4 y5 y6)) ∧ (∀ y0 y1 y2 y3 y4 y5, LeO (crossroadsref1_Unit.j3 k y0 y1 y2 y3 y4 y5) (crossroadsref1_Unit.j3 (k + 1) y0 y1 y2 y3 y4 y5))
  | 0 => ⟨fun _ _ r h => by simp [crossroadsref1_Unit.l0] at h, fun _ _ _ _ r h => by simp [crossroadsref1_Unit.l1] at h, fun _ _ _ _ _ _ _ r h => by simp [crossroadsref1_Unit.l2] at h, fun _ _ _ _ _ _ r h => by simp [crossroadsref1_Unit.j3] at h⟩
  | k + 1 => by
    obtain ⟨ih0, ih1, ih2, ih3⟩ := crossroadsref1_Unit.mono_l k
    refine ⟨?_, ?_, ?_, ?_⟩
    · intro y0 y1
      unfold crossroadsref1_Unit.l0
      repeat' first
      | (with_reducible exact ih0 _ _)
      | (with_reducible exact ih1 _ _ _ _)
      | (with_reducible exact ih2 _ _ _ _ _ _ _)
      | (with_reducible exact ih3 _ _ _ _ _ _)
      | (with_reducible exact crossroadsref1_differ.mono _ _ _)
      | (with_reducible exact LeO.refl _)
      | (with_reducible exact LeO.none _)
      | (with_reducible refine LeO.ite ?_ ?_)
      | (with_reducible refine LeO.bind ?_ (fun _ => ?_))
      | exact ih0 _ _
      | exact ih1 _ _ _ _
      | exact ih2 _ _ _ _ _ _ _
      | exact ih3 _ _ _ _ _ _
      | exact crossroadsref1_differ.mono _ _ _
      | exact LeO.none _
      | refine LeO.ite ?_ ?_
      | refine LeO.bind ?_ (fun _ => ?_)
    · intro y0 y1 y2 y3
      unfold crossroadsref1_Unit.l1
      repeat' first
      | (with_reducible exact ih0 _ _)
      | (with_reducible exact ih1 _ _ _ _)
      | (with_reducible exact ih2 _ _ _ _ _ _ _)
      | (with_reducible exact ih3 _ _ _ _ _ _)
      | (with_reducible exact crossroadsref1_differ.mono _ _ _)
      | (with_reducible exact LeO.refl _)
      | (with_reducible exact LeO.none _)
      | (with_reducible refine LeO.ite ?_ ?_)
      | (with_reducible refine LeO.bind ?_ (fun _ => ?_))
      | exact ih0 _ _
      | exact ih1 _ _ _ _
      | exact ih2 _ _ _ _ _ _ _
      | exact ih3 _ _ _ _ _ _
      | exact crossroadsref1_differ.mono _ _ _
      | exact LeO.none _
      | refine LeO.ite ?_ ?_
      | refine LeO.bind ?_ (fun _ => ?_)
    · intro y0 y1 y2 y3 y4 y5 y6
      unfold crossroadsref1_Unit.l2
      repeat' first
      | (with_reducible exact ih0 _ _)
      | (with_reducible exact ih1 _ _ _ _)
      | (with_reducible exact ih2 _ _ _ _ _ _ _)
      | (with_reducible exact ih3 _ _ _ _ _ _)
      | (with_reducible exact crossroadsref1_differ.mono _ _ _)
      | (with_reducible exact LeO.refl _)
      | (with_reducible exact LeO.none _)
      | (with_reducible refine LeO.ite ?_ ?_)
      | (with_reducible refine LeO.bind ?_ (fun _ => ?_))
      | exact ih0 _ _
      | exact ih1 _ _ _ _
      | exact ih2 _ _ _ _ _ _ _
      | exact ih3 _ _ _ _ _ _
      | exact crossroadsref1_differ.mono _ _ _
      | exact LeO.none _
      | refine LeO.ite ?_ ?_
      | refine LeO.bind ?_ (fun _ => ?_)
    · intro y0 y1 y2 y3 y4 y5
      unfold crossroadsref1_Unit.j3
      repeat' first
      | (with_reducible exact ih0 _ _)
      | (with_reducible exact ih1 _ _ _ _)
      | (with_reducible exact ih2 _ _ _ _ _ _ _)
      | (with_reducible exact ih3 _ _ _ _ _ _)
      | (with_reducible exact crossroadsref1_differ.mono _ _ _)
      | (with_reducible exact LeO.refl _)
      | (with_reducible exact LeO.none _)
      | (with_reducible refine LeO.ite ?_ ?_)
      | (with_reducible refine LeO.bind ?_ (fun _ => ?_))
      | exact ih0 _ _
      | exact ih1 _ _ _ _
      | exact ih2 _ _ _ _ _ _ _
      | exact ih3 _ _ _ _ _ _
      | exact crossroadsref1_differ.mono _ _ _
      | exact LeO.none _
      | refine LeO.ite ?_ ?_
      | refine LeO.bind ?_ (fun _ => ?_)
theorem crossroadsref1_Unit.mono : ∀ a0 a1 a2 k, LeO (crossroadsref1_Unit.f k a0 a1 a2) (crossroadsref1_Unit.f (k + 1) a0 a1 a2) := by
  intro a0 a1 a2 k
  obtain ⟨ih0, ih1, ih2, ih3⟩ := crossroadsref1_Unit.mono_l k
  unfold crossroadsref1_Unit.f
  repeat' first
      | (with_reducible exact ih0 _ _)
      | (with_reducible exact ih1 _ _ _ _)
      | (with_reducible exact ih2 _ _ _ _ _ _ _)
      | (with_reducible exact ih3 _ _ _ _ _ _)
      | (with_reducible exact crossroadsref1_differ.mono _ _ _)
      | (with_reducible exact LeO.refl _)
      | (with_reducible exact LeO.none _)
      | (with_reducible refine LeO.ite ?_ ?_)
      | (with_reducible refine LeO.bind ?_ (fun _ => ?_))
      | exact ih0 _ _
      | exact ih1 _ _ _ _
      | exact ih2 _ _ _ _ _ _ _
      | exact ih3 _ _ _ _ _ _
      | exact crossroadsref1_differ.mono _ _ _
      | exact LeO.none _
      | refine LeO.ite ?_ ?_
      | refine LeO.bind ?_ (fun _ => ?_)
set_option maxHeartbeats 8000000 in
set_option maxRecDepth 100000 in
theorem crossroadsref1_Unit.calls (k : Nat) (a0 : Int) (A1 : Option Addr) (c1 : Nat) (l1 : List (List Int)) (A2 : Option Addr) (c2 : Nat) (l2 : List Int) (r1 : List Int) (r2 : Bool) (w : World) (hr1 : Kd.C (Kd.slice 3 (Kd.int .i64)) w A1 l1.length l1) (hc1 : l1.length ≤ c1) (hr2 : Kd.C (Kd.int .i64) w A2 l2.length l2) (hc2 : l2.length ≤ c2) (h : crossroadsref1_Unit.f k a0 l1 l2 = some (r1, r2)) :
    Calls Try.prog 21 #[.int .i64 a0, .slice A1 l1.length c1, .slice A2 l2.length c2] w fun e w' => ∃ v0_ : Value, e = .returned (.tuple #[v0_, .bool r2]) ∧ Kd.R (Kd.int .i64) 3 w' w.heap.size (fun _ => True) v0_ r1 ∧ Below w.heap.size w w' := by
  have HR1 := Aside0.mk hr1
  have HC1 := Aside0.mk hc1
  clear hr1 hc1
  have HR2 := Aside0.mk hr2
  have HC2 := Aside0.mk hc2
  clear hr2 hc2
  have HB := Aside0.mk (Below.refl w.heap.size w)
  have H : (if ([] : List Int).length + l2.length < 17592186044416 then (crossroadsref1_Unit.l0 k l1 (([] : List Int) ++ l2)) else (none)) = some (r1, r2) := h
  clear h
  by_cases c4 : ([] : List Int).length + l2.length < 17592186044416
  · rw [if_pos c4] at H
    have LMc4 := Aside0.mk c4
    clear c4
    obtain ⟨y147, hy147⟩ : ∃ y_ : List Int, y_ = (([] : List Int) ++ l2) := ⟨_, rfl⟩
    replace H : (crossroadsref1_Unit.l0 k l1 y147) = some (r1, r2) := by first | (rw [hy147]; with_reducible exact H) | (have H2_ := (Option.bind_some _ _).symm.trans H; rw [hy147]; with_reducible exact H2_) | (have H2_ := (Option.bind_some _ _).symm.trans H; with_reducible exact H2_) | with_reducible exact H | (rw [hy147]; exact H) | exact H
    have Ny147 := Aside0.mk hy147
    clear hy147
    have H' := Aside0.mk H
    clear H
    go_enter Try.func21, Try.ntmps21
    go_wp2_with (first | ((with_reducible refine gate_builtin (b := .append) (xs := #[.const (.slice none 0 0), .tmp 16]) rfl ?_); at_builtin; refine Kd.R_append_rows (Kd.int .i64) (w0 := w) w.heap.size rfl (.const (.slice none 0 0)) (.tmp 16) 32 3 (.int .i64 0) 8 rfl Try.underlying32 info3 rfl (by decide) (by omega) (.slice none 0 0) ([] : List Int) l2 _ _ _ (fun _ => True) (fun _ => False) rfl rfl ?aO ?aR (fun _ _ h => h) (fun _ h => h.elim) ?aF ?aB ?aS ?aL ?_; (case aR => repeat (first | exact HR2.out | (with_reducible refine Kd.C_alloc ?_ _) | (with_reducible refine Kd.C_drewN ?_ _) | (with_reducible refine Kd.C_drew ?_))); (case aB => exact (by repeat (first | (with_reducible first | exact HB.out | apply below_alloc | apply pw_below_drewN | apply below_drew1) | exact HB.out))); (case aF => exact (fun _ _ => trivial)); (case aO => exact ((Kd.R_nil _ _ _ _ (fun _ => True)))); (case aS => exact (below_size (by repeat (first | (with_reducible first | exact HB.out | apply below_alloc | apply pw_below_drewN | apply below_drew1) | exact HB.out)))); (case aL => have := LMc4.out; omega); intro v148 w5 ho hb hg hat; rw [← Ny147.out] at ho; have n0_ := Aside0.mk (hb); have n1_ := Aside0.mk (ho); clear HB; have HB := n0_; have HO149 := n1_; clear n0_ n1_; clear ho hb hg hat))
    go_loopg [] k (fun kq w' => ∃ (x8_1 : List Int), Aside0 (crossroadsref1_Unit.l0 kq l1 x8_1 = some (r1, r2)) ∧ Aside0 (kq ≤ k) ∧ Aside0 (Kd.R (Kd.int .i64) 3 w' w.heap.size (fun _ => True) v148 x8_1) ∧ Aside0 (Below w.heap.size w w'))
    case atStart => exact ⟨(y147), H', ⟨Nat.le_refl _⟩, ⟨by (with_reducible repeat (first | apply Kd.R_alloc | apply Kd.R_drewN | apply Kd.R_drew)); exact HO149.out⟩, ⟨by repeat (first | (with_reducible first | exact HB.out | apply below_alloc | apply pw_below_drewN | apply below_drew1) | exact HB.out)⟩⟩
    case round =>
      clear H'
      try clear c1
      try clear c2
      try clear p2
      try clear c4
      obtain ⟨x8_1, HA, HK1, HO_8, HB⟩ := hrel
      cases gk with
      | zero => exact absurd HA.out (by simp [crossroadsref1_Unit.l0])
      | succ k1 =>
        have H := HA.out
        clear HA
        simp only [crossroadsref1_Unit.l0] at H
        have H' := Aside0.mk H
        clear H
        go_wp2
        go_loopg [9, 10] k1 (fun kq v9 v10 w' => ∃ (x8_2 : List Int) (x9_2 : Bool) (x10_2 : Int), v9 = .bool x9_2 ∧ v10 = .int .i64 x10_2 ∧ Aside0 (crossroadsref1_Unit.l1 kq l1 x8_2 x9_2 x10_2 = some (r1, r2)) ∧ Aside0 (kq ≤ k1) ∧ Aside0 (Kd.R (Kd.int .i64) 3 w' w.heap.size (fun _ => True) v148 x8_2) ∧ Aside0 (Below w.heap.size w w'))
        case atStart => exact ⟨(x8_1), (false), (0), (by first | rfl | (simp; done) | (simp [*]; done)), (by first | rfl | (simp; done) | (simp [*]; done)), H', ⟨Nat.le_refl _⟩, ⟨by (with_reducible repeat (first | apply Kd.R_alloc | apply Kd.R_drewN | apply Kd.R_drew)); exact HO_8.out⟩, ⟨by repeat (first | (with_reducible first | exact HB.out | apply below_alloc | apply pw_below_drewN | apply below_drew1) | exact HB.out)⟩⟩
        case round =>
          clear H'
          try clear c1
          try clear c2
          try clear p2
          try clear c4
          try clear p2
          obtain ⟨x8_2, x9_2, x10_2, rfl, rfl, HA, HK2, HO_8, HB⟩ := hrel
          cases gk with
          | zero => exact absurd HA.out (by simp [crossroadsref1_Unit.l1])
          | succ k2 =>
            have H := HA.out
            clear HA
            simp only [crossroadsref1_Unit.l1] at H
            by_cases c6 : x10_2 < (l1.length : Int)
            · rw [if_pos c6] at H
              have c6b0 : decide (x10_2 < (l1.length : Int)) = true := decide_eq_true c6
              clear c6
              have H' := Aside0.mk H
              clear H
              go_wp2
              go_loopg [11, 12, 13] k2 (fun kq v11 v12 v13 w' => ∃ (x11_3 : Bool) (x12_3 : Int) (x13_3 : Int), v11 = .bool x11_3 ∧ v12 = .int .i64 x12_3 ∧ v13 = .int .i64 x13_3 ∧ Aside0 (crossroadsref1_Unit.l2 kq l1 x8_2 x9_2 x10_2 x11_3 x12_3 x13_3 = some (r1, r2)) ∧ Aside0 (kq ≤ k2) ∧ Aside0 (Kd.R (Kd.int .i64) 3 w' w.heap.size (fun _ => True) v148 x8_2) ∧ Aside0 (Below w.heap.size w w'))
              case atStart => exact ⟨(false), (0), (0), (by first | rfl | (simp; done) | (simp [*]; done)), (by first | rfl | (simp; done) | (simp [*]; done)), (by first | rfl | (simp; done) | (simp [*]; done)), H', ⟨Nat.le_refl _⟩, ⟨by (with_reducible repeat (first | apply Kd.R_alloc | apply Kd.R_drewN | apply Kd.R_drew)); exact HO_8.out⟩, ⟨by repeat (first | (with_reducible first | exact HB.out | apply below_alloc | apply pw_below_drewN | apply below_drew1) | exact HB.out)⟩⟩
              case round =>
                clear H'
                try clear c1
                try clear c2
                try clear p2
                try clear c4
                try clear c6
                try clear c6b0
                try clear p2
                obtain ⟨x11_3, x12_3, x13_3, rfl, rfl, rfl, HA, HK3, HO_8, HB⟩ := hrel
                cases gk with
                | zero => exact absurd HA.out (by simp [crossroadsref1_Unit.l2])
                | succ k3 =>
                  have H := HA.out
                  clear HA
                  simp only [crossroadsref1_Unit.l2] at H
                  by_cases c7 : 0 ≤ x10_2
                  · rw [if_pos c7] at H
                    have c7b0 : decide (0 ≤ x10_2) = true := decide_eq_true c7
                    clear c7
                    by_cases c8 : x10_2 < (l1.length : Int)
                    · rw [if_pos c8] at H
                      have c8b0 : decide (x10_2 < (l1.length : Int)) = true := decide_eq_true c8
                      clear c8
                      by_cases c9 : x13_3 < ((rd_L1 l1 x10_2).length : Int)
                      · rw [if_pos c9] at H
                        have c9b0 : decide (x13_3 < ((rd_L1 l1 x10_2).length : Int)) = true := decide_eq_true c9
                        clear c9
                        by_cases c10 : 0 ≤ x13_3
                        · rw [if_pos c10] at H
                          have c10b0 : decide (0 ≤ x13_3) = true := decide_eq_true c10
                          clear c10
                          obtain ⟨ji11, hji11⟩ : ∃ j_ : Int, (mx (rd (rd_L1 l1 x10_2) x13_3) (wrap64 (-(rd (rd_L1 l1 x10_2) x13_3)))) = j_ := ⟨_, rfl⟩
                          replace H : (if 0 ≤ (wrap64 ((ji11) - 1)) then (if (wrap64 ((ji11) - 1)) < (x8_2.length : Int) then (if (rd x8_2 (wrap64 ((ji11) - 1))) = 0 then (if x11_3 = true then (crossroadsref1_Unit.l2 k3 l1 x8_2 x9_2 x10_2 true (rd (rd_L1 l1 x10_2) x13_3) (wrap64 (x13_3 + 1))) else (crossroadsref1_Unit.l2 k3 l1 x8_2 x9_2 x10_2 false (rd (rd_L1 l1 x10_2) x13_3) (wrap64 (x13_3 + 1)))) else (if x11_3 = true then (crossroadsref1_Unit.l2 k3 l1 x8_2 x9_2 x10_2 true x12_3 (wrap64 (x13_3 + 1))) else (crossroadsref1_Unit.l2 k3 l1 x8_2 x9_2 x10_2 (((rd x8_2 (wrap64 ((ji11) - 1))) == 1) == (decide ((rd (rd_L1 l1 x10_2) x13_3) > 0))) x12_3 (wrap64 (x13_3 + 1))))) else (none)) else (none)) = some (r1, r2) := by first | (rw [hji11] at H; exact H) | (simp only [hji11] at H ⊢; exact H)
                          have hji11_ : (if (rd (rd_L1 l1 x10_2) x13_3) < (wrap64 (-(rd (rd_L1 l1 x10_2) x13_3))) then (wrap64 (-(rd (rd_L1 l1 x10_2) x13_3))) else (rd (rd_L1 l1 x10_2) x13_3)) = ji11 := hji11
                          obtain ⟨ji12, hji12⟩ : ∃ j_ : Int, (wrap64 ((ji11) - 1)) = j_ := ⟨_, rfl⟩
                          replace H : (if 0 ≤ (ji12) then (if (ji12) < (x8_2.length : Int) then (if (rd x8_2 (ji12)) = 0 then (if x11_3 = true then (crossroadsref1_Unit.l2 k3 l1 x8_2 x9_2 x10_2 true (rd (rd_L1 l1 x10_2) x13_3) (wrap64 (x13_3 + 1))) else (crossroadsref1_Unit.l2 k3 l1 x8_2 x9_2 x10_2 false (rd (rd_L1 l1 x10_2) x13_3) (wrap64 (x13_3 + 1)))) else (if x11_3 = true then (crossroadsref1_Unit.l2 k3 l1 x8_2 x9_2 x10_2 true x12_3 (wrap64 (x13_3 + 1))) else (crossroadsref1_Unit.l2 k3 l1 x8_2 x9_2 x10_2 (((rd x8_2 (ji12)) == 1) == (decide ((rd (rd_L1 l1 x10_2) x13_3) > 0))) x12_3 (wrap64 (x13_3 + 1))))) else (none)) else (none)) = some (r1, r2) := by first | (rw [hji12] at H; exact H) | (simp only [hji12] at H ⊢; exact H)
                          have hji12w : (IntKind.i64.wrap ((ji11) - 1)) = ji12 := (i64_w _).trans hji12
                          by_cases c13 : 0 ≤ (ji12)
                          · rw [if_pos c13] at H
                            have c13b0 : decide (0 ≤ (ji12)) = true := decide_eq_true c13
                            clear c13
                            by_cases c14 : (ji12) < (x8_2.length : Int)
                            · rw [if_pos c14] at H
                              have c14b0 : decide ((ji12) < (x8_2.length : Int)) = true := decide_eq_true c14
                              clear c14
                              by_cases c15 : (rd x8_2 (ji12)) = 0
                              · rw [if_pos c15] at H
                                have c15b0 : ((rd x8_2 (ji12)) == 0) = true := beq_iff_eq.mpr c15
                                have c15b1 : ((rd x8_2 (ji12)) != 0) = false := bne_eq_false_iff_eq.mpr c15
                                clear c15
                                by_cases c16 : x11_3 = true
                                · subst c16
                                  have H1 : (crossroadsref1_Unit.l2 k3 l1 x8_2 x9_2 x10_2 true (rd (rd_L1 l1 x10_2) x13_3) (wrap64 (x13_3 + 1))) = some (r1, r2) := by rw [if_pos rfl] at H; exact H
                                  clear H
                                  have H := H1
                                  clear H1
                                  have H' := Aside0.mk H
                                  clear H
                                  have p150 : 0 ≤ (x10_2 : Int) := of_decide_eq_true (by first | (with_reducible assumption) | assumption)
                                  have q150 : x10_2 < (l1.length : Int) := of_decide_eq_true (by first | (with_reducible assumption) | assumption)
                                  obtain ⟨ad150, A150_0, c150_0, e150, hx150_0, hl150_0, hi150_0⟩ := at_L1 HR1.out x10_2 p150 q150
                                  cases e150
                                  replace hx150_0 := (HB.out.cell (World.block_lt_of_cell? w _ hx150_0)).trans hx150_0
                                  have HR150_0 := Aside0.mk hi150_0
                                  have HC150_0 := Aside0.mk hl150_0
                                  clear hi150_0 hl150_0
                                  replace p150 := eq_true p150
                                  replace q150 := eq_true q150
                                  have p151 : 0 ≤ (x10_2 : Int) := of_decide_eq_true (by first | (with_reducible assumption) | assumption)
                                  have q151 : x10_2 < (l1.length : Int) := of_decide_eq_true (by first | (with_reducible assumption) | assumption)
                                  obtain ⟨ad151, A151_0, c151_0, e151, hx151_0, hl151_0, hi151_0⟩ := at_L1 HR1.out x10_2 p151 q151
                                  obtain rfl : ad150 = ad151 := (by injection e151)
                                  replace hx151_0 := (HB.out.cell (World.block_lt_of_cell? w _ hx151_0)).trans hx151_0
                                  have HR151_0 := Aside0.mk hi151_0
                                  have HC151_0 := Aside0.mk hl151_0
                                  clear hi151_0 hl151_0
                                  replace p151 := eq_true p151
                                  replace q151 := eq_true q151
                                  have ea_ := Option.some.inj (hx150_0.symm.trans hx151_0)
                                  injection ea_ with ea_ en_ ec_
                                  subst ea_
                                  subst ec_
                                  clear en_
                                  have p152 : 0 ≤ (x13_3 : Int) := of_decide_eq_true (by first | (with_reducible assumption) | assumption)
                                  have q152 : x13_3 < ((rd_L1 l1 x10_2).length : Int) := of_decide_eq_true (by first | (with_reducible assumption) | assumption)
                                  obtain ⟨ad152, e152, hx152_0⟩ := Kd.at_int HR151_0.out x13_3 p152 q152
                                  cases e152
                                  replace hx152_0 := (HB.out.cell (World.block_lt_of_cell? w _ hx152_0)).trans hx152_0
                                  replace p152 := eq_true p152
                                  replace q152 := eq_true q152
                                  obtain ⟨Ao17, co17, eo17⟩ := Kd.R_slice HO_8.out
                                  subst eo17
                                  have p153 : 0 ≤ ((ji12) : Int) := of_decide_eq_true (by first | (with_reducible assumption) | assumption)
                                  have q153 : (ji12) < (x8_2.length : Int) := of_decide_eq_true (by first | (with_reducible assumption) | assumption)
                                  (try (obtain ⟨Aoo153, coo153, eoo153⟩ := Kd.R_slice HO_8.out; subst eoo153))
                                  obtain ⟨ad153, e153, hx153_0⟩ := Kd.at_int (Kd.R_reads' HO_8.out).2.2 (ji12) p153 q153
                                  cases e153
                                  replace p153 := eq_true p153
                                  replace q153 := eq_true q153
                                  go_wp2
                                  go_roundg k3
                                  case measure => have := HK1.out; have := HK2.out; have := HK3.out; omega
                                  case rel => exact ⟨(true), (rd (rd_L1 l1 x10_2) x13_3), (wrap64 (x13_3 + 1)), (by first | rfl | (simp; done) | (simp [*]; done)), (by first | rfl | (simp; done) | (simp [*]; done)), (by first | rfl | (simp; done) | (simp [*]; done)), H', ⟨by have := HK1.out; have := HK2.out; have := HK3.out; omega⟩, ⟨by (with_reducible repeat (first | apply Kd.R_alloc | apply Kd.R_drewN | apply Kd.R_drew)); exact HO_8.out⟩, ⟨by repeat (first | (with_reducible first | exact HB.out | apply below_alloc | apply pw_below_drewN | apply below_drew1) | exact HB.out)⟩⟩
                                · replace c16 := Bool.eq_false_iff.mpr c16
                                  subst c16
                                  have H1 : (crossroadsref1_Unit.l2 k3 l1 x8_2 x9_2 x10_2 false (rd (rd_L1 l1 x10_2) x13_3) (wrap64 (x13_3 + 1))) = some (r1, r2) := by rw [if_neg (show ¬ (false = true) by decide)] at H; exact H
                                  clear H
                                  have H := H1
                                  clear H1
                                  have H' := Aside0.mk H
                                  clear H
                                  have p150 : 0 ≤ (x10_2 : Int) := of_decide_eq_true (by first | (with_reducible assumption) | assumption)
                                  have q150 : x10_2 < (l1.length : Int) := of_decide_eq_true (by first | (with_reducible assumption) | assumption)
                                  obtain ⟨ad150, A150_0, c150_0, e150, hx150_0, hl150_0, hi150_0⟩ := at_L1 HR1.out x10_2 p150 q150
                                  cases e150
                                  replace hx150_0 := (HB.out.cell (World.block_lt_of_cell? w _ hx150_0)).trans hx150_0
                                  have HR150_0 := Aside0.mk hi150_0
                                  have HC150_0 := Aside0.mk hl150_0
                                  clear hi150_0 hl150_0
                                  replace p150 := eq_true p150
                                  replace q150 := eq_true q150
                                  have p151 : 0 ≤ (x10_2 : Int) := of_decide_eq_true (by first | (with_reducible assumption) | assumption)
                                  have q151 : x10_2 < (l1.length : Int) := of_decide_eq_true (by first | (with_reducible assumption) | assumption)
                                  obtain ⟨ad151, A151_0, c151_0, e151, hx151_0, hl151_0, hi151_0⟩ := at_L1 HR1.out x10_2 p151 q151
                                  obtain rfl : ad150 = ad151 := (by injection e151)
                                  replace hx151_0 := (HB.out.cell (World.block_lt_of_cell? w _ hx151_0)).trans hx151_0
                                  have HR151_0 := Aside0.mk hi151_0
                                  have HC151_0 := Aside0.mk hl151_0
                                  clear hi151_0 hl151_0
                                  replace p151 := eq_true p151
                                  replace q151 := eq_true q151
                                  have ea_ := Option.some.inj (hx150_0.symm.trans hx151_0)
                                  injection ea_ with ea_ en_ ec_
                                  subst ea_
                                  subst ec_
                                  clear en_
                                  have p152 : 0 ≤ (x13_3 : Int) := of_decide_eq_true (by first | (with_reducible assumption) | assumption)
                                  have q152 : x13_3 < ((rd_L1 l1 x10_2).length : Int) := of_decide_eq_true (by first | (with_reducible assumption) | assumption)
                                  obtain ⟨ad152, e152, hx152_0⟩ := Kd.at_int HR151_0.out x13_3 p152 q152
                                  cases e152
                                  replace hx152_0 := (HB.out.cell (World.block_lt_of_cell? w _ hx152_0)).trans hx152_0
                                  replace p152 := eq_true p152
                                  replace q152 := eq_true q152
                                  obtain ⟨Ao18, co18, eo18⟩ := Kd.R_slice HO_8.out
                                  subst eo18
                                  have p153 : 0 ≤ ((ji12) : Int) := of_decide_eq_true (by first | (with_reducible assumption) | assumption)
                                  have q153 : (ji12) < (x8_2.length : Int) := of_decide_eq_true (by first | (with_reducible assumption) | assumption)
                                  (try (obtain ⟨Aoo153, coo153, eoo153⟩ := Kd.R_slice HO_8.out; subst eoo153))
                                  obtain ⟨ad153, e153, hx153_0⟩ := Kd.at_int (Kd.R_reads' HO_8.out).2.2 (ji12) p153 q153
                                  cases e153
                                  replace p153 := eq_true p153
                                  replace q153 := eq_true q153
                                  go_wp2
                                  go_roundg k3
                                  case measure => have := HK1.out; have := HK2.out; have := HK3.out; omega
                                  case rel => exact ⟨(false), (rd (rd_L1 l1 x10_2) x13_3), (wrap64 (x13_3 + 1)), (by first | rfl | (simp; done) | (simp [*]; done)), (by first | rfl | (simp; done) | (simp [*]; done)), (by first | rfl | (simp; done) | (simp [*]; done)), H', ⟨by have := HK1.out; have := HK2.out; have := HK3.out; omega⟩, ⟨by (with_reducible repeat (first | apply Kd.R_alloc | apply Kd.R_drewN | apply Kd.R_drew)); exact HO_8.out⟩, ⟨by repeat (first | (with_reducible first | exact HB.out | apply below_alloc | apply pw_below_drewN | apply below_drew1) | exact HB.out)⟩⟩
                              · rw [if_neg c15] at H
                                have c15b0 : ((rd x8_2 (ji12)) == 0) = false := beq_eq_false_iff_ne.mpr c15
                                have c15b1 : ((rd x8_2 (ji12)) != 0) = true := bne_iff_ne.mpr c15
                                by_cases c19 : x11_3 = true
                                · subst c19
                                  have H1 : (crossroadsref1_Unit.l2 k3 l1 x8_2 x9_2 x10_2 true x12_3 (wrap64 (x13_3 + 1))) = some (r1, r2) := by rw [if_pos rfl] at H; exact H
                                  clear H
                                  have H := H1
                                  clear H1
                                  have H' := Aside0.mk H
                                  clear H
                                  have p150 : 0 ≤ (x10_2 : Int) := of_decide_eq_true (by first | (with_reducible assumption) | assumption)
                                  have q150 : x10_2 < (l1.length : Int) := of_decide_eq_true (by first | (with_reducible assumption) | assumption)
                                  obtain ⟨ad150, A150_0, c150_0, e150, hx150_0, hl150_0, hi150_0⟩ := at_L1 HR1.out x10_2 p150 q150
                                  cases e150
                                  replace hx150_0 := (HB.out.cell (World.block_lt_of_cell? w _ hx150_0)).trans hx150_0
                                  have HR150_0 := Aside0.mk hi150_0
                                  have HC150_0 := Aside0.mk hl150_0
                                  clear hi150_0 hl150_0
                                  replace p150 := eq_true p150
                                  replace q150 := eq_true q150
                                  have p151 : 0 ≤ (x10_2 : Int) := of_decide_eq_true (by first | (with_reducible assumption) | assumption)
                                  have q151 : x10_2 < (l1.length : Int) := of_decide_eq_true (by first | (with_reducible assumption) | assumption)
                                  obtain ⟨ad151, A151_0, c151_0, e151, hx151_0, hl151_0, hi151_0⟩ := at_L1 HR1.out x10_2 p151 q151
                                  obtain rfl : ad150 = ad151 := (by injection e151)
                                  replace hx151_0 := (HB.out.cell (World.block_lt_of_cell? w _ hx151_0)).trans hx151_0
                                  have HR151_0 := Aside0.mk hi151_0
                                  have HC151_0 := Aside0.mk hl151_0
                                  clear hi151_0 hl151_0
                                  replace p151 := eq_true p151
                                  replace q151 := eq_true q151
                                  have ea_ := Option.some.inj (hx150_0.symm.trans hx151_0)
                                  injection ea_ with ea_ en_ ec_
                                  subst ea_
                                  subst ec_
                                  clear en_
                                  have p152 : 0 ≤ (x13_3 : Int) := of_decide_eq_true (by first | (with_reducible assumption) | assumption)
                                  have q152 : x13_3 < ((rd_L1 l1 x10_2).length : Int) := of_decide_eq_true (by first | (with_reducible assumption) | assumption)
                                  obtain ⟨ad152, e152, hx152_0⟩ := Kd.at_int HR151_0.out x13_3 p152 q152
                                  cases e152
                                  replace hx152_0 := (HB.out.cell (World.block_lt_of_cell? w _ hx152_0)).trans hx152_0
                                  replace p152 := eq_true p152
                                  replace q152 := eq_true q152
                                  obtain ⟨Ao20, co20, eo20⟩ := Kd.R_slice HO_8.out
                                  subst eo20
                                  have p153 : 0 ≤ ((ji12) : Int) := of_decide_eq_true (by first | (with_reducible assumption) | assumption)
                                  have q153 : (ji12) < (x8_2.length : Int) := of_decide_eq_true (by first | (with_reducible assumption) | assumption)
                                  (try (obtain ⟨Aoo153, coo153, eoo153⟩ := Kd.R_slice HO_8.out; subst eoo153))
                                  obtain ⟨ad153, e153, hx153_0⟩ := Kd.at_int (Kd.R_reads' HO_8.out).2.2 (ji12) p153 q153
                                  cases e153
                                  replace p153 := eq_true p153
                                  replace q153 := eq_true q153
                                  go_wp2
                                  go_roundg k3
                                  case measure => have := HK1.out; have := HK2.out; have := HK3.out; omega
                                  case rel => exact ⟨(true), (x12_3), (wrap64 (x13_3 + 1)), (by first | rfl | (simp; done) | (simp [*]; done)), (by first | rfl | (simp; done) | (simp [*]; done)), (by first | rfl | (simp; done) | (simp [*]; done)), H', ⟨by have := HK1.out; have := HK2.out; have := HK3.out; omega⟩, ⟨by (with_reducible repeat (first | apply Kd.R_alloc | apply Kd.R_drewN | apply Kd.R_drew)); exact HO_8.out⟩, ⟨by repeat (first | (with_reducible first | exact HB.out | apply below_alloc | apply pw_below_drewN | apply below_drew1) | exact HB.out)⟩⟩
                                · replace c19 := Bool.eq_false_iff.mpr c19
                                  subst c19
                                  have H1 : (crossroadsref1_Unit.l2 k3 l1 x8_2 x9_2 x10_2 (((rd x8_2 (ji12)) == 1) == (decide ((rd (rd_L1 l1 x10_2) x13_3) > 0))) x12_3 (wrap64 (x13_3 + 1))) = some (r1, r2) := by rw [if_neg (show ¬ (false = true) by decide)] at H; exact H
                                  clear H
                                  have H := H1
                                  clear H1
                                  have H' := Aside0.mk H
                                  clear H
                                  have p150 : 0 ≤ (x10_2 : Int) := of_decide_eq_true (by first | (with_reducible assumption) | assumption)
                                  have q150 : x10_2 < (l1.length : Int) := of_decide_eq_true (by first | (with_reducible assumption) | assumption)
                                  obtain ⟨ad150, A150_0, c150_0, e150, hx150_0, hl150_0, hi150_0⟩ := at_L1 HR1.out x10_2 p150 q150
                                  cases e150
                                  replace hx150_0 := (HB.out.cell (World.block_lt_of_cell? w _ hx150_0)).trans hx150_0
                                  have HR150_0 := Aside0.mk hi150_0
                                  have HC150_0 := Aside0.mk hl150_0
                                  clear hi150_0 hl150_0
                                  replace p150 := eq_true p150
                                  replace q150 := eq_true q150
                                  have p151 : 0 ≤ (x10_2 : Int) := of_decide_eq_true (by first | (with_reducible assumption) | assumption)
                                  have q151 : x10_2 < (l1.length : Int) := of_decide_eq_true (by first | (with_reducible assumption) | assumption)
                                  obtain ⟨ad151, A151_0, c151_0, e151, hx151_0, hl151_0, hi151_0⟩ := at_L1 HR1.out x10_2 p151 q151
                                  obtain rfl : ad150 = ad151 := (by injection e151)
                                  replace hx151_0 := (HB.out.cell (World.block_lt_of_cell? w _ hx151_0)).trans hx151_0
                                  have HR151_0 := Aside0.mk hi151_0
                                  have HC151_0 := Aside0.mk hl151_0
                                  clear hi151_0 hl151_0
                                  replace p151 := eq_true p151
                                  replace q151 := eq_true q151
                                  have ea_ := Option.some.inj (hx150_0.symm.trans hx151_0)
                                  injection ea_ with ea_ en_ ec_
                                  subst ea_
                                  subst ec_
                                  clear en_
                                  have p152 : 0 ≤ (x13_3 : Int) := of_decide_eq_true (by first | (with_reducible assumption) | assumption)
                                  have q152 : x13_3 < ((rd_L1 l1 x10_2).length : Int) := of_decide_eq_true (by first | (with_reducible assumption) | assumption)
                                  obtain ⟨ad152, e152, hx152_0⟩ := Kd.at_int HR151_0.out x13_3 p152 q152
                                  cases e152
                                  replace hx152_0 := (HB.out.cell (World.block_lt_of_cell? w _ hx152_0)).trans hx152_0
                                  replace p152 := eq_true p152
                                  replace q152 := eq_true q152
                                  obtain ⟨Ao21, co21, eo21⟩ := Kd.R_slice HO_8.out
                                  subst eo21
                                  have p153 : 0 ≤ ((ji12) : Int) := of_decide_eq_true (by first | (with_reducible assumption) | assumption)
                                  have q153 : (ji12) < (x8_2.length : Int) := of_decide_eq_true (by first | (with_reducible assumption) | assumption)
                                  (try (obtain ⟨Aoo153, coo153, eoo153⟩ := Kd.R_slice HO_8.out; subst eoo153))
                                  obtain ⟨ad153, e153, hx153_0⟩ := Kd.at_int (Kd.R_reads' HO_8.out).2.2 (ji12) p153 q153
                                  cases e153
                                  replace p153 := eq_true p153
                                  replace q153 := eq_true q153
                                  go_wp2
                                  go_roundg k3
                                  case measure => have := HK1.out; have := HK2.out; have := HK3.out; omega
                                  case rel => exact ⟨((((rd x8_2 (ji12)) == 1) == (decide ((rd (rd_L1 l1 x10_2) x13_3) > 0)))), (x12_3), (wrap64 (x13_3 + 1)), (by first | rfl | (simp; done) | (simp only [← hji12] <;> (first | rfl | simp)) | (simp [*]; done)), (by first | rfl | (simp; done) | (simp [*]; done)), (by first | rfl | (simp; done) | (simp [*]; done)), H', ⟨by have := HK1.out; have := HK2.out; have := HK3.out; omega⟩, ⟨by (with_reducible repeat (first | apply Kd.R_alloc | apply Kd.R_drewN | apply Kd.R_drew)); exact HO_8.out⟩, ⟨by repeat (first | (with_reducible first | exact HB.out | apply below_alloc | apply pw_below_drewN | apply below_drew1) | exact HB.out)⟩⟩
                            · rw [if_neg c14] at H
                              exact absurd H (by simp)
                          · rw [if_neg c13] at H
                            exact absurd H (by simp)
                        · rw [if_neg c10] at H
                          exact absurd H (by simp)
                      · rw [if_neg c9] at H
                        have c9b0 : decide (x13_3 < ((rd_L1 l1 x10_2).length : Int)) = false := decide_eq_false c9
                        clear c9
                        have HC22 := Aside0.mk H
                        clear H
                        have p150 : 0 ≤ (x10_2 : Int) := of_decide_eq_true (by first | (with_reducible assumption) | assumption)
                        have q150 : x10_2 < (l1.length : Int) := of_decide_eq_true (by first | (with_reducible assumption) | assumption)
                        obtain ⟨ad150, A150_0, c150_0, e150, hx150_0, hl150_0, hi150_0⟩ := at_L1 HR1.out x10_2 p150 q150
                        cases e150
                        replace hx150_0 := (HB.out.cell (World.block_lt_of_cell? w _ hx150_0)).trans hx150_0
                        have HR150_0 := Aside0.mk hi150_0
                        have HC150_0 := Aside0.mk hl150_0
                        clear hi150_0 hl150_0
                        replace p150 := eq_true p150
                        replace q150 := eq_true q150
                        go_upto_region 15 with (fail)
                        go_cut [71] (fun v71 wc => ∃ (kq : Nat) (x71_21 : Bool), v71 = .bool x71_21 ∧ Aside0 (crossroadsref1_Unit.j3 kq l1 x8_2 x9_2 x10_2 x12_3 x71_21 = some (r1, r2)) ∧ Aside0 (kq ≤ k3) ∧ Aside0 (Kd.R (Kd.int .i64) 3 wc w.heap.size (fun _ => True) v148 x8_2) ∧ Aside0 (Below w.heap.size w wc))
                        case first =>
                          have H := HC22.out
                          clear HC22
                          by_cases c23 : x11_3 = true
                          · subst c23
                            have H1 : (crossroadsref1_Unit.j3 k3 l1 x8_2 x9_2 x10_2 x12_3 true) = some (r1, r2) := by rw [if_pos rfl] at H; exact H
                            clear H
                            have H := H1
                            clear H1
                            have H' := Aside0.mk H
                            clear H
                            go_wp2
                            go_meet
                            case rel => exact ⟨_, (true), (by first | rfl | (simp; done) | (simp [*]; done)), H', ⟨by have := HK1.out; have := HK2.out; have := HK3.out; first | omega | exact Nat.le_refl _⟩, ⟨by (with_reducible repeat (first | apply Kd.R_alloc | apply Kd.R_drewN | apply Kd.R_drew)); exact HO_8.out⟩, ⟨by repeat (first | (with_reducible first | exact HB.out | apply below_alloc | apply pw_below_drewN | apply below_drew1) | exact HB.out)⟩⟩
                          · replace c23 := Bool.eq_false_iff.mpr c23
                            subst c23
                            have H1 : ((crossroadsref1_differ.f k3 (rd_L1 l1 x10_2) x8_2).bind fun t155 => (crossroadsref1_Unit.j3 k3 l1 x8_2 x9_2 x10_2 x12_3 t155)) = some (r1, r2) := by rw [if_neg (show ¬ (false = true) by decide)] at H; exact H
                            clear H
                            have H := H1
                            clear H1
                            replace H := Option.bind_eq_some_iff.mp H
                            obtain ⟨t155, A240, H⟩ := H
                            replace H : (crossroadsref1_Unit.j3 k3 l1 x8_2 x9_2 x10_2 x12_3 t155) = some (r1, r2) := H
                            have A24 := Aside0.mk A240
                            clear A240
                            have H' := Aside0.mk H
                            clear H
                            have p154 : 0 ≤ (x10_2 : Int) := of_decide_eq_true (by first | (with_reducible assumption) | assumption)
                            have q154 : x10_2 < (l1.length : Int) := of_decide_eq_true (by first | (with_reducible assumption) | assumption)
                            obtain ⟨ad154, A154_0, c154_0, e154, hx154_0, hl154_0, hi154_0⟩ := at_L1 HR1.out x10_2 p154 q154
                            obtain rfl : ad150 = ad154 := (by injection e154)
                            replace hx154_0 := (HB.out.cell (World.block_lt_of_cell? w _ hx154_0)).trans hx154_0
                            have HR154_0 := Aside0.mk hi154_0
                            have HC154_0 := Aside0.mk hl154_0
                            clear hi154_0 hl154_0
                            replace p154 := eq_true p154
                            replace q154 := eq_true q154
                            (try clear hx150_0)
                            (try clear hx150_0)
                            (try clear hx150_0)
                            (try clear hx150_0)
                            (try clear hx150_0)
                            obtain ⟨Ao25, co25, eo25⟩ := Kd.R_slice HO_8.out
                            subst eo25
                            go_wp2_with (first | (go_at_call 30; (with_reducible refine (crossroadsref1_differ.calls k3 _ _ (rd_L1 l1 x10_2) _ _ x8_2 t155 _ ?side1 ?side2 ?side3 ?side4 A24.out).mono ?_); (case side1 => repeat (first | exact (Kd.C_below HR154_0.out HB.out) | (with_reducible refine Kd.C_alloc ?_ _) | (with_reducible refine Kd.C_drewN ?_ _) | (with_reducible refine Kd.C_drew ?_))); (case side2 => exact HC154_0.out); (case side3 => repeat (first | exact (Kd.R_reads' HO_8.out).2.2 | (with_reducible refine Kd.C_alloc ?_ _) | (with_reducible refine Kd.C_drewN ?_ _) | (with_reducible refine Kd.C_drew ?_))); (case side4 => exact (Kd.R_reads' HO_8.out).2.1); rintro e w26 ⟨rfl, hb⟩; have n0_ := Aside0.mk (Kd.R_below (by (with_reducible repeat (first | apply Kd.R_alloc | apply Kd.R_drewN | apply Kd.R_drew)); exact HO_8.out) hb); have n1_ := Aside0.mk (below_step (by repeat (first | (with_reducible first | exact HB.out | apply below_alloc | apply pw_below_drewN | apply below_drew1) | exact HB.out)) hb); clear HO_8; clear HB; have HO_8 := n0_; have HB := n1_; clear n0_ n1_; (try clear hb); (try clear hb2); (try clear hk); (try clear hi)))
                            go_meet
                            case rel => exact ⟨_, (t155), (by first | rfl | (simp; done) | (simp [*]; done)), H', ⟨by have := HK1.out; have := HK2.out; have := HK3.out; first | omega | exact Nat.le_refl _⟩, ⟨by (with_reducible repeat (first | apply Kd.R_alloc | apply Kd.R_drewN | apply Kd.R_drew)); exact HO_8.out⟩, ⟨by repeat (first | (with_reducible first | exact HB.out | apply below_alloc | apply pw_below_drewN | apply below_drew1) | exact HB.out)⟩⟩
                        case rest =>
                          clear HC22
                          try clear c1
                          try clear p1
                          try clear q1
                          try clear hx1
                          try clear c2
                          try clear p2
                          try clear c4
                          try clear c6
                          try clear c6b0
                          try clear p6
                          try clear c7
                          try clear c7b0
                          try clear c8
                          try clear c8b0
                          try clear c9
                          try clear c9b0
                          try clear c10
                          try clear c10b0
                          try clear c13
                          try clear c13b0
                          try clear c14
                          try clear c14b0
                          try clear c15
                          try clear c15b0
                          try clear c15b1
                          try clear p15
                          try clear q15
                          try clear hx15
                          try clear c16
                          try clear c19
                          try clear c21
                          try clear c23
                          try clear hx150_0
                          try clear hx151_0
                          try clear hx152_0
                          try clear hx153_0
                          try clear hx154_0
                          try clear p150
                          try clear p151
                          try clear p152
                          try clear p153
                          try clear p154
                          try clear p2
                          try clear q150
                          try clear q151
                          try clear q152
                          try clear q153
                          try clear q154
                          obtain ⟨kq, x71_21, rfl, HA, HJ21, HO_8, HB⟩ := hcut
                          cases kq with
                          | zero => exact absurd HA.out (by simp [crossroadsref1_Unit.j3])
                          | succ kj21 =>
                            have H := HA.out
                            clear HA
                            simp only [crossroadsref1_Unit.j3] at H
                            by_cases c27 : x71_21 = true
                            · subst c27
                              have H1 : (crossroadsref1_Unit.l1 kj21 l1 x8_2 x9_2 (wrap64 (x10_2 + 1))) = some (r1, r2) := by rw [if_pos rfl] at H; exact H
                              clear H
                              have H := H1
                              clear H1
                              have H' := Aside0.mk H
                              clear H
                              go_wp2
                              go_roundg kj21
                              case measure => have := HK1.out; have := HK2.out; have := HK3.out; have := HJ21.out; omega
                              case rel => exact ⟨(x8_2), (x9_2), (wrap64 (x10_2 + 1)), (by first | rfl | (simp; done) | (simp [*]; done)), (by first | rfl | (simp; done) | (simp [*]; done)), H', ⟨by have := HK1.out; have := HK2.out; have := HK3.out; have := HJ21.out; omega⟩, ⟨by (with_reducible repeat (first | apply Kd.R_alloc | apply Kd.R_drewN | apply Kd.R_drew)); exact HO_8.out⟩, ⟨by repeat (first | (with_reducible first | exact HB.out | apply below_alloc | apply pw_below_drewN | apply below_drew1) | exact HB.out)⟩⟩
                            · replace c27 := Bool.eq_false_iff.mpr c27
                              subst c27
                              have H1 : (if x12_3 = 0 then (some (([] : List Int), true)) else (if 0 ≤ (wrap64 ((mx x12_3 (wrap64 (-x12_3))) - 1)) then (if (wrap64 ((mx x12_3 (wrap64 (-x12_3))) - 1)) < (x8_2.length : Int) then ((some (x8_2.set ((wrap64 ((mx x12_3 (wrap64 (-x12_3))) - 1)) : Int).toNat 1 : List Int)).bind fun y156 => (if x12_3 < 0 then (if 0 ≤ (wrap64 ((wrap64 (-x12_3)) - 1)) then (if (wrap64 ((wrap64 (-x12_3)) - 1)) < (x8_2.length : Int) then (crossroadsref1_Unit.l1 kj21 l1 (y156.set ((wrap64 ((wrap64 (-x12_3)) - 1)) : Int).toNat (-1)) true (wrap64 (x10_2 + 1))) else (none)) else (none)) else (crossroadsref1_Unit.l1 kj21 l1 y156 true (wrap64 (x10_2 + 1))))) else (none)) else (none))) = some (r1, r2) := by rw [if_neg (show ¬ (false = true) by decide)] at H; exact H
                              clear H
                              have H := H1
                              clear H1
                              by_cases c28 : x12_3 = 0
                              · rw [if_pos c28] at H
                                have c28b0 : (x12_3 == 0) = true := beq_iff_eq.mpr c28
                                have c28b1 : (x12_3 != 0) = false := bne_eq_false_iff_eq.mpr c28
                                clear c28
                                simp only [Option.some.injEq, Prod.mk.injEq] at H
                                obtain ⟨rfl, rfl⟩ := H
                                go_wp2
                                go_ret2
                                exact ⟨_, by first | rfl | (simp [errW_none, errW_some] <;> rfl) | (simp [*, errW_none, errW_some] <;> rfl), by first | exact Kd.R_nil _ _ _ _ _ | exact Kd.N_nil _ _ _ _ _ | exact Kd.V_nil _ _ _ _ _ | exact Kd.Q_nil _ _ _ _ _ | exact Kd.S_nil _ _ _ _ _, by repeat (first | (with_reducible first | exact HB.out | apply below_alloc | apply pw_below_drewN | apply below_drew1) | exact HB.out)⟩
                              · rw [if_neg c28] at H
                                have c28b0 : (x12_3 == 0) = false := beq_eq_false_iff_ne.mpr c28
                                have c28b1 : (x12_3 != 0) = true := bne_iff_ne.mpr c28
                                obtain ⟨ji29, hji29⟩ : ∃ j_ : Int, (mx x12_3 (wrap64 (-x12_3))) = j_ := ⟨_, rfl⟩
                                replace H : (if 0 ≤ (wrap64 ((ji29) - 1)) then (if (wrap64 ((ji29) - 1)) < (x8_2.length : Int) then ((some (x8_2.set ((wrap64 ((ji29) - 1)) : Int).toNat 1 : List Int)).bind fun y156 => (if x12_3 < 0 then (if 0 ≤ (wrap64 ((wrap64 (-x12_3)) - 1)) then (if (wrap64 ((wrap64 (-x12_3)) - 1)) < (x8_2.length : Int) then (crossroadsref1_Unit.l1 kj21 l1 (y156.set ((wrap64 ((wrap64 (-x12_3)) - 1)) : Int).toNat (-1)) true (wrap64 (x10_2 + 1))) else (none)) else (none)) else (crossroadsref1_Unit.l1 kj21 l1 y156 true (wrap64 (x10_2 + 1))))) else (none)) else (none)) = some (r1, r2) := by first | (rw [hji29] at H; exact H) | (simp only [hji29] at H ⊢; exact H)
                                have hji29_ : (if x12_3 < (wrap64 (-x12_3)) then (wrap64 (-x12_3)) else x12_3) = ji29 := hji29
                                obtain ⟨ji30, hji30⟩ : ∃ j_ : Int, (wrap64 ((ji29) - 1)) = j_ := ⟨_, rfl⟩
                                replace H : (if 0 ≤ (ji30) then (if (ji30) < (x8_2.length : Int) then ((some (x8_2.set ((ji30) : Int).toNat 1 : List Int)).bind fun y156 => (if x12_3 < 0 then (if 0 ≤ (wrap64 ((wrap64 (-x12_3)) - 1)) then (if (wrap64 ((wrap64 (-x12_3)) - 1)) < (x8_2.length : Int) then (crossroadsref1_Unit.l1 kj21 l1 (y156.set ((wrap64 ((wrap64 (-x12_3)) - 1)) : Int).toNat (-1)) true (wrap64 (x10_2 + 1))) else (none)) else (none)) else (crossroadsref1_Unit.l1 kj21 l1 y156 true (wrap64 (x10_2 + 1))))) else (none)) else (none)) = some (r1, r2) := by first | (rw [hji30] at H; exact H) | (simp only [hji30] at H ⊢; exact H)
                                have hji30w : (IntKind.i64.wrap ((ji29) - 1)) = ji30 := (i64_w _).trans hji30
                                by_cases c31 : 0 ≤ (ji30)
                                · rw [if_pos c31] at H
                                  have c31b0 : decide (0 ≤ (ji30)) = true := decide_eq_true c31
                                  clear c31
                                  by_cases c32 : (ji30) < (x8_2.length : Int)
                                  · rw [if_pos c32] at H
                                    have c32b0 : decide ((ji30) < (x8_2.length : Int)) = true := decide_eq_true c32
                                    clear c32
                                    obtain ⟨y156, hy156⟩ : ∃ y_ : List Int, y_ = (x8_2.set ((ji30) : Int).toNat 1) := ⟨_, rfl⟩
                                    replace H : (if x12_3 < 0 then (if 0 ≤ (wrap64 ((wrap64 (-x12_3)) - 1)) then (if (wrap64 ((wrap64 (-x12_3)) - 1)) < (x8_2.length : Int) then (crossroadsref1_Unit.l1 kj21 l1 (y156.set ((wrap64 ((wrap64 (-x12_3)) - 1)) : Int).toNat (-1)) true (wrap64 (x10_2 + 1))) else (none)) else (none)) else (crossroadsref1_Unit.l1 kj21 l1 y156 true (wrap64 (x10_2 + 1)))) = some (r1, r2) := by first | (rw [hy156]; with_reducible exact H) | (have H2_ := (Option.bind_some _ _).symm.trans H; rw [hy156]; with_reducible exact H2_) | (have H2_ := (Option.bind_some _ _).symm.trans H; with_reducible exact H2_) | with_reducible exact H | (rw [hy156]; exact H) | exact H
                                    have Ny156 := Aside0.mk hy156
                                    clear hy156
                                    by_cases c34 : x12_3 < 0
                                    · rw [if_pos c34] at H
                                      have c34b0 : decide (x12_3 < 0) = true := decide_eq_true c34
                                      clear c34
                                      obtain ⟨ji35, hji35⟩ : ∃ j_ : Int, (wrap64 ((wrap64 (-x12_3)) - 1)) = j_ := ⟨_, rfl⟩
                                      replace H : (if 0 ≤ (ji35) then (if (ji35) < (x8_2.length : Int) then (crossroadsref1_Unit.l1 kj21 l1 (y156.set ((ji35) : Int).toNat (-1)) true (wrap64 (x10_2 + 1))) else (none)) else (none)) = some (r1, r2) := by first | (rw [hji35] at H; exact H) | (simp only [hji35] at H ⊢; exact H)
                                      have hji35w : (IntKind.i64.wrap ((wrap64 (-x12_3)) - 1)) = ji35 := (i64_w _).trans hji35
                                      by_cases c36 : 0 ≤ (ji35)
                                      · rw [if_pos c36] at H
                                        have c36b0 : decide (0 ≤ (ji35)) = true := decide_eq_true c36
                                        clear c36
                                        by_cases c37 : (ji35) < (x8_2.length : Int)
                                        · rw [if_pos c37] at H
                                          have c37b0 : decide ((ji35) < (x8_2.length : Int)) = true := decide_eq_true c37
                                          clear c37
                                          obtain ⟨y157, hy157⟩ : ∃ y_ : List Int, y_ = (y156.set ((ji35) : Int).toNat (-1)) := ⟨_, rfl⟩
                                          replace H : (crossroadsref1_Unit.l1 kj21 l1 y157 true (wrap64 (x10_2 + 1))) = some (r1, r2) := by first | (rw [hy157]; with_reducible exact H) | (have H2_ := (Option.bind_some _ _).symm.trans H; rw [hy157]; with_reducible exact H2_) | (have H2_ := (Option.bind_some _ _).symm.trans H; with_reducible exact H2_) | with_reducible exact H | (rw [hy157]; exact H) | exact H
                                          have Ny157 := Aside0.mk hy157
                                          clear hy157
                                          have H' := Aside0.mk H
                                          clear H
                                          have p33 : 0 ≤ ((ji30) : Int) := of_decide_eq_true (by first | (with_reducible assumption) | assumption)
                                          have q33 : ((ji30) : Int) < ((x8_2.length : Int) : Int) := of_decide_eq_true (by first | (with_reducible assumption) | assumption)
                                          obtain ⟨go33, co33, eo33, gb33, gl33, cl33, HG33⟩ := Kd.R_form HO_8.out (by omega)
                                          (first | cases eo33 | (injection eo33 with ea_ en_ ec_; (first | subst ea_ | (injection ea_ with ea_; subst ea_)); subst ec_; clear en_))
                                          have GB33 := Aside0.mk gb33
                                          have GG33 := Aside0.mk HG33
                                          clear gb33 gl33 HG33
                                          obtain ⟨hx33_0, hf33_0⟩ := Kd.R_celln 0 HO_8.out ((ji30) : Int) p33 q33
                                          replace p33 := eq_true p33
                                          replace q33 := eq_true q33
                                          have HP39 := Kd.R_putg HO_8.out ((ji30) : Int) 1
                                          go_wp2_with (first | ((with_reducible refine gate_store (t := 3) (p := 80) rfl ?_); refine store_event (t := 3) (p := 80) (v := ?vo_w40) (w1 := (wc.setCell ⟨go33, ((ji30) : Int).toNat, none⟩ (.int .i64 1))) ?hg ?ho ?hn ?hr ?_; (case ho => rfl); (case hg => rfl); (case hn => rfl); (case hr => first | (go_simp; done) | (go_simp; rfl)); intro w40 hw; have hg : wc.grownBy w40 (some go33) := (by rw [hw]; exact HP39.2); have hp_ : Kd.R (Kd.int .i64) 3 w40 w.heap.size (fun _ => True) (.slice (some ⟨go33, 0, none⟩) x8_2.length co33) y156 := (by rw [hw, Ny156.out]; exact HP39.1); clear HP39; have n0_ := Aside0.mk (hp_); have n1_ := Aside0.mk ((by rw [hw]; exact below_set (HB.out) GB33.out : Below w.heap.size w w40)); clear HO_8; clear HB; have HO_8 := n0_; have HB := n1_; clear n0_ n1_; clear hg hw hp_; have p38 : 0 ≤ ((ji35) : Int) := of_decide_eq_true (by first | (with_reducible assumption) | assumption); have q38 : ((ji35) : Int) < ((x8_2.length : Int) : Int) := of_decide_eq_true (by first | (with_reducible assumption) | assumption); obtain ⟨hx38_0, hf38_0⟩ := Kd.R_celln 0 HO_8.out ((ji35) : Int) p38 q38; replace p38 := eq_true p38; replace q38 := eq_true q38; obtain ⟨hy41_, hz41_⟩ := Kd.R_celln 0 HO_8.out ((ji35) : Int) (of_decide_eq_true (by first | (with_reducible assumption) | assumption)) (of_decide_eq_true (by first | (with_reducible assumption) | assumption)); have HP41 := Kd.R_putg HO_8.out ((ji35) : Int) (-1)) | ((with_reducible refine gate_store (t := 3) (p := 87) rfl ?_); refine store_event (t := 3) (p := 87) (v := ?vo_w42) (w1 := (w40.setCell ⟨go33, ((ji35) : Int).toNat, none⟩ (.int .i64 (-1)))) ?hg ?ho ?hn ?hr ?_; (case ho => rfl); (case hg => rfl); (case hn => rfl); (case hr => first | (go_simp; done) | (go_simp; rfl)); intro w42 hw; have hg : w40.grownBy w42 (some go33) := (by rw [hw]; exact HP41.2); have hp_ : Kd.R (Kd.int .i64) 3 w42 w.heap.size (fun _ => True) (.slice (some ⟨go33, 0, none⟩) x8_2.length co33) y157 := (by rw [hw, Ny157.out]; exact HP41.1); clear HP41; have n0_ := Aside0.mk (hp_); have n1_ := Aside0.mk ((by rw [hw]; exact below_set (HB.out) GB33.out : Below w.heap.size w w42)); clear HO_8; clear HB; have HO_8 := n0_; have HB := n1_; clear n0_ n1_; clear hg hw hp_))
                                          go_roundg kj21
                                          case measure => have := HK1.out; have := HK2.out; have := HK3.out; have := HJ21.out; omega
                                          case rel => exact ⟨(y157), (true), (wrap64 (x10_2 + 1)), (by first | rfl | (simp; done) | (simp [*]; done)), (by first | rfl | (simp; done) | (simp [*]; done)), H', ⟨by have := HK1.out; have := HK2.out; have := HK3.out; have := HJ21.out; omega⟩, ⟨by (with_reducible repeat (first | apply Kd.R_alloc | apply Kd.R_drewN | apply Kd.R_drew)); exact HO_8.out⟩, ⟨by repeat (first | (with_reducible first | exact HB.out | apply below_alloc | apply pw_below_drewN | apply below_drew1) | exact HB.out)⟩⟩
                                        · rw [if_neg c37] at H
                                          exact absurd H (by simp)
                                      · rw [if_neg c36] at H
                                        exact absurd H (by simp)
                                    · rw [if_neg c34] at H
                                      have c34b0 : decide (x12_3 < 0) = false := decide_eq_false c34
                                      clear c34
                                      have H' := Aside0.mk H
                                      clear H
                                      have p33 : 0 ≤ ((ji30) : Int) := of_decide_eq_true (by first | (with_reducible assumption) | assumption)
                                      have q33 : ((ji30) : Int) < ((x8_2.length : Int) : Int) := of_decide_eq_true (by first | (with_reducible assumption) | assumption)
                                      obtain ⟨go33, co33, eo33, gb33, gl33, cl33, HG33⟩ := Kd.R_form HO_8.out (by omega)
                                      (first | cases eo33 | (injection eo33 with ea_ en_ ec_; (first | subst ea_ | (injection ea_ with ea_; subst ea_)); subst ec_; clear en_))
                                      have GB33 := Aside0.mk gb33
                                      have GG33 := Aside0.mk HG33
                                      clear gb33 gl33 HG33
                                      obtain ⟨hx33_0, hf33_0⟩ := Kd.R_celln 0 HO_8.out ((ji30) : Int) p33 q33
                                      replace p33 := eq_true p33
                                      replace q33 := eq_true q33
                                      have HP43 := Kd.R_putg HO_8.out ((ji30) : Int) 1
                                      go_wp2_with (first | ((with_reducible refine gate_store (t := 3) (p := 80) rfl ?_); refine store_event (t := 3) (p := 80) (v := ?vo_w44) (w1 := (wc.setCell ⟨go33, ((ji30) : Int).toNat, none⟩ (.int .i64 1))) ?hg ?ho ?hn ?hr ?_; (case ho => rfl); (case hg => rfl); (case hn => rfl); (case hr => first | (go_simp; done) | (go_simp; rfl)); intro w44 hw; have hg : wc.grownBy w44 (some go33) := (by rw [hw]; exact HP43.2); have hp_ : Kd.R (Kd.int .i64) 3 w44 w.heap.size (fun _ => True) (.slice (some ⟨go33, 0, none⟩) x8_2.length co33) y156 := (by rw [hw, Ny156.out]; exact HP43.1); clear HP43; have n0_ := Aside0.mk (hp_); have n1_ := Aside0.mk ((by rw [hw]; exact below_set (HB.out) GB33.out : Below w.heap.size w w44)); clear HO_8; clear HB; have HO_8 := n0_; have HB := n1_; clear n0_ n1_; clear hg hw hp_))
                                      go_roundg kj21
                                      case measure => have := HK1.out; have := HK2.out; have := HK3.out; have := HJ21.out; omega
                                      case rel => exact ⟨(y156), (true), (wrap64 (x10_2 + 1)), (by first | rfl | (simp; done) | (simp [*]; done)), (by first | rfl | (simp; done) | (simp [*]; done)), H', ⟨by have := HK1.out; have := HK2.out; have := HK3.out; have := HJ21.out; omega⟩, ⟨by (with_reducible repeat (first | apply Kd.R_alloc | apply Kd.R_drewN | apply Kd.R_drew)); exact HO_8.out⟩, ⟨by repeat (first | (with_reducible first | exact HB.out | apply below_alloc | apply pw_below_drewN | apply below_drew1) | exact HB.out)⟩⟩
                                  · rw [if_neg c32] at H
                                    exact absurd H (by simp)
                                · rw [if_neg c31] at H
                                  exact absurd H (by simp)
                    · rw [if_neg c8] at H
                      exact absurd H (by simp)
                  · rw [if_neg c7] at H
                    exact absurd H (by simp)
            · rw [if_neg c6] at H
              have c6b0 : decide (x10_2 < (l1.length : Int)) = false := decide_eq_false c6
              clear c6
              by_cases c45 : x9_2 = true
              · subst c45
                have H1 : (crossroadsref1_Unit.l0 k2 l1 x8_2) = some (r1, r2) := by rw [if_pos rfl] at H; exact H
                clear H
                have H := H1
                clear H1
                have H' := Aside0.mk H
                clear H
                go_wp2
                go_roundg k2
                case measure => have := HK1.out; have := HK2.out; omega
                case rel => exact ⟨(x8_2), H', ⟨by have := HK1.out; have := HK2.out; omega⟩, ⟨by (with_reducible repeat (first | apply Kd.R_alloc | apply Kd.R_drewN | apply Kd.R_drew)); exact HO_8.out⟩, ⟨by repeat (first | (with_reducible first | exact HB.out | apply below_alloc | apply pw_below_drewN | apply below_drew1) | exact HB.out)⟩⟩
              · replace c45 := Bool.eq_false_iff.mpr c45
                subst c45
                have H1 : (some (x8_2, false)) = some (r1, r2) := by rw [if_neg (show ¬ (false = true) by decide)] at H; exact H
                clear H
                have H := H1
                clear H1
                simp only [Option.some.injEq, Prod.mk.injEq] at H
                obtain ⟨rfl, rfl⟩ := H
                go_wp2
                go_ret2
                exact ⟨_, by first | rfl | (simp [errW_none, errW_some] <;> rfl) | (simp [*, errW_none, errW_some] <;> rfl), by (with_reducible repeat (first | apply Kd.R_alloc | apply Kd.R_drewN | apply Kd.R_drew)); exact HO_8.out, by repeat (first | (with_reducible first | exact HB.out | apply below_alloc | apply pw_below_drewN | apply below_drew1) | exact HB.out)⟩
  · rw [if_neg c4] at H
    exact absurd H (by simp)

end Go.Proofs.Ytpjnacblaipljaa.P
