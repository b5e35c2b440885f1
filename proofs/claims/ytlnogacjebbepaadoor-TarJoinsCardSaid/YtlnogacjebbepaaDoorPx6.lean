-- Laid by a program of this session (the kit's print, changed): Lean checks it.
import Derived.Test.YtlnogacjebbepaaDoorPx0
import Derived.Test.YtlnogacjebbepaaDoorPx1
import Derived.Test.YtlnogacjebbepaaDoorPx3
import Derived.Test.YtlnogacjebbepaaDoorPx4
import Derived.Test.YtlnogacjebbepaaDoorPx5
import Derived.Test.YtlnogacjebbepaaDoorGRHead
namespace Go.Proofs.YtlnogacjebbepaaDoor.G
end Go.Proofs.YtlnogacjebbepaaDoor.G
namespace Go.Proofs.YtlnogacjebbepaaDoor.P
open Go.Proofs.YtlnogacjebbepaaDoor.G
open Go.RowKit Go.Proofs.YtlnogacjebbepaaDoorW.PrintWords Go.Proofs.YtlnogacjebbepaaDoorW.PrintLast Go.Proofs.YtlnogacjebbepaaDoorW.PrintMore
attribute [local go_sem] max2_int min2_int max_two min_two max_three min_three max_four min_four   -- for this text's walks alone
set_option linter.unusedVariables false
set_option linter.unusedSimpArgs false

/-! ### crossroadslaw22_same: function 17 -/
def crossroadslaw22_same.l0 : Nat → List (S44) → List (S37) → Int → Option (Bool)
  | 0, _, _, _ => none
  | k + 1, x0, x1, x5 => if x5 < (x0.length : Int) then (if 0 ≤ x5 then (if x5 < (x1.length : Int) then (if ((rd_T44 x0 x5).f0).toList = ((rd_T37 x1 x5).f0).toList then (if (((rd_T44 x0 x5).f1) != ((rd_T37 x1 x5).f1)) = true then (some false) else (if (strOfNums ((rd_T44 x0 x5).f2)).toList = (strOfNums ((rd_T37 x1 x5).f2)).toList then (crossroadslaw22_same.l0 k x0 x1 (wrap64 (x5 + 1))) else (some false))) else (some false)) else (none)) else (none)) else (some true)
def crossroadslaw22_same.f (k : Nat) (l0 : List (S44)) (l1 : List (S37)) : Option (Bool) := if (l0.length : Int) = (l1.length : Int) then (crossroadslaw22_same.l0 k l0 l1 0) else (some false)
theorem crossroadslaw22_same.mono_l : ∀ k, (∀ y0 y1 y2, LeO (crossroadslaw22_same.l0 k y0 y1 y2) (crossroadslaw22_same.l0 (k + 1) y0 y1 y2))
  | 0 => fun _ _ _ r h => by simp [crossroadslaw22_same.l0] at h
  | k + 1 => by
    have ih0 := crossroadslaw22_same.mono_l k
    · intro y0 y1 y2
      unfold crossroadslaw22_same.l0
      repeat' first
      | (with_reducible exact ih0 _ _ _)
      | (with_reducible exact LeO.refl _)
      | (with_reducible exact LeO.none _)
      | (with_reducible refine LeO.ite ?_ ?_)
      | (with_reducible refine LeO.bind ?_ (fun _ => ?_))
      | exact ih0 _ _ _
      | exact LeO.none _
      | refine LeO.ite ?_ ?_
      | refine LeO.bind ?_ (fun _ => ?_)
theorem crossroadslaw22_same.mono : ∀ a0 a1 k, LeO (crossroadslaw22_same.f k a0 a1) (crossroadslaw22_same.f (k + 1) a0 a1) := by
  intro a0 a1 k
  have ih0 := crossroadslaw22_same.mono_l k
  unfold crossroadslaw22_same.f
  repeat' first
      | (with_reducible exact ih0 _ _ _)
      | (with_reducible exact LeO.refl _)
      | (with_reducible exact LeO.none _)
      | (with_reducible refine LeO.ite ?_ ?_)
      | (with_reducible refine LeO.bind ?_ (fun _ => ?_))
      | exact ih0 _ _ _
      | exact LeO.none _
      | refine LeO.ite ?_ ?_
      | refine LeO.bind ?_ (fun _ => ?_)
set_option maxHeartbeats 8000000 in
set_option maxRecDepth 100000 in
theorem crossroadslaw22_same.calls (k : Nat) (A0 : Option Addr) (c0 : Nat) (l0 : List (S44)) (A1 : Option Addr) (c1 : Nat) (l1 : List (S37)) (r : Bool) (w : World) (hr0 : Kd.C k44 w A0 l0.length l0) (hc0 : l0.length ≤ c0) (hr1 : Kd.C k37 w A1 l1.length l1) (hc1 : l1.length ≤ c1) (h : crossroadslaw22_same.f k l0 l1 = some r) :
    Calls Tryd.prog 17 #[.slice A0 l0.length c0, .slice A1 l1.length c1] w fun e w' => e = .returned (.bool r) ∧ Drawn0 w w' := by
  have HR0 := Aside0.mk hr0
  have HC0 := Aside0.mk hc0
  clear hr0 hc0
  have HR1 := Aside0.mk hr1
  have HC1 := Aside0.mk hc1
  clear hr1 hc1
  have H : (if (l0.length : Int) = (l1.length : Int) then (crossroadslaw22_same.l0 k l0 l1 0) else (some false)) = some r := h
  clear h
  by_cases c3 : (l0.length : Int) = (l1.length : Int)
  · rw [if_pos c3] at H
    have c3b0 : ((l0.length : Int) == (l1.length : Int)) = true := beq_iff_eq.mpr c3
    have c3b1 : ((l0.length : Int) != (l1.length : Int)) = false := bne_eq_false_iff_eq.mpr c3
    have c3b2 : (l0.length == l1.length) = true := by first | simpa using c3 | (simp at c3 ⊢; omega)
    clear c3
    have H' := Aside0.mk H
    clear H
    go_enter Tryd.func17, Tryd.ntmps17
    go_wp2
    repeat (go_quiet (fail); try go_wp2)
    go_loopg [5] k (fun kq v5 w' => ∃ (x5_1 : Int), v5 = .int .i64 x5_1 ∧ Aside0 (crossroadslaw22_same.l0 kq l0 l1 x5_1 = some r) ∧ Aside0 (kq ≤ k) ∧ Drawn0 w w')
    case atStart => exact ⟨(0), (by first | rfl | (simp; done) | (simp [*]; done)), H', ⟨Nat.le_refl _⟩, by repeat (first | exact Drawn0.refl _ | apply Drawn0.step)⟩
    case round =>
      clear H'
      try clear c1
      try clear p2
      try clear c3
      try clear c3b0
      try clear c3b1
      try clear c3b2
      obtain ⟨x5_1, rfl, HA, HK1, ⟨m1, rfl⟩⟩ := hrel
      cases gk with
      | zero => exact absurd HA.out (by simp [crossroadslaw22_same.l0])
      | succ k1 =>
        have H := HA.out
        clear HA
        simp only [crossroadslaw22_same.l0] at H
        by_cases c4 : x5_1 < (l0.length : Int)
        · rw [if_pos c4] at H
          have c4b0 : decide (x5_1 < (l0.length : Int)) = true := decide_eq_true c4
          clear c4
          by_cases c5 : 0 ≤ x5_1
          · rw [if_pos c5] at H
            have c5b0 : decide (0 ≤ x5_1) = true := decide_eq_true c5
            clear c5
            by_cases c6 : x5_1 < (l1.length : Int)
            · rw [if_pos c6] at H
              have c6b0 : decide (x5_1 < (l1.length : Int)) = true := decide_eq_true c6
              clear c6
              by_cases c7 : ((rd_T44 l0 x5_1).f0).toList = ((rd_T37 l1 x5_1).f0).toList
              · rw [if_pos c7] at H
                have c7b0 : (((rd_T44 l0 x5_1).f0).toList == ((rd_T37 l1 x5_1).f0).toList) = true := beq_iff_eq.mpr c7
                have c7b1 : (((rd_T44 l0 x5_1).f0).toList != ((rd_T37 l1 x5_1).f0).toList) = false := bne_eq_false_iff_eq.mpr c7
                clear c7
                by_cases c8 : (((rd_T44 l0 x5_1).f1) != ((rd_T37 l1 x5_1).f1)) = true
                · rw [if_pos c8] at H
                  have c8b0 : (((rd_T44 l0 x5_1).f1) != ((rd_T37 l1 x5_1).f1)) = true := c8
                  (try (have c8b1 : decide (((rd_T44 l0 x5_1).f1) = ((rd_T37 l1 x5_1).f1)) = false := by simpa using c8))
                  (try (have c8b2 : (((rd_T44 l0 x5_1).f1) == ((rd_T37 l1 x5_1).f1)) = false := by simpa using c8))
                  (try (have c8b3 : ¬ (((rd_T44 l0 x5_1).f1) = ((rd_T37 l1 x5_1).f1)) := by simpa using c8))
                  clear c8
                  obtain rfl := Option.some.inj H
                  have p220 : 0 ≤ (x5_1 : Int) := of_decide_eq_true (by first | (with_reducible assumption) | assumption)
                  have q220 : x5_1 < (l0.length : Int) := of_decide_eq_true (by first | (with_reducible assumption) | assumption)
                  obtain ⟨ad220, A220_2, c220_2, e220, hx220_0, hx220_1, hx220_2, hl220_2, hi220_2⟩ := at_T44 HR0.out x5_1 p220 q220
                  cases e220
                  have HR220_2 := Aside0.mk hi220_2
                  have HC220_2 := Aside0.mk hl220_2
                  clear hi220_2 hl220_2
                  replace p220 := eq_true p220
                  replace q220 := eq_true q220
                  have p221 : 0 ≤ (x5_1 : Int) := of_decide_eq_true (by first | (with_reducible assumption) | assumption)
                  have q221 : x5_1 < (l1.length : Int) := of_decide_eq_true (by first | (with_reducible assumption) | assumption)
                  obtain ⟨ad221, A221_2, c221_2, e221, hx221_0, hx221_1, hx221_2, hl221_2, hi221_2⟩ := at_T37 HR1.out x5_1 p221 q221
                  cases e221
                  have HR221_2 := Aside0.mk hi221_2
                  have HC221_2 := Aside0.mk hl221_2
                  clear hi221_2 hl221_2
                  replace p221 := eq_true p221
                  replace q221 := eq_true q221
                  have p222 : 0 ≤ (x5_1 : Int) := of_decide_eq_true (by first | (with_reducible assumption) | assumption)
                  have q222 : x5_1 < (l0.length : Int) := of_decide_eq_true (by first | (with_reducible assumption) | assumption)
                  obtain ⟨ad222, A222_2, c222_2, e222, hx222_0, hx222_1, hx222_2, hl222_2, hi222_2⟩ := at_T44 HR0.out x5_1 p222 q222
                  obtain rfl : ad220 = ad222 := (by injection e222)
                  have HR222_2 := Aside0.mk hi222_2
                  have HC222_2 := Aside0.mk hl222_2
                  clear hi222_2 hl222_2
                  replace p222 := eq_true p222
                  replace q222 := eq_true q222
                  have ea_ := Option.some.inj (hx220_2.symm.trans hx222_2)
                  injection ea_ with ea_ en_ ec_
                  subst ea_
                  subst ec_
                  clear en_
                  have p223 : 0 ≤ (x5_1 : Int) := of_decide_eq_true (by first | (with_reducible assumption) | assumption)
                  have q223 : x5_1 < (l1.length : Int) := of_decide_eq_true (by first | (with_reducible assumption) | assumption)
                  obtain ⟨ad223, A223_2, c223_2, e223, hx223_0, hx223_1, hx223_2, hl223_2, hi223_2⟩ := at_T37 HR1.out x5_1 p223 q223
                  obtain rfl : ad221 = ad223 := (by injection e223)
                  have HR223_2 := Aside0.mk hi223_2
                  have HC223_2 := Aside0.mk hl223_2
                  clear hi223_2 hl223_2
                  replace p223 := eq_true p223
                  replace q223 := eq_true q223
                  have ea_ := Option.some.inj (hx221_2.symm.trans hx223_2)
                  injection ea_ with ea_ en_ ec_
                  subst ea_
                  subst ec_
                  clear en_
                  go_wp2
                  repeat (go_quiet (fail); try go_wp2)
                  go_ret
                  exact ⟨by first | rfl | (simp; done) | (simp [*]; done), by repeat (first | exact Drawn0.refl _ | apply Drawn0.step)⟩
                · rw [if_neg c8] at H
                  have c8b0 : (((rd_T44 l0 x5_1).f1) != ((rd_T37 l1 x5_1).f1)) = false := by simpa using c8
                  (try (have c8b1 : decide (((rd_T44 l0 x5_1).f1) = ((rd_T37 l1 x5_1).f1)) = true := by simpa using c8))
                  (try (have c8b2 : (((rd_T44 l0 x5_1).f1) == ((rd_T37 l1 x5_1).f1)) = true := by simpa using c8))
                  clear c8
                  by_cases c9 : (strOfNums ((rd_T44 l0 x5_1).f2)).toList = (strOfNums ((rd_T37 l1 x5_1).f2)).toList
                  · rw [if_pos c9] at H
                    have c9b0 : ((strOfNums ((rd_T44 l0 x5_1).f2)).toList == (strOfNums ((rd_T37 l1 x5_1).f2)).toList) = true := beq_iff_eq.mpr c9
                    have c9b1 : ((strOfNums ((rd_T44 l0 x5_1).f2)).toList != (strOfNums ((rd_T37 l1 x5_1).f2)).toList) = false := bne_eq_false_iff_eq.mpr c9
                    clear c9
                    have H' := Aside0.mk H
                    clear H
                    have p220 : 0 ≤ (x5_1 : Int) := of_decide_eq_true (by first | (with_reducible assumption) | assumption)
                    have q220 : x5_1 < (l0.length : Int) := of_decide_eq_true (by first | (with_reducible assumption) | assumption)
                    obtain ⟨ad220, A220_2, c220_2, e220, hx220_0, hx220_1, hx220_2, hl220_2, hi220_2⟩ := at_T44 HR0.out x5_1 p220 q220
                    cases e220
                    have HR220_2 := Aside0.mk hi220_2
                    have HC220_2 := Aside0.mk hl220_2
                    clear hi220_2 hl220_2
                    replace p220 := eq_true p220
                    replace q220 := eq_true q220
                    have p221 : 0 ≤ (x5_1 : Int) := of_decide_eq_true (by first | (with_reducible assumption) | assumption)
                    have q221 : x5_1 < (l1.length : Int) := of_decide_eq_true (by first | (with_reducible assumption) | assumption)
                    obtain ⟨ad221, A221_2, c221_2, e221, hx221_0, hx221_1, hx221_2, hl221_2, hi221_2⟩ := at_T37 HR1.out x5_1 p221 q221
                    cases e221
                    have HR221_2 := Aside0.mk hi221_2
                    have HC221_2 := Aside0.mk hl221_2
                    clear hi221_2 hl221_2
                    replace p221 := eq_true p221
                    replace q221 := eq_true q221
                    have p222 : 0 ≤ (x5_1 : Int) := of_decide_eq_true (by first | (with_reducible assumption) | assumption)
                    have q222 : x5_1 < (l0.length : Int) := of_decide_eq_true (by first | (with_reducible assumption) | assumption)
                    obtain ⟨ad222, A222_2, c222_2, e222, hx222_0, hx222_1, hx222_2, hl222_2, hi222_2⟩ := at_T44 HR0.out x5_1 p222 q222
                    obtain rfl : ad220 = ad222 := (by injection e222)
                    have HR222_2 := Aside0.mk hi222_2
                    have HC222_2 := Aside0.mk hl222_2
                    clear hi222_2 hl222_2
                    replace p222 := eq_true p222
                    replace q222 := eq_true q222
                    have ea_ := Option.some.inj (hx220_2.symm.trans hx222_2)
                    injection ea_ with ea_ en_ ec_
                    subst ea_
                    subst ec_
                    clear en_
                    have p223 : 0 ≤ (x5_1 : Int) := of_decide_eq_true (by first | (with_reducible assumption) | assumption)
                    have q223 : x5_1 < (l1.length : Int) := of_decide_eq_true (by first | (with_reducible assumption) | assumption)
                    obtain ⟨ad223, A223_2, c223_2, e223, hx223_0, hx223_1, hx223_2, hl223_2, hi223_2⟩ := at_T37 HR1.out x5_1 p223 q223
                    obtain rfl : ad221 = ad223 := (by injection e223)
                    have HR223_2 := Aside0.mk hi223_2
                    have HC223_2 := Aside0.mk hl223_2
                    clear hi223_2 hl223_2
                    replace p223 := eq_true p223
                    replace q223 := eq_true q223
                    have ea_ := Option.some.inj (hx221_2.symm.trans hx223_2)
                    injection ea_ with ea_ en_ ec_
                    subst ea_
                    subst ec_
                    clear en_
                    have p224 : 0 ≤ (x5_1 : Int) := of_decide_eq_true (by first | (with_reducible assumption) | assumption)
                    have q224 : x5_1 < (l0.length : Int) := of_decide_eq_true (by first | (with_reducible assumption) | assumption)
                    obtain ⟨ad224, A224_2, c224_2, e224, hx224_0, hx224_1, hx224_2, hl224_2, hi224_2⟩ := at_T44 HR0.out x5_1 p224 q224
                    obtain rfl : ad220 = ad224 := (by injection e224)
                    have HR224_2 := Aside0.mk hi224_2
                    have HC224_2 := Aside0.mk hl224_2
                    clear hi224_2 hl224_2
                    replace p224 := eq_true p224
                    replace q224 := eq_true q224
                    have ea_ := Option.some.inj (hx220_2.symm.trans hx224_2)
                    injection ea_ with ea_ en_ ec_
                    subst ea_
                    subst ec_
                    clear en_
                    have hcv10 := fun n_ : Nat => Kd.C_string (w := w.drewN n_) (P := Tryd.prog) (A := A220_2) (c := c220_2) Tryd.underlying25 Tryd.underlying5 Tryd.underlying9 HR224_2.out
                    have p225 : 0 ≤ (x5_1 : Int) := of_decide_eq_true (by first | (with_reducible assumption) | assumption)
                    have q225 : x5_1 < (l1.length : Int) := of_decide_eq_true (by first | (with_reducible assumption) | assumption)
                    obtain ⟨ad225, A225_2, c225_2, e225, hx225_0, hx225_1, hx225_2, hl225_2, hi225_2⟩ := at_T37 HR1.out x5_1 p225 q225
                    obtain rfl : ad221 = ad225 := (by injection e225)
                    have HR225_2 := Aside0.mk hi225_2
                    have HC225_2 := Aside0.mk hl225_2
                    clear hi225_2 hl225_2
                    replace p225 := eq_true p225
                    replace q225 := eq_true q225
                    have ea_ := Option.some.inj (hx221_2.symm.trans hx225_2)
                    injection ea_ with ea_ en_ ec_
                    subst ea_
                    subst ec_
                    clear en_
                    have hcv11 := fun n_ : Nat => Kd.C_string (w := w.drewN n_) (P := Tryd.prog) (A := A221_2) (c := c221_2) Tryd.underlying25 Tryd.underlying5 Tryd.underlying9 HR225_2.out
                    go_wp2
                    repeat (go_quiet (fail); try go_wp2)
                    go_roundg k1
                    case measure => have := HK1.out; omega
                    case rel => exact ⟨(wrap64 (x5_1 + 1)), (by first | rfl | (simp; done) | (simp [*]; done)), H', ⟨by have := HK1.out; omega⟩, by repeat (first | exact Drawn0.refl _ | apply Drawn0.step)⟩
                  · rw [if_neg c9] at H
                    have c9b0 : ((strOfNums ((rd_T44 l0 x5_1).f2)).toList == (strOfNums ((rd_T37 l1 x5_1).f2)).toList) = false := beq_eq_false_iff_ne.mpr c9
                    have c9b1 : ((strOfNums ((rd_T44 l0 x5_1).f2)).toList != (strOfNums ((rd_T37 l1 x5_1).f2)).toList) = true := bne_iff_ne.mpr c9
                    obtain rfl := Option.some.inj H
                    have p220 : 0 ≤ (x5_1 : Int) := of_decide_eq_true (by first | (with_reducible assumption) | assumption)
                    have q220 : x5_1 < (l0.length : Int) := of_decide_eq_true (by first | (with_reducible assumption) | assumption)
                    obtain ⟨ad220, A220_2, c220_2, e220, hx220_0, hx220_1, hx220_2, hl220_2, hi220_2⟩ := at_T44 HR0.out x5_1 p220 q220
                    cases e220
                    have HR220_2 := Aside0.mk hi220_2
                    have HC220_2 := Aside0.mk hl220_2
                    clear hi220_2 hl220_2
                    replace p220 := eq_true p220
                    replace q220 := eq_true q220
                    have p221 : 0 ≤ (x5_1 : Int) := of_decide_eq_true (by first | (with_reducible assumption) | assumption)
                    have q221 : x5_1 < (l1.length : Int) := of_decide_eq_true (by first | (with_reducible assumption) | assumption)
                    obtain ⟨ad221, A221_2, c221_2, e221, hx221_0, hx221_1, hx221_2, hl221_2, hi221_2⟩ := at_T37 HR1.out x5_1 p221 q221
                    cases e221
                    have HR221_2 := Aside0.mk hi221_2
                    have HC221_2 := Aside0.mk hl221_2
                    clear hi221_2 hl221_2
                    replace p221 := eq_true p221
                    replace q221 := eq_true q221
                    have p222 : 0 ≤ (x5_1 : Int) := of_decide_eq_true (by first | (with_reducible assumption) | assumption)
                    have q222 : x5_1 < (l0.length : Int) := of_decide_eq_true (by first | (with_reducible assumption) | assumption)
                    obtain ⟨ad222, A222_2, c222_2, e222, hx222_0, hx222_1, hx222_2, hl222_2, hi222_2⟩ := at_T44 HR0.out x5_1 p222 q222
                    obtain rfl : ad220 = ad222 := (by injection e222)
                    have HR222_2 := Aside0.mk hi222_2
                    have HC222_2 := Aside0.mk hl222_2
                    clear hi222_2 hl222_2
                    replace p222 := eq_true p222
                    replace q222 := eq_true q222
                    have ea_ := Option.some.inj (hx220_2.symm.trans hx222_2)
                    injection ea_ with ea_ en_ ec_
                    subst ea_
                    subst ec_
                    clear en_
                    have p223 : 0 ≤ (x5_1 : Int) := of_decide_eq_true (by first | (with_reducible assumption) | assumption)
                    have q223 : x5_1 < (l1.length : Int) := of_decide_eq_true (by first | (with_reducible assumption) | assumption)
                    obtain ⟨ad223, A223_2, c223_2, e223, hx223_0, hx223_1, hx223_2, hl223_2, hi223_2⟩ := at_T37 HR1.out x5_1 p223 q223
                    obtain rfl : ad221 = ad223 := (by injection e223)
                    have HR223_2 := Aside0.mk hi223_2
                    have HC223_2 := Aside0.mk hl223_2
                    clear hi223_2 hl223_2
                    replace p223 := eq_true p223
                    replace q223 := eq_true q223
                    have ea_ := Option.some.inj (hx221_2.symm.trans hx223_2)
                    injection ea_ with ea_ en_ ec_
                    subst ea_
                    subst ec_
                    clear en_
                    have p224 : 0 ≤ (x5_1 : Int) := of_decide_eq_true (by first | (with_reducible assumption) | assumption)
                    have q224 : x5_1 < (l0.length : Int) := of_decide_eq_true (by first | (with_reducible assumption) | assumption)
                    obtain ⟨ad224, A224_2, c224_2, e224, hx224_0, hx224_1, hx224_2, hl224_2, hi224_2⟩ := at_T44 HR0.out x5_1 p224 q224
                    obtain rfl : ad220 = ad224 := (by injection e224)
                    have HR224_2 := Aside0.mk hi224_2
                    have HC224_2 := Aside0.mk hl224_2
                    clear hi224_2 hl224_2
                    replace p224 := eq_true p224
                    replace q224 := eq_true q224
                    have ea_ := Option.some.inj (hx220_2.symm.trans hx224_2)
                    injection ea_ with ea_ en_ ec_
                    subst ea_
                    subst ec_
                    clear en_
                    have hcv12 := fun n_ : Nat => Kd.C_string (w := w.drewN n_) (P := Tryd.prog) (A := A220_2) (c := c220_2) Tryd.underlying25 Tryd.underlying5 Tryd.underlying9 HR224_2.out
                    have p225 : 0 ≤ (x5_1 : Int) := of_decide_eq_true (by first | (with_reducible assumption) | assumption)
                    have q225 : x5_1 < (l1.length : Int) := of_decide_eq_true (by first | (with_reducible assumption) | assumption)
                    obtain ⟨ad225, A225_2, c225_2, e225, hx225_0, hx225_1, hx225_2, hl225_2, hi225_2⟩ := at_T37 HR1.out x5_1 p225 q225
                    obtain rfl : ad221 = ad225 := (by injection e225)
                    have HR225_2 := Aside0.mk hi225_2
                    have HC225_2 := Aside0.mk hl225_2
                    clear hi225_2 hl225_2
                    replace p225 := eq_true p225
                    replace q225 := eq_true q225
                    have ea_ := Option.some.inj (hx221_2.symm.trans hx225_2)
                    injection ea_ with ea_ en_ ec_
                    subst ea_
                    subst ec_
                    clear en_
                    have hcv13 := fun n_ : Nat => Kd.C_string (w := w.drewN n_) (P := Tryd.prog) (A := A221_2) (c := c221_2) Tryd.underlying25 Tryd.underlying5 Tryd.underlying9 HR225_2.out
                    go_wp2
                    repeat (go_quiet (fail); try go_wp2)
                    go_ret
                    exact ⟨by first | rfl | (simp; done) | (simp [*]; done), by repeat (first | exact Drawn0.refl _ | apply Drawn0.step)⟩
              · rw [if_neg c7] at H
                have c7b0 : (((rd_T44 l0 x5_1).f0).toList == ((rd_T37 l1 x5_1).f0).toList) = false := beq_eq_false_iff_ne.mpr c7
                have c7b1 : (((rd_T44 l0 x5_1).f0).toList != ((rd_T37 l1 x5_1).f0).toList) = true := bne_iff_ne.mpr c7
                obtain rfl := Option.some.inj H
                have p220 : 0 ≤ (x5_1 : Int) := of_decide_eq_true (by first | (with_reducible assumption) | assumption)
                have q220 : x5_1 < (l0.length : Int) := of_decide_eq_true (by first | (with_reducible assumption) | assumption)
                obtain ⟨ad220, A220_2, c220_2, e220, hx220_0, hx220_1, hx220_2, hl220_2, hi220_2⟩ := at_T44 HR0.out x5_1 p220 q220
                cases e220
                have HR220_2 := Aside0.mk hi220_2
                have HC220_2 := Aside0.mk hl220_2
                clear hi220_2 hl220_2
                replace p220 := eq_true p220
                replace q220 := eq_true q220
                have p221 : 0 ≤ (x5_1 : Int) := of_decide_eq_true (by first | (with_reducible assumption) | assumption)
                have q221 : x5_1 < (l1.length : Int) := of_decide_eq_true (by first | (with_reducible assumption) | assumption)
                obtain ⟨ad221, A221_2, c221_2, e221, hx221_0, hx221_1, hx221_2, hl221_2, hi221_2⟩ := at_T37 HR1.out x5_1 p221 q221
                cases e221
                have HR221_2 := Aside0.mk hi221_2
                have HC221_2 := Aside0.mk hl221_2
                clear hi221_2 hl221_2
                replace p221 := eq_true p221
                replace q221 := eq_true q221
                go_wp2
                repeat (go_quiet (fail); try go_wp2)
                go_ret
                exact ⟨by first | rfl | (simp; done) | (simp [*]; done), by repeat (first | exact Drawn0.refl _ | apply Drawn0.step)⟩
            · rw [if_neg c6] at H
              exact absurd H (by simp)
          · rw [if_neg c5] at H
            exact absurd H (by simp)
        · rw [if_neg c4] at H
          have c4b0 : decide (x5_1 < (l0.length : Int)) = false := decide_eq_false c4
          clear c4
          obtain rfl := Option.some.inj H
          go_wp2
          repeat (go_quiet (fail); try go_wp2)
          go_ret
          exact ⟨by first | rfl | (simp; done) | (simp [*]; done), by repeat (first | exact Drawn0.refl _ | apply Drawn0.step)⟩
  · rw [if_neg c3] at H
    have c3b0 : ((l0.length : Int) == (l1.length : Int)) = false := beq_eq_false_iff_ne.mpr c3
    have c3b1 : ((l0.length : Int) != (l1.length : Int)) = true := bne_iff_ne.mpr c3
    have c3b2 : (l0.length == l1.length) = false := by first | simpa using c3 | (simp at c3 ⊢; omega)
    obtain rfl := Option.some.inj H
    go_enter Tryd.func17, Tryd.ntmps17
    go_wp2
    repeat (go_quiet (fail); try go_wp2)
    go_ret
    exact ⟨by first | rfl | (simp; done) | (simp [*]; done), by repeat (first | exact Drawn0.refl _ | apply Drawn0.step)⟩

/-! ### crossroadslaw22_TarWrites: function 3 -/
mutual
def crossroadslaw22_TarWrites.j0 : Nat → List (S37) → List Int → Int → Bool → Option (Bool)
  | 0, _, _, _, _ => none
  | k + 1, x0, x3, x4, x36 => if x36 = true then (none) else (if x4 = 0 then ((tar_Read.f k x3).bind fun bt239 => (crossroadslaw22_TarWrites.l0 k x0 bt239.1 bt239.2 0)) else (some true))
def crossroadslaw22_TarWrites.l0 : Nat → List (S37) → List (S44) → Int → Int → Option (Bool)
  | 0, _, _, _, _ => none
  | k + 1, x0, x7, x8, x9 => if x9 < (x0.length : Int) then (if 0 ≤ x9 then ((crossroadsref22_Head.f ((rd_T37 x0 x9).f0) ((rd_T37 x0 x9).f1) ((rd_T37 x0 x9).f2)).bind fun t245 => ((tar_Sum.f k t245).bind fun t248 => ((crossroadsref22_Sum.f k t245).bind fun t249 => (if t248 = t249 then (crossroadslaw22_TarWrites.l0 k x0 x7 x8 (wrap64 (x9 + 1))) else (none))))) else (none)) else (if x8 = 0 then ((crossroadslaw22_same.f k x7 x0).bind fun t243 => (some t243)) else (none))
end
def crossroadslaw22_TarWrites.f (k : Nat) (l0 : List (S37)) : Option (Bool) := (crossroadslaw22_awake.f k).bind fun t226 => (if t226 = true then ((crossroadslaw22_Small.f k l0).bind fun t227 => (if t227 = true then ((crossroadslaw22_Made.f k l0).bind fun t228 => ((tar_Write.f k t228).bind fun bt231 => ((crossroadsref22_Write.f k l0).bind fun bt235 => (if bt231.2 = bt235.2 then (crossroadslaw22_TarWrites.j0 k l0 bt231.1 bt231.2 ((strOfNums bt231.1).toList != (strOfNums bt235.1).toList)) else (crossroadslaw22_TarWrites.j0 k l0 bt231.1 bt231.2 true))))) else (some true))) else (none))
theorem crossroadslaw22_TarWrites.mono_l : ∀ k, (∀ y0 y1 y2 y3, LeO (crossroadslaw22_TarWrites.j0 k y0 y1 y2 y3) (crossroadslaw22_TarWrites.j0 (k + 1) y0 y1 y2 y3)) ∧ (∀ y0 y1 y2 y3, LeO (crossroadslaw22_TarWrites.l0 k y0 y1 y2 y3) (crossroadslaw22_TarWrites.l0 (k + 1) y0 y1 y2 y3))
  | 0 => ⟨fun _ _ _ _ r h => by simp [crossroadslaw22_TarWrites.j0] at h, fun _ _ _ _ r h => by simp [crossroadslaw22_TarWrites.l0] at h⟩
  | k + 1 => by
    obtain ⟨ih0, ih1⟩ := crossroadslaw22_TarWrites.mono_l k
    refine ⟨?_, ?_⟩
    · intro y0 y1 y2 y3
      unfold crossroadslaw22_TarWrites.j0
      repeat' first
      | (with_reducible exact ih0 _ _ _ _)
      | (with_reducible exact ih1 _ _ _ _)
      | (with_reducible exact crossroadslaw22_Made.mono _ _)
      | (with_reducible exact crossroadslaw22_Small.mono _ _)
      | (with_reducible exact crossroadslaw22_awake.mono _)
      | (with_reducible exact crossroadslaw22_same.mono _ _ _)
      | (with_reducible exact crossroadsref22_Sum.mono _ _)
      | (with_reducible exact crossroadsref22_Write.mono _ _)
      | (with_reducible exact tar_Read.mono _ _)
      | (with_reducible exact tar_Sum.mono _ _)
      | (with_reducible exact tar_Write.mono _ _)
      | (with_reducible exact LeO.refl _)
      | (with_reducible exact LeO.none _)
      | (with_reducible refine LeO.ite ?_ ?_)
      | (with_reducible refine LeO.bind ?_ (fun _ => ?_))
      | exact ih0 _ _ _ _
      | exact ih1 _ _ _ _
      | exact crossroadslaw22_Made.mono _ _
      | exact crossroadslaw22_Small.mono _ _
      | exact crossroadslaw22_awake.mono _
      | exact crossroadslaw22_same.mono _ _ _
      | exact crossroadsref22_Sum.mono _ _
      | exact crossroadsref22_Write.mono _ _
      | exact tar_Read.mono _ _
      | exact tar_Sum.mono _ _
      | exact tar_Write.mono _ _
      | exact LeO.none _
      | refine LeO.ite ?_ ?_
      | refine LeO.bind ?_ (fun _ => ?_)
    · intro y0 y1 y2 y3
      unfold crossroadslaw22_TarWrites.l0
      repeat' first
      | (with_reducible exact ih0 _ _ _ _)
      | (with_reducible exact ih1 _ _ _ _)
      | (with_reducible exact crossroadslaw22_Made.mono _ _)
      | (with_reducible exact crossroadslaw22_Small.mono _ _)
      | (with_reducible exact crossroadslaw22_awake.mono _)
      | (with_reducible exact crossroadslaw22_same.mono _ _ _)
      | (with_reducible exact crossroadsref22_Sum.mono _ _)
      | (with_reducible exact crossroadsref22_Write.mono _ _)
      | (with_reducible exact tar_Read.mono _ _)
      | (with_reducible exact tar_Sum.mono _ _)
      | (with_reducible exact tar_Write.mono _ _)
      | (with_reducible exact LeO.refl _)
      | (with_reducible exact LeO.none _)
      | (with_reducible refine LeO.ite ?_ ?_)
      | (with_reducible refine LeO.bind ?_ (fun _ => ?_))
      | exact ih0 _ _ _ _
      | exact ih1 _ _ _ _
      | exact crossroadslaw22_Made.mono _ _
      | exact crossroadslaw22_Small.mono _ _
      | exact crossroadslaw22_awake.mono _
      | exact crossroadslaw22_same.mono _ _ _
      | exact crossroadsref22_Sum.mono _ _
      | exact crossroadsref22_Write.mono _ _
      | exact tar_Read.mono _ _
      | exact tar_Sum.mono _ _
      | exact tar_Write.mono _ _
      | exact LeO.none _
      | refine LeO.ite ?_ ?_
      | refine LeO.bind ?_ (fun _ => ?_)
theorem crossroadslaw22_TarWrites.mono : ∀ a0 k, LeO (crossroadslaw22_TarWrites.f k a0) (crossroadslaw22_TarWrites.f (k + 1) a0) := by
  intro a0 k
  obtain ⟨ih0, ih1⟩ := crossroadslaw22_TarWrites.mono_l k
  unfold crossroadslaw22_TarWrites.f
  repeat' first
      | (with_reducible exact ih0 _ _ _ _)
      | (with_reducible exact ih1 _ _ _ _)
      | (with_reducible exact crossroadslaw22_Made.mono _ _)
      | (with_reducible exact crossroadslaw22_Small.mono _ _)
      | (with_reducible exact crossroadslaw22_awake.mono _)
      | (with_reducible exact crossroadslaw22_same.mono _ _ _)
      | (with_reducible exact crossroadsref22_Sum.mono _ _)
      | (with_reducible exact crossroadsref22_Write.mono _ _)
      | (with_reducible exact tar_Read.mono _ _)
      | (with_reducible exact tar_Sum.mono _ _)
      | (with_reducible exact tar_Write.mono _ _)
      | (with_reducible exact LeO.refl _)
      | (with_reducible exact LeO.none _)
      | (with_reducible refine LeO.ite ?_ ?_)
      | (with_reducible refine LeO.bind ?_ (fun _ => ?_))
      | exact ih0 _ _ _ _
      | exact ih1 _ _ _ _
      | exact crossroadslaw22_Made.mono _ _
      | exact crossroadslaw22_Small.mono _ _
      | exact crossroadslaw22_awake.mono _
      | exact crossroadslaw22_same.mono _ _ _
      | exact crossroadsref22_Sum.mono _ _
      | exact crossroadsref22_Write.mono _ _
      | exact tar_Read.mono _ _
      | exact tar_Sum.mono _ _
      | exact tar_Write.mono _ _
      | exact LeO.none _
      | refine LeO.ite ?_ ?_
      | refine LeO.bind ?_ (fun _ => ?_)
set_option maxHeartbeats 8000000 in
set_option maxRecDepth 100000 in
theorem crossroadslaw22_TarWrites.calls (k : Nat) (A0 : Option Addr) (c0 : Nat) (l0 : List (S37)) (r : Bool) (w : World) (hr0 : Kd.C k37 w A0 l0.length l0) (hc0 : l0.length ≤ c0) (h : crossroadslaw22_TarWrites.f k l0 = some r) :
    Calls Tryd.prog 3 #[.slice A0 l0.length c0] w fun e w' => e = .returned (.bool r) ∧ Below w.heap.size w w' := by
  have hu37 := Tryd.underlying37
  have HR0 := Aside0.mk hr0
  have HC0 := Aside0.mk hc0
  clear hr0 hc0
  have HB := Aside0.mk (Below.refl w.heap.size w)
  have H : ((crossroadslaw22_awake.f k).bind fun t226 => (if t226 = true then ((crossroadslaw22_Small.f k l0).bind fun t227 => (if t227 = true then ((crossroadslaw22_Made.f k l0).bind fun t228 => ((tar_Write.f k t228).bind fun bt231 => ((crossroadsref22_Write.f k l0).bind fun bt235 => (if bt231.2 = bt235.2 then (crossroadslaw22_TarWrites.j0 k l0 bt231.1 bt231.2 ((strOfNums bt231.1).toList != (strOfNums bt235.1).toList)) else (crossroadslaw22_TarWrites.j0 k l0 bt231.1 bt231.2 true))))) else (some true))) else (none))) = some r := h
  clear h
  replace H := Option.bind_eq_some_iff.mp H
  obtain ⟨t226, A20, H⟩ := H
  replace H : (if t226 = true then ((crossroadslaw22_Small.f k l0).bind fun t227 => (if t227 = true then ((crossroadslaw22_Made.f k l0).bind fun t228 => ((tar_Write.f k t228).bind fun bt231 => ((crossroadsref22_Write.f k l0).bind fun bt235 => (if bt231.2 = bt235.2 then (crossroadslaw22_TarWrites.j0 k l0 bt231.1 bt231.2 ((strOfNums bt231.1).toList != (strOfNums bt235.1).toList)) else (crossroadslaw22_TarWrites.j0 k l0 bt231.1 bt231.2 true))))) else (some true))) else (none)) = some r := H
  have A2 := Aside0.mk A20
  clear A20
  by_cases c3 : t226 = true
  · subst c3
    have H1 : ((crossroadslaw22_Small.f k l0).bind fun t227 => (if t227 = true then ((crossroadslaw22_Made.f k l0).bind fun t228 => ((tar_Write.f k t228).bind fun bt231 => ((crossroadsref22_Write.f k l0).bind fun bt235 => (if bt231.2 = bt235.2 then (crossroadslaw22_TarWrites.j0 k l0 bt231.1 bt231.2 ((strOfNums bt231.1).toList != (strOfNums bt235.1).toList)) else (crossroadslaw22_TarWrites.j0 k l0 bt231.1 bt231.2 true))))) else (some true))) = some r := by rw [if_pos rfl] at H; exact H
    clear H
    have H := H1
    clear H1
    replace H := Option.bind_eq_some_iff.mp H
    obtain ⟨t227, A40, H⟩ := H
    replace H : (if t227 = true then ((crossroadslaw22_Made.f k l0).bind fun t228 => ((tar_Write.f k t228).bind fun bt231 => ((crossroadsref22_Write.f k l0).bind fun bt235 => (if bt231.2 = bt235.2 then (crossroadslaw22_TarWrites.j0 k l0 bt231.1 bt231.2 ((strOfNums bt231.1).toList != (strOfNums bt235.1).toList)) else (crossroadslaw22_TarWrites.j0 k l0 bt231.1 bt231.2 true))))) else (some true)) = some r := H
    have A4 := Aside0.mk A40
    clear A40
    by_cases c5 : t227 = true
    · subst c5
      have H1 : ((crossroadslaw22_Made.f k l0).bind fun t228 => ((tar_Write.f k t228).bind fun bt231 => ((crossroadsref22_Write.f k l0).bind fun bt235 => (if bt231.2 = bt235.2 then (crossroadslaw22_TarWrites.j0 k l0 bt231.1 bt231.2 ((strOfNums bt231.1).toList != (strOfNums bt235.1).toList)) else (crossroadslaw22_TarWrites.j0 k l0 bt231.1 bt231.2 true))))) = some r := by rw [if_pos rfl] at H; exact H
      clear H
      have H := H1
      clear H1
      replace H := Option.bind_eq_some_iff.mp H
      obtain ⟨t228, A60, H⟩ := H
      replace H : ((tar_Write.f k t228).bind fun bt231 => ((crossroadsref22_Write.f k l0).bind fun bt235 => (if bt231.2 = bt235.2 then (crossroadslaw22_TarWrites.j0 k l0 bt231.1 bt231.2 ((strOfNums bt231.1).toList != (strOfNums bt235.1).toList)) else (crossroadslaw22_TarWrites.j0 k l0 bt231.1 bt231.2 true)))) = some r := H
      have A6 := Aside0.mk A60
      clear A60
      replace H := Option.bind_eq_some_iff.mp H
      obtain ⟨⟨t231, t232⟩, A70, H⟩ := H
      replace H : ((crossroadsref22_Write.f k l0).bind fun bt235 => (if t232 = bt235.2 then (crossroadslaw22_TarWrites.j0 k l0 t231 t232 ((strOfNums t231).toList != (strOfNums bt235.1).toList)) else (crossroadslaw22_TarWrites.j0 k l0 t231 t232 true))) = some r := H
      have A7 := Aside0.mk A70
      clear A70
      replace H := Option.bind_eq_some_iff.mp H
      obtain ⟨⟨t235, t236⟩, A80, H⟩ := H
      replace H : (if t232 = t236 then (crossroadslaw22_TarWrites.j0 k l0 t231 t232 ((strOfNums t231).toList != (strOfNums t235).toList)) else (crossroadslaw22_TarWrites.j0 k l0 t231 t232 true)) = some r := H
      have A8 := Aside0.mk A80
      clear A80
      have HC9 := Aside0.mk H
      clear H
      go_enter Tryd.func3, Tryd.ntmps3
      go_upto_region 7 with (first | ((with_reducible refine gate_callee (f := 8) rfl ?_); refine goesL_ (some 11) rfl rfl Tryd.func8 (by kernel_rfl) rfl #[] rfl (by (try simp only [List.map_toArray, List.map_cons, List.map_nil]); first | done | rfl | (simp only [List.length_drop, List.length_take]; rfl)) ?_; (with_reducible refine (crossroadslaw22_awake.calls k  true _ A2.out).mono ?_); rintro e w10 ⟨rfl, hb⟩; refine ⟨_, rfl, ?_⟩; have n0_ := Aside0.mk (below_step (by repeat (first | (with_reducible first | exact HB.out | apply below_alloc | apply pw_below_drewN | apply below_drew1) | exact HB.out)) hb); clear HB; have HB := n0_; clear n0_; (try clear hb); (try clear hb2); (try clear hk); (try clear hi)) | ((with_reducible refine gate_callee (f := 9) rfl ?_); refine goesL_ (some 14) rfl rfl Tryd.func9 (by kernel_rfl) rfl #[.slice A0 l0.length c0] rfl (by (try simp only [List.map_toArray, List.map_cons, List.map_nil]); first | done | rfl | (simp only [List.length_drop, List.length_take]; rfl)) ?_; (with_reducible refine (crossroadslaw22_Small.calls k _ _ l0 true _ ?side1 ?side2 A4.out).mono ?_); (case side1 => repeat (first | exact (Kd.C_below HR0.out HB.out) | (with_reducible refine Kd.C_alloc ?_ _) | (with_reducible refine Kd.C_drewN ?_ _) | (with_reducible refine Kd.C_drew ?_))); (case side2 => exact HC0.out); rintro e w' ⟨rfl, ⟨nd, rfl⟩⟩; refine ⟨_, rfl, ?_⟩) | ((with_reducible refine gate_callee (f := 11) rfl ?_); refine goesL_ (some 18) rfl rfl Tryd.func11 (by kernel_rfl) rfl #[.slice A0 l0.length c0] rfl (by (try simp only [List.map_toArray, List.map_cons, List.map_nil]); first | done | rfl | (simp only [List.length_drop, List.length_take]; rfl)) ?_; (with_reducible refine (crossroadslaw22_Made.calls k (fun k_ => k_ < w.heap.size) _ _ l0 t228 _ ?side1 A6.out).mono ?_); (case side1 => exact Kd.V_mk HC0.out (Kd.F_below (Kd.C_F k37_heap HR0.out) (by repeat (first | (with_reducible first | exact HB.out | apply below_alloc | apply pw_below_drewN | apply below_drew1) | exact HB.out)))); rintro e w11 ⟨v229, rfl, ho0, hb⟩; refine ⟨_, rfl, ?_⟩; have n0_ := Aside0.mk (Kd.N_lower (Kd.N_mono (ok' := fun k_ => True) ho0 (fun k_ hk_ => trivial)) (below_size (by repeat (first | (with_reducible first | exact HB.out | apply below_alloc | apply pw_below_drewN | apply below_drew1) | exact HB.out)))); have n1_ := Aside0.mk (below_step (by repeat (first | (with_reducible first | exact HB.out | apply below_alloc | apply pw_below_drewN | apply below_drew1) | exact HB.out)) hb); clear HB; have HO230 := n0_; have HB := n1_; clear n0_ n1_; (try clear hb); (try clear hb2); (try clear hk); (try clear hi); (try clear ho0); obtain ⟨Ao12, co12, eo12⟩ := Kd.N_slice HO230.out; subst eo12) | ((with_reducible refine gate_callee (f := 10) rfl ?_); refine goesL_ (some 19) rfl rfl Tryd.func10 (by kernel_rfl) rfl #[.slice Ao12 t228.length co12] rfl (by (try simp only [List.map_toArray, List.map_cons, List.map_nil]); first | done | rfl | (simp only [List.length_drop, List.length_take]; rfl)) ?_; (with_reducible refine (tar_Write.calls k _ _ t228 t231 t232 _ ?side1 ?side2 A7.out).mono ?_); (case side1 => repeat (first | exact (Kd.N_reads' HO230.out).2.2 | (with_reducible refine Kd.C_alloc ?_ _) | (with_reducible refine Kd.C_drewN ?_ _) | (with_reducible refine Kd.C_drew ?_))); (case side2 => exact (Kd.N_reads' HO230.out).2.1); rintro e w13 ⟨v233, rfl, ho0, hb⟩; refine ⟨_, rfl, ?_⟩; have n0_ := Aside0.mk (Kd.N_elder' (by (with_reducible repeat (first | apply Kd.N_alloc | apply Kd.N_drewN | apply Kd.N_drew)); exact HO230.out) (Kd.R_base ho0) hb); have n1_ := Aside0.mk (Kd.R_lower ho0 (below_size (by repeat (first | (with_reducible first | exact HB.out | apply below_alloc | apply pw_below_drewN | apply below_drew1) | exact HB.out)))); have n2_ := Aside0.mk (below_step (by repeat (first | (with_reducible first | exact HB.out | apply below_alloc | apply pw_below_drewN | apply below_drew1) | exact HB.out)) hb); clear HO230; clear HB; have HO230 := n0_; have HO234 := n1_; have HB := n2_; clear n0_ n1_ n2_; (try clear hb); (try clear hb2); (try clear hk); (try clear hi); (try clear ho0)) | ((with_reducible refine gate_callee (f := 12) rfl ?_); refine goesL_ (some 24) rfl rfl Tryd.func12 (by kernel_rfl) rfl #[.slice A0 l0.length c0] rfl (by (try simp only [List.map_toArray, List.map_cons, List.map_nil]); first | done | rfl | (simp only [List.length_drop, List.length_take]; rfl)) ?_; (with_reducible refine (crossroadsref22_Write.calls k _ _ l0 t235 t236 _ ?side1 ?side2 A8.out).mono ?_); (case side1 => repeat (first | exact (Kd.C_below HR0.out HB.out) | (with_reducible refine Kd.C_alloc ?_ _) | (with_reducible refine Kd.C_drewN ?_ _) | (with_reducible refine Kd.C_drew ?_))); (case side2 => exact HC0.out); rintro e w14 ⟨v237, rfl, ho0, hb⟩; refine ⟨_, rfl, ?_⟩; have n0_ := Aside0.mk (Kd.N_elder' (by (with_reducible repeat (first | apply Kd.N_alloc | apply Kd.N_drewN | apply Kd.N_drew)); exact HO230.out) (Kd.R_base ho0) hb); have n1_ := Aside0.mk (Kd.R_elder' (by (with_reducible repeat (first | apply Kd.R_alloc | apply Kd.R_drewN | apply Kd.R_drew)); exact HO234.out) (Kd.R_base ho0) hb); have n2_ := Aside0.mk (Kd.R_lower (Kd.R_new' ho0 (Kd.R_lt (by (with_reducible repeat (first | apply Kd.R_alloc | apply Kd.R_drewN | apply Kd.R_drew)); exact HO234.out))) (below_size (by repeat (first | (with_reducible first | exact HB.out | apply below_alloc | apply pw_below_drewN | apply below_drew1) | exact HB.out)))); have n3_ := Aside0.mk (below_step (by repeat (first | (with_reducible first | exact HB.out | apply below_alloc | apply pw_below_drewN | apply below_drew1) | exact HB.out)) hb); clear HO230; clear HO234; clear HB; have HO230 := n0_; have HO234 := n1_; have HO238 := n2_; have HB := n3_; clear n0_ n1_ n2_ n3_; (try clear hb); (try clear hb2); (try clear hk); (try clear hi); (try clear ho0)))
      (try simp only [Act.put, List.setIfInBounds_toArray, List.set_cons_zero, List.set_cons_succ])
      go_cut [36] (fun v36 wc => ∃ (kq : Nat) (x36_8 : Bool), v36 = .bool x36_8 ∧ Aside0 (crossroadslaw22_TarWrites.j0 kq l0 t231 t232 x36_8 = some r) ∧ Aside0 (kq ≤ k) ∧ Aside0 (Kd.R (Kd.int .u8) 5 wc w.heap.size (fun _ => True) v233 t231) ∧ Aside0 (Below w.heap.size w wc))
      case first =>
        have H := HC9.out
        clear HC9
        by_cases c15 : t232 = t236
        · rw [if_pos c15] at H
          have c15b0 : (t232 == t236) = true := beq_iff_eq.mpr c15
          have c15b1 : (t232 != t236) = false := bne_eq_false_iff_eq.mpr c15
          clear c15
          (first | rw [c15b0] | (simp only [i64_w, i32_w]; rw [c15b0]) | (rw [c15b2]; (try simp only [Bool.not_true, Bool.not_false])) | skip)
          have H' := Aside0.mk H
          clear H
          have hcv16 := own_string (P := Tryd.prog) Tryd.underlying25 Tryd.underlying5 Tryd.underlying9 (Kd.own_of_R HO234.out)
          have hcv17 := own_string (P := Tryd.prog) Tryd.underlying25 Tryd.underlying5 Tryd.underlying9 (Kd.own_of_R HO238.out)
          go_wp2
          go_meet
          case rel => exact ⟨_, (((strOfNums t231).toList != (strOfNums t235).toList)), (by first | rfl | (simp; done) | (simp [*]; done)), H', ⟨by first | omega | exact Nat.le_refl _⟩, ⟨by (with_reducible repeat (first | apply Kd.R_alloc | apply Kd.R_drewN | apply Kd.R_drew)); exact Kd.R_mono HO234.out (fun _ hk => trivial)⟩, ⟨by repeat (first | (with_reducible first | exact HB.out | apply below_alloc | apply pw_below_drewN | apply below_drew1) | exact HB.out)⟩⟩
        · rw [if_neg c15] at H
          have c15b0 : (t232 == t236) = false := beq_eq_false_iff_ne.mpr c15
          have c15b1 : (t232 != t236) = true := bne_iff_ne.mpr c15
          (first | rw [c15b0] | (simp only [i64_w, i32_w]; rw [c15b0]) | (rw [c15b2]; (try simp only [Bool.not_true, Bool.not_false])) | skip)
          have H' := Aside0.mk H
          clear H
          go_wp2
          go_meet
          case rel => exact ⟨_, (true), (by first | rfl | (simp; done) | (simp [*]; done)), H', ⟨by first | omega | exact Nat.le_refl _⟩, ⟨by (with_reducible repeat (first | apply Kd.R_alloc | apply Kd.R_drewN | apply Kd.R_drew)); exact Kd.R_mono HO234.out (fun _ hk => trivial)⟩, ⟨by repeat (first | (with_reducible first | exact HB.out | apply below_alloc | apply pw_below_drewN | apply below_drew1) | exact HB.out)⟩⟩
      case rest =>
        clear HC9
        try clear c1
        try clear hcv1
        try clear p2
        try clear c3
        try clear c5
        try clear c8
        try clear c9
        try clear c10
        try clear c11
        try clear c12
        try clear c15
        try clear c15b0
        try clear c15b1
        try clear c15b2
        try clear hcv16
        try clear hcv17
        obtain ⟨kq, x36_8, rfl, HA, HJ8, HO_3, HB⟩ := hcut
        cases kq with
        | zero => exact absurd HA.out (by simp [crossroadslaw22_TarWrites.j0])
        | succ kj8 =>
          have H := HA.out
          clear HA
          simp only [crossroadslaw22_TarWrites.j0] at H
          by_cases c18 : x36_8 = true
          · subst c18
            have H1 : (none) = some r := by rw [if_pos rfl] at H; exact H
            clear H
            have H := H1
            clear H1
            exact absurd H (by simp)
          · replace c18 := Bool.eq_false_iff.mpr c18
            subst c18
            have H1 : (if t232 = 0 then ((tar_Read.f kj8 t231).bind fun bt239 => (crossroadslaw22_TarWrites.l0 kj8 l0 bt239.1 bt239.2 0)) else (some true)) = some r := by rw [if_neg (show ¬ (false = true) by decide)] at H; exact H
            clear H
            have H := H1
            clear H1
            by_cases c19 : t232 = 0
            · rw [if_pos c19] at H
              have c19b0 : (t232 == 0) = true := beq_iff_eq.mpr c19
              have c19b1 : (t232 != 0) = false := bne_eq_false_iff_eq.mpr c19
              clear c19
              replace H := Option.bind_eq_some_iff.mp H
              obtain ⟨⟨t239, t242⟩, A200, H⟩ := H
              replace H : (crossroadslaw22_TarWrites.l0 kj8 l0 t239 t242 0) = some r := H
              have A20 := Aside0.mk A200
              clear A200
              have H' := Aside0.mk H
              clear H
              obtain ⟨Ao21, co21, eo21⟩ := Kd.R_slice HO_3.out
              subst eo21
              go_wp2_with (first | ((with_reducible refine gate_callee (f := 13) rfl ?_); refine goesL_ (some 41) rfl rfl Tryd.func13 (by kernel_rfl) rfl #[.slice Ao21 t231.length co21] rfl (by (try simp only [List.map_toArray, List.map_cons, List.map_nil]); first | done | rfl | (simp only [List.length_drop, List.length_take]; rfl)) ?_; (with_reducible refine (tar_Read.calls kj8 (fun k_ => some k_ = (.slice Ao21 t231.length co21 : Value).ownBlock) _ _ t231 t239 t242 _ ?side1 A20.out).mono ?_); (case side1 => exact Kd.R_V (Kd.R_tight rfl (HO_3.out))); rintro e w22 ⟨v240, rfl, ho0, hb⟩; refine ⟨_, rfl, ?_⟩; replace ho0 := Kd.S_N (Kd.S_mono (ok' := fun k_ => (fun k_ => some k_ = (.slice Ao21 t231.length co21 : Value).ownBlock) k_ ∨ _ ≤ k_) ho0 (fun k_ hk_ => Or.inr hk_)); have n0_ := Aside0.mk (Kd.R_below (by (with_reducible repeat (first | apply Kd.R_alloc | apply Kd.R_drewN | apply Kd.R_drew)); exact HO_3.out) hb); have n1_ := Aside0.mk (Kd.N_lower (Kd.N_mono (ok' := fun k_ => True) ho0 (fun k_ hk_ => trivial)) (below_size (by repeat (first | (with_reducible first | exact HB.out | apply below_alloc | apply pw_below_drewN | apply below_drew1) | exact HB.out)))); have n2_ := Aside0.mk (below_step (by repeat (first | (with_reducible first | exact HB.out | apply below_alloc | apply pw_below_drewN | apply below_drew1) | exact HB.out)) hb); clear HO_3; clear HB; have HO_3 := n0_; have HO241 := n1_; have HB := n2_; clear n0_ n1_ n2_; (try clear hb); (try clear hb2); (try clear hk); (try clear hi); (try clear ho0)))
              go_loopg [9] kj8 (fun kq v9 w' => ∃ (x9_2 : Int), v9 = .int .i64 x9_2 ∧ Aside0 (crossroadslaw22_TarWrites.l0 kq l0 t239 t242 x9_2 = some r) ∧ Aside0 (kq ≤ kj8) ∧ Aside0 (Kd.N k44 44 w' w.heap.size (fun _ => True) v240 t239) ∧ Aside0 (Below w.heap.size w w'))
              case atStart => exact ⟨(0), (by first | rfl | (simp; done) | (simp [*]; done)), H', ⟨Nat.le_refl _⟩, ⟨by (with_reducible repeat (first | apply Kd.N_alloc | apply Kd.N_drewN | apply Kd.N_drew)); exact HO241.out⟩, ⟨by repeat (first | (with_reducible first | exact HB.out | apply below_alloc | apply pw_below_drewN | apply below_drew1) | exact HB.out)⟩⟩
              case round =>
                clear H'
                try clear c1
                try clear hcv1
                try clear p2
                try clear c3
                try clear c5
                try clear c8
                try clear c9
                try clear c10
                try clear c11
                try clear c12
                try clear c13
                try clear c15
                try clear c15b0
                try clear c15b1
                try clear c15b2
                try clear hcv16
                try clear hcv17
                try clear c18
                try clear c19
                try clear c19b0
                try clear c19b1
                try clear p2
                obtain ⟨x9_2, rfl, HA, HK2, HO_7, HB⟩ := hrel
                cases gk with
                | zero => exact absurd HA.out (by simp [crossroadslaw22_TarWrites.l0])
                | succ k2 =>
                  have H := HA.out
                  clear HA
                  simp only [crossroadslaw22_TarWrites.l0] at H
                  by_cases c23 : x9_2 < (l0.length : Int)
                  · rw [if_pos c23] at H
                    have c23b0 : decide (x9_2 < (l0.length : Int)) = true := decide_eq_true c23
                    clear c23
                    by_cases c24 : 0 ≤ x9_2
                    · rw [if_pos c24] at H
                      have c24b0 : decide (0 ≤ x9_2) = true := decide_eq_true c24
                      clear c24
                      replace H := Option.bind_eq_some_iff.mp H
                      obtain ⟨t245, A250, H⟩ := H
                      replace H : ((tar_Sum.f k2 t245).bind fun t248 => ((crossroadsref22_Sum.f k2 t245).bind fun t249 => (if t248 = t249 then (crossroadslaw22_TarWrites.l0 k2 l0 t239 t242 (wrap64 (x9_2 + 1))) else (none)))) = some r := H
                      have A25 := Aside0.mk A250
                      clear A250
                      replace H := Option.bind_eq_some_iff.mp H
                      obtain ⟨t248, A260, H⟩ := H
                      replace H : ((crossroadsref22_Sum.f k2 t245).bind fun t249 => (if t248 = t249 then (crossroadslaw22_TarWrites.l0 k2 l0 t239 t242 (wrap64 (x9_2 + 1))) else (none))) = some r := H
                      have A26 := Aside0.mk A260
                      clear A260
                      replace H := Option.bind_eq_some_iff.mp H
                      obtain ⟨t249, A270, H⟩ := H
                      replace H : (if t248 = t249 then (crossroadslaw22_TarWrites.l0 k2 l0 t239 t242 (wrap64 (x9_2 + 1))) else (none)) = some r := H
                      have A27 := Aside0.mk A270
                      clear A270
                      by_cases c28 : t248 = t249
                      · rw [if_pos c28] at H
                        have c28b0 : (t248 == t249) = true := beq_iff_eq.mpr c28
                        have c28b1 : (t248 != t249) = false := bne_eq_false_iff_eq.mpr c28
                        clear c28
                        have H' := Aside0.mk H
                        clear H
                        have p244 : 0 ≤ (x9_2 : Int) := of_decide_eq_true (by first | (with_reducible assumption) | assumption)
                        have q244 : x9_2 < (l0.length : Int) := of_decide_eq_true (by first | (with_reducible assumption) | assumption)
                        obtain ⟨ad244, A244_2, c244_2, e244, hx244_0, hx244_1, hx244_2, hl244_2, hi244_2⟩ := at_T37 HR0.out x9_2 p244 q244
                        cases e244
                        replace hx244_0 := (HB.out.cell (World.block_lt_of_cell? w _ hx244_0)).trans hx244_0
                        replace hx244_1 := (HB.out.cell (World.block_lt_of_cell? w _ hx244_1)).trans hx244_1
                        replace hx244_2 := (HB.out.cell (World.block_lt_of_cell? w _ hx244_2)).trans hx244_2
                        have HR244_2 := Aside0.mk hi244_2
                        have HC244_2 := Aside0.mk hl244_2
                        clear hi244_2 hl244_2
                        replace p244 := eq_true p244
                        replace q244 := eq_true q244
                        go_wp2_with (first | ((with_reducible refine gate_callee (f := 14) rfl ?_); refine goesL_ (some 54) rfl rfl Tryd.func14 (by kernel_rfl) rfl #[.agg #[.string ((rd_T37 l0 x9_2).f0), .bool ((rd_T37 l0 x9_2).f1), .slice A244_2 ((rd_T37 l0 x9_2).f2).length c244_2]] rfl (by (try simp only [List.map_toArray, List.map_cons, List.map_nil]); first | done | rfl | (simp only [List.length_drop, List.length_take]; rfl)) ?_; (with_reducible refine (crossroadsref22_Head.calls ((rd_T37 l0 x9_2).f0) ((rd_T37 l0 x9_2).f1) _ _ ((rd_T37 l0 x9_2).f2) t245 _ ?side1 ?side2 A25.out).mono ?_); (case side1 => repeat (first | exact (Kd.C_below HR244_2.out HB.out) | (with_reducible refine Kd.C_alloc ?_ _) | (with_reducible refine Kd.C_drewN ?_ _) | (with_reducible refine Kd.C_drew ?_))); (case side2 => exact HC244_2.out); rintro e w29 ⟨v246, rfl, ho0, hb⟩; refine ⟨_, rfl, ?_⟩; have n0_ := Aside0.mk (Kd.N_elder' (by (with_reducible repeat (first | apply Kd.N_alloc | apply Kd.N_drewN | apply Kd.N_drew)); exact HO_7.out) (Kd.R_base ho0) hb); have n1_ := Aside0.mk (Kd.R_lower ho0 (below_size (by repeat (first | (with_reducible first | exact HB.out | apply below_alloc | apply pw_below_drewN | apply below_drew1) | exact HB.out)))); have n2_ := Aside0.mk (below_step (by repeat (first | (with_reducible first | exact HB.out | apply below_alloc | apply pw_below_drewN | apply below_drew1) | exact HB.out)) hb); clear HO_7; clear HB; have HO_7 := n0_; have HO247 := n1_; have HB := n2_; clear n0_ n1_ n2_; (try clear hb); (try clear hb2); (try clear hk); (try clear hi); (try clear ho0); obtain ⟨Ao30, co30, eo30⟩ := Kd.R_slice HO247.out; subst eo30) | ((with_reducible refine gate_callee (f := 15) rfl ?_); refine goesL_ (some 56) rfl rfl Tryd.func15 (by kernel_rfl) rfl #[.slice Ao30 t245.length co30] rfl (by (try simp only [List.map_toArray, List.map_cons, List.map_nil]); first | done | rfl | (simp only [List.length_drop, List.length_take]; rfl)) ?_; (with_reducible refine (tar_Sum.calls k2 _ _ t245 t248 _ ?side1 ?side2 A26.out).mono ?_); (case side1 => repeat (first | exact (Kd.R_reads' HO247.out).2.2 | (with_reducible refine Kd.C_alloc ?_ _) | (with_reducible refine Kd.C_drewN ?_ _) | (with_reducible refine Kd.C_drew ?_))); (case side2 => exact (Kd.R_reads' HO247.out).2.1); rintro e w' ⟨rfl, ⟨nd, rfl⟩⟩; refine ⟨_, rfl, ?_⟩) | ((with_reducible refine gate_callee (f := 16) rfl ?_); refine goesL_ (some 58) rfl rfl Tryd.func16 (by kernel_rfl) rfl #[.slice Ao30 t245.length co30] rfl (by (try simp only [List.map_toArray, List.map_cons, List.map_nil]); first | done | rfl | (simp only [List.length_drop, List.length_take]; rfl)) ?_; (with_reducible refine (crossroadsref22_Sum.calls k2 _ _ t245 t249 _ ?side1 ?side2 A27.out).mono ?_); (case side1 => repeat (first | exact (Kd.R_reads' HO247.out).2.2 | (with_reducible refine Kd.C_alloc ?_ _) | (with_reducible refine Kd.C_drewN ?_ _) | (with_reducible refine Kd.C_drew ?_))); (case side2 => exact (Kd.R_reads' HO247.out).2.1); rintro e w' ⟨rfl, ⟨nd, rfl⟩⟩; refine ⟨_, rfl, ?_⟩))
                        go_roundg k2
                        case measure => have := HJ8.out; have := HK2.out; omega
                        case rel => exact ⟨(wrap64 (x9_2 + 1)), (by first | rfl | (simp; done) | (simp [*]; done)), H', ⟨by have := HJ8.out; have := HK2.out; omega⟩, ⟨by (with_reducible repeat (first | apply Kd.N_alloc | apply Kd.N_drewN | apply Kd.N_drew)); exact Kd.N_mono HO_7.out (fun _ hk => trivial)⟩, ⟨by repeat (first | (with_reducible first | exact HB.out | apply below_alloc | apply pw_below_drewN | apply below_drew1) | exact HB.out)⟩⟩
                      · rw [if_neg c28] at H
                        exact absurd H (by simp)
                    · rw [if_neg c24] at H
                      exact absurd H (by simp)
                  · rw [if_neg c23] at H
                    have c23b0 : decide (x9_2 < (l0.length : Int)) = false := decide_eq_false c23
                    clear c23
                    by_cases c31 : t242 = 0
                    · rw [if_pos c31] at H
                      have c31b0 : (t242 == 0) = true := beq_iff_eq.mpr c31
                      have c31b1 : (t242 != 0) = false := bne_eq_false_iff_eq.mpr c31
                      clear c31
                      replace H := Option.bind_eq_some_iff.mp H
                      obtain ⟨t243, A320, H⟩ := H
                      replace H : (some t243) = some r := H
                      have A32 := Aside0.mk A320
                      clear A320
                      obtain rfl := Option.some.inj H
                      obtain ⟨Ao33, co33, eo33⟩ := Kd.N_slice HO_7.out
                      subst eo33
                      go_wp2_with (first | (go_at_call 17; (with_reducible refine (crossroadslaw22_same.calls k2 _ _ t239 _ _ l0 t243 _ ?side1 ?side2 ?side3 ?side4 A32.out).mono ?_); (case side1 => repeat (first | exact (Kd.N_reads' HO_7.out).2.2 | (with_reducible refine Kd.C_alloc ?_ _) | (with_reducible refine Kd.C_drewN ?_ _) | (with_reducible refine Kd.C_drew ?_))); (case side2 => exact (Kd.N_reads' HO_7.out).2.1); (case side3 => repeat (first | exact (Kd.C_below HR0.out HB.out) | (with_reducible refine Kd.C_alloc ?_ _) | (with_reducible refine Kd.C_drewN ?_ _) | (with_reducible refine Kd.C_drew ?_))); (case side4 => exact HC0.out); rintro e w' ⟨rfl, ⟨nd, rfl⟩⟩))
                      go_ret
                      exact ⟨by first | rfl | (simp [errW_none, errW_some] <;> rfl) | (simp [*, errW_none, errW_some] <;> rfl), by repeat (first | (with_reducible first | exact HB.out | apply below_alloc | apply pw_below_drewN | apply below_drew1) | exact HB.out)⟩
                    · rw [if_neg c31] at H
                      exact absurd H (by simp)
            · rw [if_neg c19] at H
              have c19b0 : (t232 == 0) = false := beq_eq_false_iff_ne.mpr c19
              have c19b1 : (t232 != 0) = true := bne_iff_ne.mpr c19
              obtain rfl := Option.some.inj H
              go_wp2
              go_ret
              exact ⟨by first | rfl | (simp [errW_none, errW_some] <;> rfl) | (simp [*, errW_none, errW_some] <;> rfl), by repeat (first | (with_reducible first | exact HB.out | apply below_alloc | apply pw_below_drewN | apply below_drew1) | exact HB.out)⟩
    · replace c5 := Bool.eq_false_iff.mpr c5
      subst c5
      have H1 : (some true) = some r := by rw [if_neg (show ¬ (false = true) by decide)] at H; exact H
      clear H
      have H := H1
      clear H1
      obtain rfl := Option.some.inj H
      go_enter Tryd.func3, Tryd.ntmps3
      go_wp2_with (first | ((with_reducible refine gate_callee (f := 8) rfl ?_); refine goesL_ (some 11) rfl rfl Tryd.func8 (by kernel_rfl) rfl #[] rfl (by (try simp only [List.map_toArray, List.map_cons, List.map_nil]); first | done | rfl | (simp only [List.length_drop, List.length_take]; rfl)) ?_; (with_reducible refine (crossroadslaw22_awake.calls k  true _ A2.out).mono ?_); rintro e w34 ⟨rfl, hb⟩; refine ⟨_, rfl, ?_⟩; have n0_ := Aside0.mk (below_step (by repeat (first | (with_reducible first | exact HB.out | apply below_alloc | apply pw_below_drewN | apply below_drew1) | exact HB.out)) hb); clear HB; have HB := n0_; clear n0_; (try clear hb); (try clear hb2); (try clear hk); (try clear hi)) | ((with_reducible refine gate_callee (f := 9) rfl ?_); refine goesL_ (some 14) rfl rfl Tryd.func9 (by kernel_rfl) rfl #[.slice A0 l0.length c0] rfl (by (try simp only [List.map_toArray, List.map_cons, List.map_nil]); first | done | rfl | (simp only [List.length_drop, List.length_take]; rfl)) ?_; (with_reducible refine (crossroadslaw22_Small.calls k _ _ l0 false _ ?side1 ?side2 A4.out).mono ?_); (case side1 => repeat (first | exact (Kd.C_below HR0.out HB.out) | (with_reducible refine Kd.C_alloc ?_ _) | (with_reducible refine Kd.C_drewN ?_ _) | (with_reducible refine Kd.C_drew ?_))); (case side2 => exact HC0.out); rintro e w' ⟨rfl, ⟨nd, rfl⟩⟩; refine ⟨_, rfl, ?_⟩))
      go_ret
      exact ⟨by first | rfl | (simp [errW_none, errW_some] <;> rfl) | (simp [*, errW_none, errW_some] <;> rfl), by repeat (first | (with_reducible first | exact HB.out | apply below_alloc | apply pw_below_drewN | apply below_drew1) | exact HB.out)⟩
  · replace c3 := Bool.eq_false_iff.mpr c3
    subst c3
    have H1 : (none) = some r := by rw [if_neg (show ¬ (false = true) by decide)] at H; exact H
    clear H
    have H := H1
    clear H1
    exact absurd H (by simp)

/-- THE ONE PURE STATEMENT of crossroadslaw22_TarWrites. -/
def crossroadslaw22_TarWrites.Pure : Prop := ∀ (l0 : List (S37)), (l0.length * 48 ≤ 140737488351232 ∧ l0.length ≤ 9223372036854775807 ∧ ∀ y1_ ∈ l0, (y1_.f0.size ≤ 140737488351232 ∧ (True ∧ (y1_.f2.length * 1 ≤ 140737488351232 ∧ y1_.f2.length ≤ 9223372036854775807 ∧ ∀ y2_ ∈ y1_.f2, (Lit.int .u8 y2_).wf = true)))) → ∃ k, crossroadslaw22_TarWrites.f k l0 = some true

end Go.Proofs.YtlnogacjebbepaaDoor.P
