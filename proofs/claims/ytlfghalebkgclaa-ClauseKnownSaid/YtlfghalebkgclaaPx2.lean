-- Laid by a program of this session (the kit's print, changed): Lean checks it.
import Derived.Test.YtlfghalebkgclaaPx0
namespace Go.Proofs.Ytlfghalebkgclaa.G
end Go.Proofs.Ytlfghalebkgclaa.G
namespace Go.Proofs.Ytlfghalebkgclaa.P
open Go.Proofs.Ytlfghalebkgclaa.G
open Go.RowKit Go.Proofs.YtlfghalebkgclaaW.PrintWords Go.Proofs.YtlfghalebkgclaaW.PrintLast Go.Proofs.YtlfghalebkgclaaW.PrintMore
attribute [local go_sem] max2_int min2_int max_two min_two max_three min_three max_four min_four   -- for this text's walks alone
set_option linter.unusedVariables false
set_option linter.unusedSimpArgs false

/-! ### crossroadsref1_FormulaMay: function 16 -/
mutual
def crossroadsref1_FormulaMay.j0 : Nat → Int → List (List Int) → Bool → Option (Bool)
  | 0, _, _, _ => none
  | k + 1, x0, x1, x13 => if x13 = true then (some false) else (crossroadsref1_FormulaMay.l0 k x0 x1 0)
def crossroadsref1_FormulaMay.l0 : Nat → Int → List (List Int) → Int → Option (Bool)
  | 0, _, _, _ => none
  | k + 1, x0, x1, x5 => if x5 < (x1.length : Int) then (crossroadsref1_FormulaMay.l1 k x0 x1 x5 0) else (some true)
def crossroadsref1_FormulaMay.l1 : Nat → Int → List (List Int) → Int → Int → Option (Bool)
  | 0, _, _, _, _ => none
  | k + 1, x0, x1, x5, x6 => if 0 ≤ x5 then (if x5 < (x1.length : Int) then (if x6 < ((rd_L1 x1 x5).length : Int) then (if 0 ≤ x6 then (if (rd (rd_L1 x1 x5) x6) = 0 then (some false) else (if (rd (rd_L1 x1 x5) x6) > x0 then (some false) else (if (rd (rd_L1 x1 x5) x6) < (wrap64 (-x0)) then (some false) else (crossroadsref1_FormulaMay.l1 k x0 x1 x5 (wrap64 (x6 + 1)))))) else (none)) else (crossroadsref1_FormulaMay.l0 k x0 x1 (wrap64 (x5 + 1)))) else (none)) else (none)
end
def crossroadsref1_FormulaMay.f (k : Nat) (a0 : Int) (l1 : List (List Int)) : Option (Bool) := if a0 < 0 then (crossroadsref1_FormulaMay.j0 k a0 l1 true) else (crossroadsref1_FormulaMay.j0 k a0 l1 (decide (a0 > 65536)))
theorem crossroadsref1_FormulaMay.mono_l : ∀ k, (∀ y0 y1 y2, LeO (crossroadsref1_FormulaMay.j0 k y0 y1 y2) (crossroadsref1_FormulaMay.j0 (k + 1) y0 y1 y2)) ∧ (∀ y0 y1 y2, LeO (crossroadsref1_FormulaMay.l0 k y0 y1 y2) (crossroadsref1_FormulaMay.l0 (k + 1) y0 y1 y2)) ∧ (∀ y0 y1 y2 y3, LeO (crossroadsref1_FormulaMay.l1 k y0 y1 y2 y3) (crossroadsref1_FormulaMay.l1 (k + 1) y0 y1 y2 y3))
  | 0 => ⟨fun _ _ _ r h => by simp [crossroadsref1_FormulaMay.j0] at h, fun _ _ _ r h => by simp [crossroadsref1_FormulaMay.l0] at h, fun _ _ _ _ r h => by simp [crossroadsref1_FormulaMay.l1] at h⟩
  | k + 1 => by
    obtain ⟨ih0, ih1, ih2⟩ := crossroadsref1_FormulaMay.mono_l k
    refine ⟨?_, ?_, ?_⟩
    · intro y0 y1 y2
      unfold crossroadsref1_FormulaMay.j0
      repeat' first
      | (with_reducible exact ih0 _ _ _)
      | (with_reducible exact ih1 _ _ _)
      | (with_reducible exact ih2 _ _ _ _)
      | (with_reducible exact LeO.refl _)
      | (with_reducible exact LeO.none _)
      | (with_reducible refine LeO.ite ?_ ?_)
      | (with_reducible refine LeO.bind ?_ (fun _ => ?_))
      | exact ih0 _ _ _
      | exact ih1 _ _ _
      | exact ih2 _ _ _ _
      | exact LeO.none _
      | refine LeO.ite ?_ ?_
      | refine LeO.bind ?_ (fun _ => ?_)
    · intro y0 y1 y2
      unfold crossroadsref1_FormulaMay.l0
      repeat' first
      | (with_reducible exact ih0 _ _ _)
      | (with_reducible exact ih1 _ _ _)
      | (with_reducible exact ih2 _ _ _ _)
      | (with_reducible exact LeO.refl _)
      | (with_reducible exact LeO.none _)
      | (with_reducible refine LeO.ite ?_ ?_)
      | (with_reducible refine LeO.bind ?_ (fun _ => ?_))
      | exact ih0 _ _ _
      | exact ih1 _ _ _
      | exact ih2 _ _ _ _
      | exact LeO.none _
      | refine LeO.ite ?_ ?_
      | refine LeO.bind ?_ (fun _ => ?_)
    · intro y0 y1 y2 y3
      unfold crossroadsref1_FormulaMay.l1
      repeat' first
      | (with_reducible exact ih0 _ _ _)
      | (with_reducible exact ih1 _ _ _)
      | (with_reducible exact ih2 _ _ _ _)
      | (with_reducible exact LeO.refl _)
      | (with_reducible exact LeO.none _)
      | (with_reducible refine LeO.ite ?_ ?_)
      | (with_reducible refine LeO.bind ?_ (fun _ => ?_))
      | exact ih0 _ _ _
      | exact ih1 _ _ _
      | exact ih2 _ _ _ _
      | exact LeO.none _
      | refine LeO.ite ?_ ?_
      | refine LeO.bind ?_ (fun _ => ?_)
theorem crossroadsref1_FormulaMay.mono : ∀ a0 a1 k, LeO (crossroadsref1_FormulaMay.f k a0 a1) (crossroadsref1_FormulaMay.f (k + 1) a0 a1) := by
  intro a0 a1 k
  obtain ⟨ih0, ih1, ih2⟩ := crossroadsref1_FormulaMay.mono_l k
  unfold crossroadsref1_FormulaMay.f
  repeat' first
      | (with_reducible exact ih0 _ _ _)
      | (with_reducible exact ih1 _ _ _)
      | (with_reducible exact ih2 _ _ _ _)
      | (with_reducible exact LeO.refl _)
      | (with_reducible exact LeO.none _)
      | (with_reducible refine LeO.ite ?_ ?_)
      | (with_reducible refine LeO.bind ?_ (fun _ => ?_))
      | exact ih0 _ _ _
      | exact ih1 _ _ _
      | exact ih2 _ _ _ _
      | exact LeO.none _
      | refine LeO.ite ?_ ?_
      | refine LeO.bind ?_ (fun _ => ?_)
set_option maxHeartbeats 8000000 in
set_option maxRecDepth 100000 in
theorem crossroadsref1_FormulaMay.calls (k : Nat) (a0 : Int) (A1 : Option Addr) (c1 : Nat) (l1 : List (List Int)) (r : Bool) (w : World) (hr1 : Kd.C (Kd.slice 3 (Kd.int .i64)) w A1 l1.length l1) (hc1 : l1.length ≤ c1) (h : crossroadsref1_FormulaMay.f k a0 l1 = some r) :
    Calls Try.prog 16 #[.int .i64 a0, .slice A1 l1.length c1] w fun e w' => e = .returned (.bool r) ∧ Drawn0 w w' := by
  have HR1 := Aside0.mk hr1
  have HC1 := Aside0.mk hc1
  clear hr1 hc1
  have H : (if a0 < 0 then (crossroadsref1_FormulaMay.j0 k a0 l1 true) else (crossroadsref1_FormulaMay.j0 k a0 l1 (decide (a0 > 65536)))) = some r := h
  clear h
  have HC3 := Aside0.mk H
  clear H
  go_enter Try.func16, Try.ntmps16
  go_upto_region 1 with (fail)
  go_cut [13] (fun v13 wc => ∃ (kq : Nat) (x13_2 : Bool), v13 = .bool x13_2 ∧ Aside0 (crossroadsref1_FormulaMay.j0 kq a0 l1 x13_2 = some r) ∧ Aside0 (kq ≤ k) ∧ Drawn0 w wc)
  case first =>
    have H := HC3.out
    clear HC3
    by_cases c4 : a0 < 0
    · rw [if_pos c4] at H
      have c4b0 : decide (a0 < 0) = true := decide_eq_true c4
      clear c4
      (first | rw [c4b0] | (simp only [i64_w, i32_w]; rw [c4b0]) | (rw [c4b2]; (try simp only [Bool.not_true, Bool.not_false])) | skip)
      have H' := Aside0.mk H
      clear H
      go_wp2
      go_meet
      case rel => exact ⟨_, (true), (by first | rfl | (simp; done) | (simp [*]; done)), H', ⟨by first | omega | exact Nat.le_refl _⟩, by repeat (first | exact Drawn0.refl _ | apply Drawn0.step)⟩
    · rw [if_neg c4] at H
      have c4b0 : decide (a0 < 0) = false := decide_eq_false c4
      clear c4
      (first | rw [c4b0] | (simp only [i64_w, i32_w]; rw [c4b0]) | (rw [c4b2]; (try simp only [Bool.not_true, Bool.not_false])) | skip)
      have H' := Aside0.mk H
      clear H
      go_wp2
      go_meet
      case rel => exact ⟨_, (decide (a0 > 65536)), (by first | rfl | (simp; done) | (simp [*]; done)), H', ⟨by first | omega | exact Nat.le_refl _⟩, by repeat (first | exact Drawn0.refl _ | apply Drawn0.step)⟩
  case rest =>
    clear HC3
    try clear c1
    try clear p2
    try clear c4
    try clear c4b0
    try clear c4b2
    obtain ⟨kq, x13_2, rfl, HA, HJ2, ⟨mc2, rfl⟩⟩ := hcut
    cases kq with
    | zero => exact absurd HA.out (by simp [crossroadsref1_FormulaMay.j0])
    | succ kj2 =>
      have H := HA.out
      clear HA
      simp only [crossroadsref1_FormulaMay.j0] at H
      by_cases c5 : x13_2 = true
      · subst c5
        have H1 : (some false) = some r := by rw [if_pos rfl] at H; exact H
        clear H
        have H := H1
        clear H1
        obtain rfl := Option.some.inj H
        go_wp2
        go_ret
        exact ⟨by first | rfl | (simp; done) | (simp [*]; done), by repeat (first | exact Drawn0.refl _ | apply Drawn0.step)⟩
      · replace c5 := Bool.eq_false_iff.mpr c5
        subst c5
        have H1 : (crossroadsref1_FormulaMay.l0 kj2 a0 l1 0) = some r := by rw [if_neg (show ¬ (false = true) by decide)] at H; exact H
        clear H
        have H := H1
        clear H1
        have H' := Aside0.mk H
        clear H
        go_wp2
        go_loopg [5] kj2 (fun kq v5 w' => ∃ (x5_2 : Int), v5 = .int .i64 x5_2 ∧ Aside0 (crossroadsref1_FormulaMay.l0 kq a0 l1 x5_2 = some r) ∧ Aside0 (kq ≤ kj2) ∧ Drawn0 w w')
        case atStart => exact ⟨(0), (by first | rfl | (simp; done) | (simp [*]; done)), H', ⟨Nat.le_refl _⟩, by repeat (first | exact Drawn0.refl _ | apply Drawn0.step)⟩
        case round =>
          clear H'
          try clear c1
          try clear c2
          try clear p2
          try clear c4
          try clear c4b0
          try clear c4b2
          try clear c5
          try clear p2
          obtain ⟨x5_2, rfl, HA, HK2, ⟨m2, rfl⟩⟩ := hrel
          cases gk with
          | zero => exact absurd HA.out (by simp [crossroadsref1_FormulaMay.l0])
          | succ k2 =>
            have H := HA.out
            clear HA
            simp only [crossroadsref1_FormulaMay.l0] at H
            by_cases c6 : x5_2 < (l1.length : Int)
            · rw [if_pos c6] at H
              have c6b0 : decide (x5_2 < (l1.length : Int)) = true := decide_eq_true c6
              clear c6
              have H' := Aside0.mk H
              clear H
              go_wp2
              go_loopg [6] k2 (fun kq v6 w' => ∃ (x6_3 : Int), v6 = .int .i64 x6_3 ∧ Aside0 (crossroadsref1_FormulaMay.l1 kq a0 l1 x5_2 x6_3 = some r) ∧ Aside0 (kq ≤ k2) ∧ Drawn0 w w')
              case atStart => exact ⟨(0), (by first | rfl | (simp; done) | (simp [*]; done)), H', ⟨Nat.le_refl _⟩, by repeat (first | exact Drawn0.refl _ | apply Drawn0.step)⟩
              case round =>
                clear H'
                try clear c1
                try clear c2
                try clear p2
                try clear c4
                try clear c4b0
                try clear c4b2
                try clear c5
                try clear c6
                try clear c6b0
                try clear p2
                obtain ⟨x6_3, rfl, HA, HK3, ⟨m3, rfl⟩⟩ := hrel
                cases gk with
                | zero => exact absurd HA.out (by simp [crossroadsref1_FormulaMay.l1])
                | succ k3 =>
                  have H := HA.out
                  clear HA
                  simp only [crossroadsref1_FormulaMay.l1] at H
                  by_cases c7 : 0 ≤ x5_2
                  · rw [if_pos c7] at H
                    have c7b0 : decide (0 ≤ x5_2) = true := decide_eq_true c7
                    clear c7
                    by_cases c8 : x5_2 < (l1.length : Int)
                    · rw [if_pos c8] at H
                      have c8b0 : decide (x5_2 < (l1.length : Int)) = true := decide_eq_true c8
                      clear c8
                      by_cases c9 : x6_3 < ((rd_L1 l1 x5_2).length : Int)
                      · rw [if_pos c9] at H
                        have c9b0 : decide (x6_3 < ((rd_L1 l1 x5_2).length : Int)) = true := decide_eq_true c9
                        clear c9
                        by_cases c10 : 0 ≤ x6_3
                        · rw [if_pos c10] at H
                          have c10b0 : decide (0 ≤ x6_3) = true := decide_eq_true c10
                          clear c10
                          by_cases c11 : (rd (rd_L1 l1 x5_2) x6_3) = 0
                          · rw [if_pos c11] at H
                            have c11b0 : ((rd (rd_L1 l1 x5_2) x6_3) == 0) = true := beq_iff_eq.mpr c11
                            have c11b1 : ((rd (rd_L1 l1 x5_2) x6_3) != 0) = false := bne_eq_false_iff_eq.mpr c11
                            clear c11
                            obtain rfl := Option.some.inj H
                            have p137 : 0 ≤ (x5_2 : Int) := of_decide_eq_true (by first | (with_reducible assumption) | assumption)
                            have q137 : x5_2 < (l1.length : Int) := of_decide_eq_true (by first | (with_reducible assumption) | assumption)
                            obtain ⟨ad137, A137_0, c137_0, e137, hx137_0, hl137_0, hi137_0⟩ := at_L1 HR1.out x5_2 p137 q137
                            cases e137
                            have HR137_0 := Aside0.mk hi137_0
                            have HC137_0 := Aside0.mk hl137_0
                            clear hi137_0 hl137_0
                            replace p137 := eq_true p137
                            replace q137 := eq_true q137
                            have p138 : 0 ≤ (x5_2 : Int) := of_decide_eq_true (by first | (with_reducible assumption) | assumption)
                            have q138 : x5_2 < (l1.length : Int) := of_decide_eq_true (by first | (with_reducible assumption) | assumption)
                            obtain ⟨ad138, A138_0, c138_0, e138, hx138_0, hl138_0, hi138_0⟩ := at_L1 HR1.out x5_2 p138 q138
                            obtain rfl : ad137 = ad138 := (by injection e138)
                            have HR138_0 := Aside0.mk hi138_0
                            have HC138_0 := Aside0.mk hl138_0
                            clear hi138_0 hl138_0
                            replace p138 := eq_true p138
                            replace q138 := eq_true q138
                            have ea_ := Option.some.inj (hx137_0.symm.trans hx138_0)
                            injection ea_ with ea_ en_ ec_
                            subst ea_
                            subst ec_
                            clear en_
                            have p139 : 0 ≤ (x6_3 : Int) := of_decide_eq_true (by first | (with_reducible assumption) | assumption)
                            have q139 : x6_3 < ((rd_L1 l1 x5_2).length : Int) := of_decide_eq_true (by first | (with_reducible assumption) | assumption)
                            obtain ⟨ad139, e139, hx139_0⟩ := Kd.at_int HR138_0.out x6_3 p139 q139
                            cases e139
                            replace p139 := eq_true p139
                            replace q139 := eq_true q139
                            go_wp2
                            go_ret
                            exact ⟨by first | rfl | (simp; done) | (simp [*]; done), by repeat (first | exact Drawn0.refl _ | apply Drawn0.step)⟩
                          · rw [if_neg c11] at H
                            have c11b0 : ((rd (rd_L1 l1 x5_2) x6_3) == 0) = false := beq_eq_false_iff_ne.mpr c11
                            have c11b1 : ((rd (rd_L1 l1 x5_2) x6_3) != 0) = true := bne_iff_ne.mpr c11
                            by_cases c12 : (rd (rd_L1 l1 x5_2) x6_3) > a0
                            · rw [if_pos c12] at H
                              have c12b0 : decide (a0 < (rd (rd_L1 l1 x5_2) x6_3)) = true := decide_eq_true c12
                              clear c12
                              obtain rfl := Option.some.inj H
                              have p137 : 0 ≤ (x5_2 : Int) := of_decide_eq_true (by first | (with_reducible assumption) | assumption)
                              have q137 : x5_2 < (l1.length : Int) := of_decide_eq_true (by first | (with_reducible assumption) | assumption)
                              obtain ⟨ad137, A137_0, c137_0, e137, hx137_0, hl137_0, hi137_0⟩ := at_L1 HR1.out x5_2 p137 q137
                              cases e137
                              have HR137_0 := Aside0.mk hi137_0
                              have HC137_0 := Aside0.mk hl137_0
                              clear hi137_0 hl137_0
                              replace p137 := eq_true p137
                              replace q137 := eq_true q137
                              have p138 : 0 ≤ (x5_2 : Int) := of_decide_eq_true (by first | (with_reducible assumption) | assumption)
                              have q138 : x5_2 < (l1.length : Int) := of_decide_eq_true (by first | (with_reducible assumption) | assumption)
                              obtain ⟨ad138, A138_0, c138_0, e138, hx138_0, hl138_0, hi138_0⟩ := at_L1 HR1.out x5_2 p138 q138
                              obtain rfl : ad137 = ad138 := (by injection e138)
                              have HR138_0 := Aside0.mk hi138_0
                              have HC138_0 := Aside0.mk hl138_0
                              clear hi138_0 hl138_0
                              replace p138 := eq_true p138
                              replace q138 := eq_true q138
                              have ea_ := Option.some.inj (hx137_0.symm.trans hx138_0)
                              injection ea_ with ea_ en_ ec_
                              subst ea_
                              subst ec_
                              clear en_
                              have p139 : 0 ≤ (x6_3 : Int) := of_decide_eq_true (by first | (with_reducible assumption) | assumption)
                              have q139 : x6_3 < ((rd_L1 l1 x5_2).length : Int) := of_decide_eq_true (by first | (with_reducible assumption) | assumption)
                              obtain ⟨ad139, e139, hx139_0⟩ := Kd.at_int HR138_0.out x6_3 p139 q139
                              cases e139
                              replace p139 := eq_true p139
                              replace q139 := eq_true q139
                              go_wp2
                              go_ret
                              exact ⟨by first | rfl | (simp; done) | (simp [*]; done), by repeat (first | exact Drawn0.refl _ | apply Drawn0.step)⟩
                            · rw [if_neg c12] at H
                              have c12b0 : decide (a0 < (rd (rd_L1 l1 x5_2) x6_3)) = false := decide_eq_false c12
                              clear c12
                              by_cases c13 : (rd (rd_L1 l1 x5_2) x6_3) < (wrap64 (-a0))
                              · rw [if_pos c13] at H
                                have c13b0 : decide ((rd (rd_L1 l1 x5_2) x6_3) < (wrap64 (-a0))) = true := decide_eq_true c13
                                clear c13
                                obtain rfl := Option.some.inj H
                                have p137 : 0 ≤ (x5_2 : Int) := of_decide_eq_true (by first | (with_reducible assumption) | assumption)
                                have q137 : x5_2 < (l1.length : Int) := of_decide_eq_true (by first | (with_reducible assumption) | assumption)
                                obtain ⟨ad137, A137_0, c137_0, e137, hx137_0, hl137_0, hi137_0⟩ := at_L1 HR1.out x5_2 p137 q137
                                cases e137
                                have HR137_0 := Aside0.mk hi137_0
                                have HC137_0 := Aside0.mk hl137_0
                                clear hi137_0 hl137_0
                                replace p137 := eq_true p137
                                replace q137 := eq_true q137
                                have p138 : 0 ≤ (x5_2 : Int) := of_decide_eq_true (by first | (with_reducible assumption) | assumption)
                                have q138 : x5_2 < (l1.length : Int) := of_decide_eq_true (by first | (with_reducible assumption) | assumption)
                                obtain ⟨ad138, A138_0, c138_0, e138, hx138_0, hl138_0, hi138_0⟩ := at_L1 HR1.out x5_2 p138 q138
                                obtain rfl : ad137 = ad138 := (by injection e138)
                                have HR138_0 := Aside0.mk hi138_0
                                have HC138_0 := Aside0.mk hl138_0
                                clear hi138_0 hl138_0
                                replace p138 := eq_true p138
                                replace q138 := eq_true q138
                                have ea_ := Option.some.inj (hx137_0.symm.trans hx138_0)
                                injection ea_ with ea_ en_ ec_
                                subst ea_
                                subst ec_
                                clear en_
                                have p139 : 0 ≤ (x6_3 : Int) := of_decide_eq_true (by first | (with_reducible assumption) | assumption)
                                have q139 : x6_3 < ((rd_L1 l1 x5_2).length : Int) := of_decide_eq_true (by first | (with_reducible assumption) | assumption)
                                obtain ⟨ad139, e139, hx139_0⟩ := Kd.at_int HR138_0.out x6_3 p139 q139
                                cases e139
                                replace p139 := eq_true p139
                                replace q139 := eq_true q139
                                go_wp2
                                go_ret
                                exact ⟨by first | rfl | (simp; done) | (simp [*]; done), by repeat (first | exact Drawn0.refl _ | apply Drawn0.step)⟩
                              · rw [if_neg c13] at H
                                have c13b0 : decide ((rd (rd_L1 l1 x5_2) x6_3) < (wrap64 (-a0))) = false := decide_eq_false c13
                                clear c13
                                have H' := Aside0.mk H
                                clear H
                                have p137 : 0 ≤ (x5_2 : Int) := of_decide_eq_true (by first | (with_reducible assumption) | assumption)
                                have q137 : x5_2 < (l1.length : Int) := of_decide_eq_true (by first | (with_reducible assumption) | assumption)
                                obtain ⟨ad137, A137_0, c137_0, e137, hx137_0, hl137_0, hi137_0⟩ := at_L1 HR1.out x5_2 p137 q137
                                cases e137
                                have HR137_0 := Aside0.mk hi137_0
                                have HC137_0 := Aside0.mk hl137_0
                                clear hi137_0 hl137_0
                                replace p137 := eq_true p137
                                replace q137 := eq_true q137
                                have p138 : 0 ≤ (x5_2 : Int) := of_decide_eq_true (by first | (with_reducible assumption) | assumption)
                                have q138 : x5_2 < (l1.length : Int) := of_decide_eq_true (by first | (with_reducible assumption) | assumption)
                                obtain ⟨ad138, A138_0, c138_0, e138, hx138_0, hl138_0, hi138_0⟩ := at_L1 HR1.out x5_2 p138 q138
                                obtain rfl : ad137 = ad138 := (by injection e138)
                                have HR138_0 := Aside0.mk hi138_0
                                have HC138_0 := Aside0.mk hl138_0
                                clear hi138_0 hl138_0
                                replace p138 := eq_true p138
                                replace q138 := eq_true q138
                                have ea_ := Option.some.inj (hx137_0.symm.trans hx138_0)
                                injection ea_ with ea_ en_ ec_
                                subst ea_
                                subst ec_
                                clear en_
                                have p139 : 0 ≤ (x6_3 : Int) := of_decide_eq_true (by first | (with_reducible assumption) | assumption)
                                have q139 : x6_3 < ((rd_L1 l1 x5_2).length : Int) := of_decide_eq_true (by first | (with_reducible assumption) | assumption)
                                obtain ⟨ad139, e139, hx139_0⟩ := Kd.at_int HR138_0.out x6_3 p139 q139
                                cases e139
                                replace p139 := eq_true p139
                                replace q139 := eq_true q139
                                go_wp2
                                go_roundg k3
                                case measure => have := HJ2.out; have := HK2.out; have := HK3.out; omega
                                case rel => exact ⟨(wrap64 (x6_3 + 1)), (by first | rfl | (simp; done) | (simp [*]; done)), H', ⟨by have := HJ2.out; have := HK2.out; have := HK3.out; omega⟩, by repeat (first | exact Drawn0.refl _ | apply Drawn0.step)⟩
                        · rw [if_neg c10] at H
                          exact absurd H (by simp)
                      · rw [if_neg c9] at H
                        have c9b0 : decide (x6_3 < ((rd_L1 l1 x5_2).length : Int)) = false := decide_eq_false c9
                        clear c9
                        have H' := Aside0.mk H
                        clear H
                        have p137 : 0 ≤ (x5_2 : Int) := of_decide_eq_true (by first | (with_reducible assumption) | assumption)
                        have q137 : x5_2 < (l1.length : Int) := of_decide_eq_true (by first | (with_reducible assumption) | assumption)
                        obtain ⟨ad137, A137_0, c137_0, e137, hx137_0, hl137_0, hi137_0⟩ := at_L1 HR1.out x5_2 p137 q137
                        cases e137
                        have HR137_0 := Aside0.mk hi137_0
                        have HC137_0 := Aside0.mk hl137_0
                        clear hi137_0 hl137_0
                        replace p137 := eq_true p137
                        replace q137 := eq_true q137
                        go_wp2
                        go_roundg k3
                        case measure => have := HJ2.out; have := HK2.out; have := HK3.out; omega
                        case rel => exact ⟨(wrap64 (x5_2 + 1)), (by first | rfl | (simp; done) | (simp [*]; done)), H', ⟨by have := HJ2.out; have := HK2.out; have := HK3.out; omega⟩, by repeat (first | exact Drawn0.refl _ | apply Drawn0.step)⟩
                    · rw [if_neg c8] at H
                      exact absurd H (by simp)
                  · rw [if_neg c7] at H
                    exact absurd H (by simp)
            · rw [if_neg c6] at H
              have c6b0 : decide (x5_2 < (l1.length : Int)) = false := decide_eq_false c6
              clear c6
              obtain rfl := Option.some.inj H
              go_wp2
              go_ret
              exact ⟨by first | rfl | (simp; done) | (simp [*]; done), by repeat (first | exact Drawn0.refl _ | apply Drawn0.step)⟩

end Go.Proofs.Ytlfghalebkgclaa.P
