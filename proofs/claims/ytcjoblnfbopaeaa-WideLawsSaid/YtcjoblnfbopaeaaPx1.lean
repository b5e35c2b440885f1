-- Laid by a program of this session (the kit's print, changed): Lean checks it.
import Derived.Test.YtcjoblnfbopaeaaPx0
namespace Go.Proofs.Ytcjoblnfbopaeaa.P
open Go.RowKit Go.Proofs.YtcjoblnfbopaeaaW.PrintWords Go.Proofs.YtcjoblnfbopaeaaW.PrintLast Go.Proofs.YtcjoblnfbopaeaaW.PrintMore
attribute [local go_sem] max2_int min2_int max_two min_two max_three min_three max_four min_four   -- for this text's walks alone
set_option linter.unusedVariables false
set_option linter.unusedSimpArgs false

/-! ### wide_May: function 13 -/
def wide_May.f (a0 : Int) : Option (Bool) := if a0 = 1 then (some true) else (if a0 = 8 then (some true) else (some (a0 == 16)))
set_option maxHeartbeats 8000000 in
set_option maxRecDepth 100000 in
theorem wide_May.calls (a0 : Int) (r : Bool) (w : World) (h : wide_May.f a0 = some r) :
    Calls Try.prog 13 #[.int .i64 a0] w fun e w' => e = .returned (.bool r) ∧ Drawn0 w w' := by
  have H : (if a0 = 1 then (some true) else (if a0 = 8 then (some true) else (some (a0 == 16)))) = some r := h
  clear h
  by_cases c2 : a0 = 1
  · rw [if_pos c2] at H
    have c2b0 : (a0 == 1) = true := beq_iff_eq.mpr c2
    have c2b1 : (a0 != 1) = false := bne_eq_false_iff_eq.mpr c2
    clear c2
    obtain rfl := Option.some.inj H
    go_enter Try.func13, Try.ntmps13
    go_wp2
    go_ret
    exact ⟨by first | rfl | (simp; done) | (simp [*]; done), by repeat (first | exact Drawn0.refl _ | apply Drawn0.step)⟩
  · rw [if_neg c2] at H
    have c2b0 : (a0 == 1) = false := beq_eq_false_iff_ne.mpr c2
    have c2b1 : (a0 != 1) = true := bne_iff_ne.mpr c2
    by_cases c3 : a0 = 8
    · rw [if_pos c3] at H
      have c3b0 : (a0 == 8) = true := beq_iff_eq.mpr c3
      have c3b1 : (a0 != 8) = false := bne_eq_false_iff_eq.mpr c3
      clear c3
      obtain rfl := Option.some.inj H
      go_enter Try.func13, Try.ntmps13
      go_wp2
      go_ret
      exact ⟨by first | rfl | (simp; done) | (simp [*]; done), by repeat (first | exact Drawn0.refl _ | apply Drawn0.step)⟩
    · rw [if_neg c3] at H
      have c3b0 : (a0 == 8) = false := beq_eq_false_iff_ne.mpr c3
      have c3b1 : (a0 != 8) = true := bne_iff_ne.mpr c3
      obtain rfl := Option.some.inj H
      go_enter Try.func13, Try.ntmps13
      go_wp2
      go_ret
      exact ⟨by first | rfl | (simp; done) | (simp [*]; done), by repeat (first | exact Drawn0.refl _ | apply Drawn0.step)⟩

/-! ### wide_Mask: function 15 -/
def wide_Mask.f (a0 : Int) : Option (Int) := (wide_May.f a0).bind fun t101 => (if t101 = true then (if 0 ≤ (IntKind.u64.wrap (a0)) then (some (IntKind.u16.wrap ((shl .u16 1 (IntKind.u64.wrap (a0))) - 1))) else (none)) else (some 0))
set_option maxHeartbeats 8000000 in
set_option maxRecDepth 100000 in
theorem wide_Mask.calls (a0 : Int) (r : Int) (w : World) (h : wide_Mask.f a0 = some r) :
    Calls Try.prog 15 #[.int .i64 a0] w fun e w' => e = .returned (.int .u16 r) ∧ Drawn0 w w' := by
  have H : ((wide_May.f a0).bind fun t101 => (if t101 = true then (if 0 ≤ (IntKind.u64.wrap (a0)) then (some (IntKind.u16.wrap ((shl .u16 1 (IntKind.u64.wrap (a0))) - 1))) else (none)) else (some 0))) = some r := h
  clear h
  replace H := Option.bind_eq_some_iff.mp H
  obtain ⟨t101, A20, H⟩ := H
  replace H : (if t101 = true then (if 0 ≤ (IntKind.u64.wrap (a0)) then (some (IntKind.u16.wrap ((shl .u16 1 (IntKind.u64.wrap (a0))) - 1))) else (none)) else (some 0)) = some r := H
  have A2 := Aside0.mk A20
  clear A20
  by_cases c3 : t101 = true
  · subst c3
    have H1 : (if 0 ≤ (IntKind.u64.wrap (a0)) then (some (IntKind.u16.wrap ((shl .u16 1 (IntKind.u64.wrap (a0))) - 1))) else (none)) = some r := by rw [if_pos rfl] at H; exact H
    clear H
    have H := H1
    clear H1
    obtain ⟨ji4, hji4⟩ : ∃ j_ : Int, (IntKind.u64.wrap (a0)) = j_ := ⟨_, rfl⟩
    replace H : (if 0 ≤ (ji4) then (some (IntKind.u16.wrap ((shl .u16 1 (ji4)) - 1))) else (none)) = some r := by first | (rw [hji4] at H; exact H) | (simp only [hji4] at H ⊢; exact H)
    (try rw [hji4] at A2)
    by_cases c5 : 0 ≤ (ji4)
    · rw [if_pos c5] at H
      have c5b0 := eq_true c5
      have c5b1 : decide (0 ≤ (ji4)) = true := decide_eq_true c5
      clear c5
      obtain ⟨ji6, hji6⟩ : ∃ j_ : Int, (shl .u16 1 (ji4)) = j_ := ⟨_, rfl⟩
      replace H : (some (IntKind.u16.wrap ((ji6) - 1))) = some r := by first | (rw [hji6] at H; exact H) | (simp only [hji6] at H ⊢; exact H)
      (try rw [hji6] at A2)
      have hji6_ : (IntKind.u16.wrap (1 * 2 ^ min (ji4).toNat 16)) = ji6 := hji6
      have hji6z : (ji4) ≤ 16 → (IntKind.u16.wrap (1 * 2 ^ (ji4).toNat)) = ji6 := shl_small hji6
      have hji6u : (IntKind.u16.wrap (2 ^ min (ji4).toNat 16)) = ji6 := by have h_ := hji6_; rw [Int.one_mul] at h_; exact h_
      have hji6v : (ji4) ≤ 16 → (IntKind.u16.wrap (2 ^ (ji4).toNat)) = ji6 := fun hle_ => by have h_ := hji6z hle_; rw [Int.one_mul] at h_; exact h_
      obtain rfl := Option.some.inj H
      go_enter Try.func15, Try.ntmps15
      go_wp2_with (first | ((with_reducible refine gate_callee (f := 13) rfl ?_); refine goesL_ (some 4) rfl rfl Try.func13 (by kernel_rfl) rfl #[.int .i64 a0] rfl (by (try simp only [List.map_toArray, List.map_cons, List.map_nil]); first | done | rfl | (simp only [List.length_drop, List.length_take]; rfl)) ?_; (with_reducible refine (wide_May.calls a0 true _ A2.out).mono ?_); rintro e w' ⟨rfl, ⟨nd, rfl⟩⟩; refine ⟨_, rfl, ?_⟩))
      go_ret
      exact ⟨by first | rfl | (simp; done) | (simp only [← hji4, ← hji6] <;> (first | rfl | simp)) | (simp [*]; done), by repeat (first | exact Drawn0.refl _ | apply Drawn0.step)⟩
    · rw [if_neg c5] at H
      exact absurd H (by simp)
  · replace c3 := Bool.eq_false_iff.mpr c3
    subst c3
    have H1 : (some 0) = some r := by rw [if_neg (show ¬ (false = true) by decide)] at H; exact H
    clear H
    have H := H1
    clear H1
    obtain rfl := Option.some.inj H
    go_enter Try.func15, Try.ntmps15
    go_wp2_with (first | ((with_reducible refine gate_callee (f := 13) rfl ?_); refine goesL_ (some 4) rfl rfl Try.func13 (by kernel_rfl) rfl #[.int .i64 a0] rfl (by (try simp only [List.map_toArray, List.map_cons, List.map_nil]); first | done | rfl | (simp only [List.length_drop, List.length_take]; rfl)) ?_; (with_reducible refine (wide_May.calls a0 false _ A2.out).mono ?_); rintro e w' ⟨rfl, ⟨nd, rfl⟩⟩; refine ⟨_, rfl, ?_⟩))
    go_ret
    exact ⟨by first | rfl | (simp; done) | (simp [*]; done), by repeat (first | exact Drawn0.refl _ | apply Drawn0.step)⟩

/-! ### wide_divided: function 22 -/
def wide_divided.f (a0 : Int) (a1 : Int) (a2 : Int) : Option (Int) := if a2 = 0 then ((wide_Mask.f a0).bind fun t102 => (some t102)) else (some (IntKind.u16.wrap (Int.tdiv a1 a2)))
set_option maxHeartbeats 8000000 in
set_option maxRecDepth 100000 in
theorem wide_divided.calls (a0 : Int) (a1 : Int) (a2 : Int) (r : Int) (w : World) (h : wide_divided.f a0 a1 a2 = some r) :
    Calls Try.prog 22 #[.int .i64 a0, .int .u16 a1, .int .u16 a2] w fun e w' => e = .returned (.int .u16 r) ∧ Drawn0 w w' := by
  have H : (if a2 = 0 then ((wide_Mask.f a0).bind fun t102 => (some t102)) else (some (IntKind.u16.wrap (Int.tdiv a1 a2)))) = some r := h
  clear h
  by_cases c4 : a2 = 0
  · rw [if_pos c4] at H
    have c4b0 : (a2 == 0) = true := beq_iff_eq.mpr c4
    have c4b1 : (a2 != 0) = false := bne_eq_false_iff_eq.mpr c4
    clear c4
    replace H := Option.bind_eq_some_iff.mp H
    obtain ⟨t102, A50, H⟩ := H
    replace H : (some t102) = some r := H
    have A5 := Aside0.mk A50
    clear A50
    obtain rfl := Option.some.inj H
    go_enter Try.func22, Try.ntmps22
    go_wp2_with (first | ((with_reducible refine gate_callee (f := 15) rfl ?_); refine goesL_ (some 10) rfl rfl Try.func15 (by kernel_rfl) rfl #[.int .i64 a0] rfl (by (try simp only [List.map_toArray, List.map_cons, List.map_nil]); first | done | rfl | (simp only [List.length_drop, List.length_take]; rfl)) ?_; (with_reducible refine (wide_Mask.calls a0 t102 _ A5.out).mono ?_); rintro e w' ⟨rfl, ⟨nd, rfl⟩⟩; refine ⟨_, rfl, ?_⟩))
    go_ret
    exact ⟨by first | rfl | (simp; done) | (simp [*]; done), by repeat (first | exact Drawn0.refl _ | apply Drawn0.step)⟩
  · rw [if_neg c4] at H
    have c4b0 : (a2 == 0) = false := beq_eq_false_iff_ne.mpr c4
    have c4b1 : (a2 != 0) = true := bne_iff_ne.mpr c4
    obtain rfl := Option.some.inj H
    go_enter Try.func22, Try.ntmps22
    go_wp2
    go_ret
    exact ⟨by first | rfl | (simp; done) | (simp [*]; done), by repeat (first | exact Drawn0.refl _ | apply Drawn0.step)⟩

/-! ### wide_rest: function 23 -/
def wide_rest.f (a0 : Int) (a1 : Int) : Option (Int) := if a1 = 0 then (some a0) else (some (Int.tmod a0 a1))
set_option maxHeartbeats 8000000 in
set_option maxRecDepth 100000 in
theorem wide_rest.calls (a0 : Int) (a1 : Int) (r : Int) (w : World) (h : wide_rest.f a0 a1 = some r) :
    Calls Try.prog 23 #[.int .u16 a0, .int .u16 a1] w fun e w' => e = .returned (.int .u16 r) ∧ Drawn0 w w' := by
  have H : (if a1 = 0 then (some a0) else (some (Int.tmod a0 a1))) = some r := h
  clear h
  by_cases c3 : a1 = 0
  · rw [if_pos c3] at H
    have c3b0 : (a1 == 0) = true := beq_iff_eq.mpr c3
    have c3b1 : (a1 != 0) = false := bne_eq_false_iff_eq.mpr c3
    clear c3
    obtain rfl := Option.some.inj H
    go_enter Try.func23, Try.ntmps23
    go_wp2
    go_ret
    exact ⟨by first | rfl | (simp; done) | (simp [*]; done), by repeat (first | exact Drawn0.refl _ | apply Drawn0.step)⟩
  · rw [if_neg c3] at H
    have c3b0 : (a1 == 0) = false := beq_eq_false_iff_ne.mpr c3
    have c3b1 : (a1 != 0) = true := bne_iff_ne.mpr c3
    obtain rfl := Option.some.inj H
    go_enter Try.func23, Try.ntmps23
    go_wp2
    go_ret
    exact ⟨by first | rfl | (simp; done) | (simp [*]; done), by repeat (first | exact Drawn0.refl _ | apply Drawn0.step)⟩

/-! ### wide_truth: function 24 -/
def wide_truth.f (a0 : Bool) : Option (Int) := if a0 = true then (some 1) else (some 0)
set_option maxHeartbeats 8000000 in
set_option maxRecDepth 100000 in
theorem wide_truth.calls (a0 : Bool) (r : Int) (w : World) (h : wide_truth.f a0 = some r) :
    Calls Try.prog 24 #[.bool a0] w fun e w' => e = .returned (.int .u16 r) ∧ Drawn0 w w' := by
  have H : (if a0 = true then (some 1) else (some 0)) = some r := h
  clear h
  by_cases c2 : a0 = true
  · subst c2
    have H1 : (some 1) = some r := by rw [if_pos rfl] at H; exact H
    clear H
    have H := H1
    clear H1
    obtain rfl := Option.some.inj H
    go_enter Try.func24, Try.ntmps24
    go_wp2
    go_ret
    exact ⟨by first | rfl | (simp; done) | (simp [*]; done), by repeat (first | exact Drawn0.refl _ | apply Drawn0.step)⟩
  · replace c2 := Bool.eq_false_iff.mpr c2
    subst c2
    have H1 : (some 0) = some r := by rw [if_neg (show ¬ (false = true) by decide)] at H; exact H
    clear H
    have H := H1
    clear H1
    obtain rfl := Option.some.inj H
    go_enter Try.func24, Try.ntmps24
    go_wp2
    go_ret
    exact ⟨by first | rfl | (simp; done) | (simp [*]; done), by repeat (first | exact Drawn0.refl _ | apply Drawn0.step)⟩

/-! ### wide_reckon: function 20 -/
def wide_reckon.f (a0 : Int) (a1 : Int) (a2 : Int) (a3 : Int) : Option (Int × Bool) := if a0 = 3 then (some (Go.bits .xor .u16 65535 a2, true)) else (if a0 = 4 then (some (Go.bits .and .u16 a2 a3, true)) else (if a0 = 5 then (some (Go.bits .or .u16 a2 a3, true)) else (if a0 = 6 then (some (Go.bits .xor .u16 a2 a3, true)) else (if a0 = 7 then (some (IntKind.u16.wrap (a2 + a3), true)) else (if a0 = 8 then (some (IntKind.u16.wrap (a2 - a3), true)) else (if a0 = 9 then (some (IntKind.u16.wrap (a2 * a3), true)) else (if a0 = 10 then ((wide_divided.f a1 a2 a3).bind fun t103 => (some (t103, true))) else (if a0 = 11 then ((wide_rest.f a2 a3).bind fun t104 => (some (t104, true))) else (if a0 = 12 then (if 0 ≤ a3 then (some (shl .u16 a2 a3, true)) else (none)) else (if a0 = 13 then (if 0 ≤ a3 then (some (shr .u16 a2 a3, true)) else (none)) else (if a0 = 14 then ((wide_truth.f (a2 == a3)).bind fun t105 => (some (t105, true))) else (if a0 = 15 then ((wide_truth.f (decide (a2 < a3))).bind fun t106 => (some (t106, true))) else (some (0, false))))))))))))))
set_option maxHeartbeats 8000000 in
set_option maxRecDepth 100000 in
theorem wide_reckon.calls (a0 : Int) (a1 : Int) (a2 : Int) (a3 : Int) (r1 : Int) (r2 : Bool) (w : World) (h : wide_reckon.f a0 a1 a2 a3 = some (r1, r2)) :
    Calls Try.prog 20 #[.int .i64 a0, .int .i64 a1, .int .u16 a2, .int .u16 a3] w fun e w' => e = .returned (.tuple #[.int .u16 r1, .bool r2]) ∧ Drawn0 w w' := by
  have H : (if a0 = 3 then (some (Go.bits .xor .u16 65535 a2, true)) else (if a0 = 4 then (some (Go.bits .and .u16 a2 a3, true)) else (if a0 = 5 then (some (Go.bits .or .u16 a2 a3, true)) else (if a0 = 6 then (some (Go.bits .xor .u16 a2 a3, true)) else (if a0 = 7 then (some (IntKind.u16.wrap (a2 + a3), true)) else (if a0 = 8 then (some (IntKind.u16.wrap (a2 - a3), true)) else (if a0 = 9 then (some (IntKind.u16.wrap (a2 * a3), true)) else (if a0 = 10 then ((wide_divided.f a1 a2 a3).bind fun t103 => (some (t103, true))) else (if a0 = 11 then ((wide_rest.f a2 a3).bind fun t104 => (some (t104, true))) else (if a0 = 12 then (if 0 ≤ a3 then (some (shl .u16 a2 a3, true)) else (none)) else (if a0 = 13 then (if 0 ≤ a3 then (some (shr .u16 a2 a3, true)) else (none)) else (if a0 = 14 then ((wide_truth.f (a2 == a3)).bind fun t105 => (some (t105, true))) else (if a0 = 15 then ((wide_truth.f (decide (a2 < a3))).bind fun t106 => (some (t106, true))) else (some (0, false))))))))))))))) = some (r1, r2) := h
  clear h
  by_cases c5 : a0 = 3
  · rw [if_pos c5] at H
    have c5b0 : (a0 == 3) = true := beq_iff_eq.mpr c5
    have c5b1 : (a0 != 3) = false := bne_eq_false_iff_eq.mpr c5
    clear c5
    simp only [Option.some.injEq, Prod.mk.injEq] at H
    obtain ⟨rfl, rfl⟩ := H
    go_enter Try.func20, Try.ntmps20
    go_wp2
    go_ret2
    exact ⟨by first | rfl | (simp; done) | (simp [*]; done), by repeat (first | exact Drawn0.refl _ | apply Drawn0.step)⟩
  · rw [if_neg c5] at H
    have c5b0 : (a0 == 3) = false := beq_eq_false_iff_ne.mpr c5
    have c5b1 : (a0 != 3) = true := bne_iff_ne.mpr c5
    by_cases c6 : a0 = 4
    · rw [if_pos c6] at H
      have c6b0 : (a0 == 4) = true := beq_iff_eq.mpr c6
      have c6b1 : (a0 != 4) = false := bne_eq_false_iff_eq.mpr c6
      clear c6
      simp only [Option.some.injEq, Prod.mk.injEq] at H
      obtain ⟨rfl, rfl⟩ := H
      go_enter Try.func20, Try.ntmps20
      go_wp2
      go_ret2
      exact ⟨by first | rfl | (simp; done) | (simp [*]; done), by repeat (first | exact Drawn0.refl _ | apply Drawn0.step)⟩
    · rw [if_neg c6] at H
      have c6b0 : (a0 == 4) = false := beq_eq_false_iff_ne.mpr c6
      have c6b1 : (a0 != 4) = true := bne_iff_ne.mpr c6
      by_cases c7 : a0 = 5
      · rw [if_pos c7] at H
        have c7b0 : (a0 == 5) = true := beq_iff_eq.mpr c7
        have c7b1 : (a0 != 5) = false := bne_eq_false_iff_eq.mpr c7
        clear c7
        simp only [Option.some.injEq, Prod.mk.injEq] at H
        obtain ⟨rfl, rfl⟩ := H
        go_enter Try.func20, Try.ntmps20
        go_wp2
        go_ret2
        exact ⟨by first | rfl | (simp; done) | (simp [*]; done), by repeat (first | exact Drawn0.refl _ | apply Drawn0.step)⟩
      · rw [if_neg c7] at H
        have c7b0 : (a0 == 5) = false := beq_eq_false_iff_ne.mpr c7
        have c7b1 : (a0 != 5) = true := bne_iff_ne.mpr c7
        by_cases c8 : a0 = 6
        · rw [if_pos c8] at H
          have c8b0 : (a0 == 6) = true := beq_iff_eq.mpr c8
          have c8b1 : (a0 != 6) = false := bne_eq_false_iff_eq.mpr c8
          clear c8
          simp only [Option.some.injEq, Prod.mk.injEq] at H
          obtain ⟨rfl, rfl⟩ := H
          go_enter Try.func20, Try.ntmps20
          go_wp2
          go_ret2
          exact ⟨by first | rfl | (simp; done) | (simp [*]; done), by repeat (first | exact Drawn0.refl _ | apply Drawn0.step)⟩
        · rw [if_neg c8] at H
          have c8b0 : (a0 == 6) = false := beq_eq_false_iff_ne.mpr c8
          have c8b1 : (a0 != 6) = true := bne_iff_ne.mpr c8
          by_cases c9 : a0 = 7
          · rw [if_pos c9] at H
            have c9b0 : (a0 == 7) = true := beq_iff_eq.mpr c9
            have c9b1 : (a0 != 7) = false := bne_eq_false_iff_eq.mpr c9
            clear c9
            simp only [Option.some.injEq, Prod.mk.injEq] at H
            obtain ⟨rfl, rfl⟩ := H
            go_enter Try.func20, Try.ntmps20
            go_wp2
            go_ret2
            exact ⟨by first | rfl | (simp; done) | (simp [*]; done), by repeat (first | exact Drawn0.refl _ | apply Drawn0.step)⟩
          · rw [if_neg c9] at H
            have c9b0 : (a0 == 7) = false := beq_eq_false_iff_ne.mpr c9
            have c9b1 : (a0 != 7) = true := bne_iff_ne.mpr c9
            by_cases c10 : a0 = 8
            · rw [if_pos c10] at H
              have c10b0 : (a0 == 8) = true := beq_iff_eq.mpr c10
              have c10b1 : (a0 != 8) = false := bne_eq_false_iff_eq.mpr c10
              clear c10
              simp only [Option.some.injEq, Prod.mk.injEq] at H
              obtain ⟨rfl, rfl⟩ := H
              go_enter Try.func20, Try.ntmps20
              go_wp2
              go_ret2
              exact ⟨by first | rfl | (simp; done) | (simp [*]; done), by repeat (first | exact Drawn0.refl _ | apply Drawn0.step)⟩
            · rw [if_neg c10] at H
              have c10b0 : (a0 == 8) = false := beq_eq_false_iff_ne.mpr c10
              have c10b1 : (a0 != 8) = true := bne_iff_ne.mpr c10
              by_cases c11 : a0 = 9
              · rw [if_pos c11] at H
                have c11b0 : (a0 == 9) = true := beq_iff_eq.mpr c11
                have c11b1 : (a0 != 9) = false := bne_eq_false_iff_eq.mpr c11
                clear c11
                simp only [Option.some.injEq, Prod.mk.injEq] at H
                obtain ⟨rfl, rfl⟩ := H
                go_enter Try.func20, Try.ntmps20
                go_wp2
                go_ret2
                exact ⟨by first | rfl | (simp; done) | (simp [*]; done), by repeat (first | exact Drawn0.refl _ | apply Drawn0.step)⟩
              · rw [if_neg c11] at H
                have c11b0 : (a0 == 9) = false := beq_eq_false_iff_ne.mpr c11
                have c11b1 : (a0 != 9) = true := bne_iff_ne.mpr c11
                by_cases c12 : a0 = 10
                · rw [if_pos c12] at H
                  have c12b0 : (a0 == 10) = true := beq_iff_eq.mpr c12
                  have c12b1 : (a0 != 10) = false := bne_eq_false_iff_eq.mpr c12
                  clear c12
                  replace H := Option.bind_eq_some_iff.mp H
                  obtain ⟨t103, A130, H⟩ := H
                  replace H : (some (t103, true)) = some (r1, r2) := H
                  have A13 := Aside0.mk A130
                  clear A130
                  simp only [Option.some.injEq, Prod.mk.injEq] at H
                  obtain ⟨rfl, rfl⟩ := H
                  go_enter Try.func20, Try.ntmps20
                  go_wp2_with (first | ((with_reducible refine gate_callee (f := 22) rfl ?_); refine goesL_ (some 50) rfl rfl Try.func22 (by kernel_rfl) rfl #[.int .i64 a1, .int .u16 a2, .int .u16 a3] rfl (by (try simp only [List.map_toArray, List.map_cons, List.map_nil]); first | done | rfl | (simp only [List.length_drop, List.length_take]; rfl)) ?_; (with_reducible refine (wide_divided.calls a1 a2 a3 t103 _ A13.out).mono ?_); rintro e w' ⟨rfl, ⟨nd, rfl⟩⟩; refine ⟨_, rfl, ?_⟩))
                  go_ret2
                  exact ⟨by first | rfl | (simp; done) | (simp [*]; done), by repeat (first | exact Drawn0.refl _ | apply Drawn0.step)⟩
                · rw [if_neg c12] at H
                  have c12b0 : (a0 == 10) = false := beq_eq_false_iff_ne.mpr c12
                  have c12b1 : (a0 != 10) = true := bne_iff_ne.mpr c12
                  by_cases c14 : a0 = 11
                  · rw [if_pos c14] at H
                    have c14b0 : (a0 == 11) = true := beq_iff_eq.mpr c14
                    have c14b1 : (a0 != 11) = false := bne_eq_false_iff_eq.mpr c14
                    clear c14
                    replace H := Option.bind_eq_some_iff.mp H
                    obtain ⟨t104, A150, H⟩ := H
                    replace H : (some (t104, true)) = some (r1, r2) := H
                    have A15 := Aside0.mk A150
                    clear A150
                    simp only [Option.some.injEq, Prod.mk.injEq] at H
                    obtain ⟨rfl, rfl⟩ := H
                    go_enter Try.func20, Try.ntmps20
                    go_wp2_with (first | ((with_reducible refine gate_callee (f := 23) rfl ?_); refine goesL_ (some 55) rfl rfl Try.func23 (by kernel_rfl) rfl #[.int .u16 a2, .int .u16 a3] rfl (by (try simp only [List.map_toArray, List.map_cons, List.map_nil]); first | done | rfl | (simp only [List.length_drop, List.length_take]; rfl)) ?_; (with_reducible refine (wide_rest.calls a2 a3 t104 _ A15.out).mono ?_); rintro e w' ⟨rfl, ⟨nd, rfl⟩⟩; refine ⟨_, rfl, ?_⟩))
                    go_ret2
                    exact ⟨by first | rfl | (simp; done) | (simp [*]; done), by repeat (first | exact Drawn0.refl _ | apply Drawn0.step)⟩
                  · rw [if_neg c14] at H
                    have c14b0 : (a0 == 11) = false := beq_eq_false_iff_ne.mpr c14
                    have c14b1 : (a0 != 11) = true := bne_iff_ne.mpr c14
                    by_cases c16 : a0 = 12
                    · rw [if_pos c16] at H
                      have c16b0 : (a0 == 12) = true := beq_iff_eq.mpr c16
                      have c16b1 : (a0 != 12) = false := bne_eq_false_iff_eq.mpr c16
                      clear c16
                      by_cases c17 : 0 ≤ a3
                      · rw [if_pos c17] at H
                        have c17b0 := eq_true c17
                        have c17b1 : decide (0 ≤ a3) = true := decide_eq_true c17
                        clear c17
                        obtain ⟨ji18, hji18⟩ : ∃ j_ : Int, (shl .u16 a2 a3) = j_ := ⟨_, rfl⟩
                        replace H : (some (ji18, true)) = some (r1, r2) := by first | (rw [hji18] at H; exact H) | (simp only [hji18] at H ⊢; exact H)
                        have hji18_ : (IntKind.u16.wrap (a2 * 2 ^ min a3.toNat 16)) = ji18 := hji18
                        have hji18z : a3 ≤ 16 → (IntKind.u16.wrap (a2 * 2 ^ a3.toNat)) = ji18 := shl_small hji18
                        simp only [Option.some.injEq, Prod.mk.injEq] at H
                        obtain ⟨rfl, rfl⟩ := H
                        go_enter Try.func20, Try.ntmps20
                        go_wp2
                        go_ret2
                        exact ⟨by first | rfl | (simp; done) | (simp only [← hji18] <;> (first | rfl | simp)) | (simp [*]; done), by repeat (first | exact Drawn0.refl _ | apply Drawn0.step)⟩
                      · rw [if_neg c17] at H
                        exact absurd H (by simp)
                    · rw [if_neg c16] at H
                      have c16b0 : (a0 == 12) = false := beq_eq_false_iff_ne.mpr c16
                      have c16b1 : (a0 != 12) = true := bne_iff_ne.mpr c16
                      by_cases c19 : a0 = 13
                      · rw [if_pos c19] at H
                        have c19b0 : (a0 == 13) = true := beq_iff_eq.mpr c19
                        have c19b1 : (a0 != 13) = false := bne_eq_false_iff_eq.mpr c19
                        clear c19
                        by_cases c20 : 0 ≤ a3
                        · rw [if_pos c20] at H
                          have c20b0 := eq_true c20
                          have c20b1 : decide (0 ≤ a3) = true := decide_eq_true c20
                          clear c20
                          obtain ⟨ji21, hji21⟩ : ∃ j_ : Int, (shr .u16 a2 a3) = j_ := ⟨_, rfl⟩
                          replace H : (some (ji21, true)) = some (r1, r2) := by first | (rw [hji21] at H; exact H) | (simp only [hji21] at H ⊢; exact H)
                          have hji21_ : (a2 / 2 ^ min a3.toNat 16) = ji21 := hji21
                          have hji21z : a3 ≤ 16 → (a2 / 2 ^ a3.toNat) = ji21 := shr_small hji21
                          simp only [Option.some.injEq, Prod.mk.injEq] at H
                          obtain ⟨rfl, rfl⟩ := H
                          go_enter Try.func20, Try.ntmps20
                          go_wp2
                          go_ret2
                          exact ⟨by first | rfl | (simp; done) | (simp only [← hji21] <;> (first | rfl | simp)) | (simp [*]; done), by repeat (first | exact Drawn0.refl _ | apply Drawn0.step)⟩
                        · rw [if_neg c20] at H
                          exact absurd H (by simp)
                      · rw [if_neg c19] at H
                        have c19b0 : (a0 == 13) = false := beq_eq_false_iff_ne.mpr c19
                        have c19b1 : (a0 != 13) = true := bne_iff_ne.mpr c19
                        by_cases c22 : a0 = 14
                        · rw [if_pos c22] at H
                          have c22b0 : (a0 == 14) = true := beq_iff_eq.mpr c22
                          have c22b1 : (a0 != 14) = false := bne_eq_false_iff_eq.mpr c22
                          clear c22
                          replace H := Option.bind_eq_some_iff.mp H
                          obtain ⟨t105, A230, H⟩ := H
                          replace H : (some (t105, true)) = some (r1, r2) := H
                          have A23 := Aside0.mk A230
                          clear A230
                          simp only [Option.some.injEq, Prod.mk.injEq] at H
                          obtain ⟨rfl, rfl⟩ := H
                          go_enter Try.func20, Try.ntmps20
                          go_wp2_with (first | ((with_reducible refine gate_callee (f := 24) rfl ?_); refine goesL_ (some 71) rfl rfl Try.func24 (by kernel_rfl) rfl #[.bool (a2 == a3)] rfl (by (try simp only [List.map_toArray, List.map_cons, List.map_nil]); first | done | rfl | (simp only [List.length_drop, List.length_take]; rfl)) ?_; (with_reducible refine (wide_truth.calls (a2 == a3) t105 _ A23.out).mono ?_); rintro e w' ⟨rfl, ⟨nd, rfl⟩⟩; refine ⟨_, rfl, ?_⟩))
                          go_ret2
                          exact ⟨by first | rfl | (simp; done) | (simp [*]; done), by repeat (first | exact Drawn0.refl _ | apply Drawn0.step)⟩
                        · rw [if_neg c22] at H
                          have c22b0 : (a0 == 14) = false := beq_eq_false_iff_ne.mpr c22
                          have c22b1 : (a0 != 14) = true := bne_iff_ne.mpr c22
                          by_cases c24 : a0 = 15
                          · rw [if_pos c24] at H
                            have c24b0 : (a0 == 15) = true := beq_iff_eq.mpr c24
                            have c24b1 : (a0 != 15) = false := bne_eq_false_iff_eq.mpr c24
                            clear c24
                            replace H := Option.bind_eq_some_iff.mp H
                            obtain ⟨t106, A250, H⟩ := H
                            replace H : (some (t106, true)) = some (r1, r2) := H
                            have A25 := Aside0.mk A250
                            clear A250
                            simp only [Option.some.injEq, Prod.mk.injEq] at H
                            obtain ⟨rfl, rfl⟩ := H
                            go_enter Try.func20, Try.ntmps20
                            go_wp2_with (first | ((with_reducible refine gate_callee (f := 24) rfl ?_); refine goesL_ (some 77) rfl rfl Try.func24 (by kernel_rfl) rfl #[.bool (decide (a2 < a3))] rfl (by (try simp only [List.map_toArray, List.map_cons, List.map_nil]); first | done | rfl | (simp only [List.length_drop, List.length_take]; rfl)) ?_; (with_reducible refine (wide_truth.calls (decide (a2 < a3)) t106 _ A25.out).mono ?_); rintro e w' ⟨rfl, ⟨nd, rfl⟩⟩; refine ⟨_, rfl, ?_⟩))
                            go_ret2
                            exact ⟨by first | rfl | (simp; done) | (simp [*]; done), by repeat (first | exact Drawn0.refl _ | apply Drawn0.step)⟩
                          · rw [if_neg c24] at H
                            have c24b0 : (a0 == 15) = false := beq_eq_false_iff_ne.mpr c24
                            have c24b1 : (a0 != 15) = true := bne_iff_ne.mpr c24
                            simp only [Option.some.injEq, Prod.mk.injEq] at H
                            obtain ⟨rfl, rfl⟩ := H
                            go_enter Try.func20, Try.ntmps20
                            go_wp2
                            go_ret2
                            exact ⟨by first | rfl | (simp; done) | (simp [*]; done), by repeat (first | exact Drawn0.refl _ | apply Drawn0.step)⟩

/-! ### wide_Do: function 10 -/
def wide_Do.f (a0 : Int) (a1 : Int) (a2 : Int) (a3 : Int) : Option (Int × Int) := (wide_May.f a1).bind fun t107 => (if t107 = true then ((wide_Mask.f a1).bind fun t108 => ((wide_reckon.f a0 a1 (Go.bits .and .u16 a2 t108) (Go.bits .and .u16 a3 t108)).bind fun bt109 => (if bt109.2 = true then (some (Go.bits .and .u16 bt109.1 t108, 0)) else (some (0, 5))))) else (some (0, 2)))
set_option maxHeartbeats 8000000 in
set_option maxRecDepth 100000 in
theorem wide_Do.calls (a0 : Int) (a1 : Int) (a2 : Int) (a3 : Int) (r1 : Int) (r2 : Int) (w : World) (h : wide_Do.f a0 a1 a2 a3 = some (r1, r2)) :
    Calls Try.prog 10 #[.int .i64 a0, .int .i64 a1, .int .u16 a2, .int .u16 a3] w fun e w' => e = .returned (.tuple #[.int .u16 r1, .int .i64 r2]) ∧ Drawn0 w w' := by
  have H : ((wide_May.f a1).bind fun t107 => (if t107 = true then ((wide_Mask.f a1).bind fun t108 => ((wide_reckon.f a0 a1 (Go.bits .and .u16 a2 t108) (Go.bits .and .u16 a3 t108)).bind fun bt109 => (if bt109.2 = true then (some (Go.bits .and .u16 bt109.1 t108, 0)) else (some (0, 5))))) else (some (0, 2)))) = some (r1, r2) := h
  clear h
  replace H := Option.bind_eq_some_iff.mp H
  obtain ⟨t107, A50, H⟩ := H
  replace H : (if t107 = true then ((wide_Mask.f a1).bind fun t108 => ((wide_reckon.f a0 a1 (Go.bits .and .u16 a2 t108) (Go.bits .and .u16 a3 t108)).bind fun bt109 => (if bt109.2 = true then (some (Go.bits .and .u16 bt109.1 t108, 0)) else (some (0, 5))))) else (some (0, 2))) = some (r1, r2) := H
  have A5 := Aside0.mk A50
  clear A50
  by_cases c6 : t107 = true
  · subst c6
    have H1 : ((wide_Mask.f a1).bind fun t108 => ((wide_reckon.f a0 a1 (Go.bits .and .u16 a2 t108) (Go.bits .and .u16 a3 t108)).bind fun bt109 => (if bt109.2 = true then (some (Go.bits .and .u16 bt109.1 t108, 0)) else (some (0, 5))))) = some (r1, r2) := by rw [if_pos rfl] at H; exact H
    clear H
    have H := H1
    clear H1
    replace H := Option.bind_eq_some_iff.mp H
    obtain ⟨t108, A70, H⟩ := H
    replace H : ((wide_reckon.f a0 a1 (Go.bits .and .u16 a2 t108) (Go.bits .and .u16 a3 t108)).bind fun bt109 => (if bt109.2 = true then (some (Go.bits .and .u16 bt109.1 t108, 0)) else (some (0, 5)))) = some (r1, r2) := H
    have A7 := Aside0.mk A70
    clear A70
    replace H := Option.bind_eq_some_iff.mp H
    obtain ⟨⟨t109, t110⟩, A80, H⟩ := H
    replace H : (if t110 = true then (some (Go.bits .and .u16 t109 t108, 0)) else (some (0, 5))) = some (r1, r2) := H
    have A8 := Aside0.mk A80
    clear A80
    by_cases c9 : t110 = true
    · subst c9
      have H1 : (some (Go.bits .and .u16 t109 t108, 0)) = some (r1, r2) := by rw [if_pos rfl] at H; exact H
      clear H
      have H := H1
      clear H1
      simp only [Option.some.injEq, Prod.mk.injEq] at H
      obtain ⟨rfl, rfl⟩ := H
      go_enter Try.func10, Try.ntmps10
      go_wp2_with (first | ((with_reducible refine gate_callee (f := 13) rfl ?_); refine goesL_ (some 14) rfl rfl Try.func13 (by kernel_rfl) rfl #[.int .i64 a1] rfl (by (try simp only [List.map_toArray, List.map_cons, List.map_nil]); first | done | rfl | (simp only [List.length_drop, List.length_take]; rfl)) ?_; (with_reducible refine (wide_May.calls a1 true _ A5.out).mono ?_); rintro e w' ⟨rfl, ⟨nd, rfl⟩⟩; refine ⟨_, rfl, ?_⟩) | ((with_reducible refine gate_callee (f := 15) rfl ?_); refine goesL_ (some 17) rfl rfl Try.func15 (by kernel_rfl) rfl #[.int .i64 a1] rfl (by (try simp only [List.map_toArray, List.map_cons, List.map_nil]); first | done | rfl | (simp only [List.length_drop, List.length_take]; rfl)) ?_; (with_reducible refine (wide_Mask.calls a1 t108 _ A7.out).mono ?_); rintro e w' ⟨rfl, ⟨nd, rfl⟩⟩; refine ⟨_, rfl, ?_⟩) | ((with_reducible refine gate_callee (f := 20) rfl ?_); refine goesL_ (some 27) rfl rfl Try.func20 (by kernel_rfl) rfl #[.int .i64 a0, .int .i64 a1, .int .u16 (Go.bits .and .u16 a2 t108), .int .u16 (Go.bits .and .u16 a3 t108)] rfl (by (try simp only [List.map_toArray, List.map_cons, List.map_nil]); first | done | rfl | (simp only [List.length_drop, List.length_take]; rfl)) ?_; (with_reducible refine (wide_reckon.calls a0 a1 (Go.bits .and .u16 a2 t108) (Go.bits .and .u16 a3 t108) t109 true _ A8.out).mono ?_); rintro e w' ⟨rfl, ⟨nd, rfl⟩⟩; refine ⟨_, rfl, ?_⟩))
      go_ret2
      exact ⟨by first | rfl | (simp; done) | (simp [*]; done), by repeat (first | exact Drawn0.refl _ | apply Drawn0.step)⟩
    · replace c9 := Bool.eq_false_iff.mpr c9
      subst c9
      have H1 : (some (0, 5)) = some (r1, r2) := by rw [if_neg (show ¬ (false = true) by decide)] at H; exact H
      clear H
      have H := H1
      clear H1
      simp only [Option.some.injEq, Prod.mk.injEq] at H
      obtain ⟨rfl, rfl⟩ := H
      go_enter Try.func10, Try.ntmps10
      go_wp2_with (first | ((with_reducible refine gate_callee (f := 13) rfl ?_); refine goesL_ (some 14) rfl rfl Try.func13 (by kernel_rfl) rfl #[.int .i64 a1] rfl (by (try simp only [List.map_toArray, List.map_cons, List.map_nil]); first | done | rfl | (simp only [List.length_drop, List.length_take]; rfl)) ?_; (with_reducible refine (wide_May.calls a1 true _ A5.out).mono ?_); rintro e w' ⟨rfl, ⟨nd, rfl⟩⟩; refine ⟨_, rfl, ?_⟩) | ((with_reducible refine gate_callee (f := 15) rfl ?_); refine goesL_ (some 17) rfl rfl Try.func15 (by kernel_rfl) rfl #[.int .i64 a1] rfl (by (try simp only [List.map_toArray, List.map_cons, List.map_nil]); first | done | rfl | (simp only [List.length_drop, List.length_take]; rfl)) ?_; (with_reducible refine (wide_Mask.calls a1 t108 _ A7.out).mono ?_); rintro e w' ⟨rfl, ⟨nd, rfl⟩⟩; refine ⟨_, rfl, ?_⟩) | ((with_reducible refine gate_callee (f := 20) rfl ?_); refine goesL_ (some 27) rfl rfl Try.func20 (by kernel_rfl) rfl #[.int .i64 a0, .int .i64 a1, .int .u16 (Go.bits .and .u16 a2 t108), .int .u16 (Go.bits .and .u16 a3 t108)] rfl (by (try simp only [List.map_toArray, List.map_cons, List.map_nil]); first | done | rfl | (simp only [List.length_drop, List.length_take]; rfl)) ?_; (with_reducible refine (wide_reckon.calls a0 a1 (Go.bits .and .u16 a2 t108) (Go.bits .and .u16 a3 t108) t109 false _ A8.out).mono ?_); rintro e w' ⟨rfl, ⟨nd, rfl⟩⟩; refine ⟨_, rfl, ?_⟩))
      go_ret2
      exact ⟨by first | rfl | (simp; done) | (simp [*]; done), by repeat (first | exact Drawn0.refl _ | apply Drawn0.step)⟩
  · replace c6 := Bool.eq_false_iff.mpr c6
    subst c6
    have H1 : (some (0, 2)) = some (r1, r2) := by rw [if_neg (show ¬ (false = true) by decide)] at H; exact H
    clear H
    have H := H1
    clear H1
    simp only [Option.some.injEq, Prod.mk.injEq] at H
    obtain ⟨rfl, rfl⟩ := H
    go_enter Try.func10, Try.ntmps10
    go_wp2_with (first | ((with_reducible refine gate_callee (f := 13) rfl ?_); refine goesL_ (some 14) rfl rfl Try.func13 (by kernel_rfl) rfl #[.int .i64 a1] rfl (by (try simp only [List.map_toArray, List.map_cons, List.map_nil]); first | done | rfl | (simp only [List.length_drop, List.length_take]; rfl)) ?_; (with_reducible refine (wide_May.calls a1 false _ A5.out).mono ?_); rintro e w' ⟨rfl, ⟨nd, rfl⟩⟩; refine ⟨_, rfl, ?_⟩))
    go_ret2
    exact ⟨by first | rfl | (simp; done) | (simp [*]; done), by repeat (first | exact Drawn0.refl _ | apply Drawn0.step)⟩

/-! ### wide_Out: function 12 -/
def wide_Out.f (a0 : Int) (a1 : Int) : Option (Int) := (wide_Do.f a0 a1 0 0).bind fun bt111 => (if bt111.2 = 0 then (if a0 = 14 then (some 1) else (if a0 = 15 then (some 1) else (some a1))) else (some 0))
set_option maxHeartbeats 8000000 in
set_option maxRecDepth 100000 in
theorem wide_Out.calls (a0 : Int) (a1 : Int) (r : Int) (w : World) (h : wide_Out.f a0 a1 = some r) :
    Calls Try.prog 12 #[.int .i64 a0, .int .i64 a1] w fun e w' => e = .returned (.int .i64 r) ∧ Drawn0 w w' := by
  have H : ((wide_Do.f a0 a1 0 0).bind fun bt111 => (if bt111.2 = 0 then (if a0 = 14 then (some 1) else (if a0 = 15 then (some 1) else (some a1))) else (some 0))) = some r := h
  clear h
  replace H := Option.bind_eq_some_iff.mp H
  obtain ⟨⟨t111, t112⟩, A30, H⟩ := H
  replace H : (if t112 = 0 then (if a0 = 14 then (some 1) else (if a0 = 15 then (some 1) else (some a1))) else (some 0)) = some r := H
  have A3 := Aside0.mk A30
  clear A30
  by_cases c4 : t112 = 0
  · rw [if_pos c4] at H
    have c4b0 : (t112 == 0) = true := beq_iff_eq.mpr c4
    have c4b1 : (t112 != 0) = false := bne_eq_false_iff_eq.mpr c4
    clear c4
    by_cases c5 : a0 = 14
    · rw [if_pos c5] at H
      have c5b0 : (a0 == 14) = true := beq_iff_eq.mpr c5
      have c5b1 : (a0 != 14) = false := bne_eq_false_iff_eq.mpr c5
      clear c5
      obtain rfl := Option.some.inj H
      go_enter Try.func12, Try.ntmps12
      go_wp2_with (first | ((with_reducible refine gate_callee (f := 10) rfl ?_); refine goesL_ (some 10) rfl rfl Try.func10 (by kernel_rfl) rfl #[.int .i64 a0, .int .i64 a1, .int .u16 0, .int .u16 0] rfl (by (try simp only [List.map_toArray, List.map_cons, List.map_nil]); first | done | rfl | (simp only [List.length_drop, List.length_take]; rfl)) ?_; (with_reducible refine (wide_Do.calls a0 a1 0 0 t111 t112 _ A3.out).mono ?_); rintro e w' ⟨rfl, ⟨nd, rfl⟩⟩; refine ⟨_, rfl, ?_⟩))
      go_ret
      exact ⟨by first | rfl | (simp; done) | (simp [*]; done), by repeat (first | exact Drawn0.refl _ | apply Drawn0.step)⟩
    · rw [if_neg c5] at H
      have c5b0 : (a0 == 14) = false := beq_eq_false_iff_ne.mpr c5
      have c5b1 : (a0 != 14) = true := bne_iff_ne.mpr c5
      by_cases c6 : a0 = 15
      · rw [if_pos c6] at H
        have c6b0 : (a0 == 15) = true := beq_iff_eq.mpr c6
        have c6b1 : (a0 != 15) = false := bne_eq_false_iff_eq.mpr c6
        clear c6
        obtain rfl := Option.some.inj H
        go_enter Try.func12, Try.ntmps12
        go_wp2_with (first | ((with_reducible refine gate_callee (f := 10) rfl ?_); refine goesL_ (some 10) rfl rfl Try.func10 (by kernel_rfl) rfl #[.int .i64 a0, .int .i64 a1, .int .u16 0, .int .u16 0] rfl (by (try simp only [List.map_toArray, List.map_cons, List.map_nil]); first | done | rfl | (simp only [List.length_drop, List.length_take]; rfl)) ?_; (with_reducible refine (wide_Do.calls a0 a1 0 0 t111 t112 _ A3.out).mono ?_); rintro e w' ⟨rfl, ⟨nd, rfl⟩⟩; refine ⟨_, rfl, ?_⟩))
        go_ret
        exact ⟨by first | rfl | (simp; done) | (simp [*]; done), by repeat (first | exact Drawn0.refl _ | apply Drawn0.step)⟩
      · rw [if_neg c6] at H
        have c6b0 : (a0 == 15) = false := beq_eq_false_iff_ne.mpr c6
        have c6b1 : (a0 != 15) = true := bne_iff_ne.mpr c6
        obtain rfl := Option.some.inj H
        go_enter Try.func12, Try.ntmps12
        go_wp2_with (first | ((with_reducible refine gate_callee (f := 10) rfl ?_); refine goesL_ (some 10) rfl rfl Try.func10 (by kernel_rfl) rfl #[.int .i64 a0, .int .i64 a1, .int .u16 0, .int .u16 0] rfl (by (try simp only [List.map_toArray, List.map_cons, List.map_nil]); first | done | rfl | (simp only [List.length_drop, List.length_take]; rfl)) ?_; (with_reducible refine (wide_Do.calls a0 a1 0 0 t111 t112 _ A3.out).mono ?_); rintro e w' ⟨rfl, ⟨nd, rfl⟩⟩; refine ⟨_, rfl, ?_⟩))
        go_ret
        exact ⟨by first | rfl | (simp; done) | (simp [*]; done), by repeat (first | exact Drawn0.refl _ | apply Drawn0.step)⟩
  · rw [if_neg c4] at H
    have c4b0 : (t112 == 0) = false := beq_eq_false_iff_ne.mpr c4
    have c4b1 : (t112 != 0) = true := bne_iff_ne.mpr c4
    obtain rfl := Option.some.inj H
    go_enter Try.func12, Try.ntmps12
    go_wp2_with (first | ((with_reducible refine gate_callee (f := 10) rfl ?_); refine goesL_ (some 10) rfl rfl Try.func10 (by kernel_rfl) rfl #[.int .i64 a0, .int .i64 a1, .int .u16 0, .int .u16 0] rfl (by (try simp only [List.map_toArray, List.map_cons, List.map_nil]); first | done | rfl | (simp only [List.length_drop, List.length_take]; rfl)) ?_; (with_reducible refine (wide_Do.calls a0 a1 0 0 t111 t112 _ A3.out).mono ?_); rintro e w' ⟨rfl, ⟨nd, rfl⟩⟩; refine ⟨_, rfl, ?_⟩))
    go_ret
    exact ⟨by first | rfl | (simp; done) | (simp [*]; done), by repeat (first | exact Drawn0.refl _ | apply Drawn0.step)⟩

/-! ### wide_Signed: function 17 -/
def wide_Signed.f (a0 : Int) (a1 : Int) : Option (Int) := (wide_Mask.f a0).bind fun t113 => ((wide_May.f a0).bind fun t114 => (if t114 = true then (if 0 ≤ (IntKind.u64.wrap (wrap64 (a0 - 1))) then (if (shr .u16 (Go.bits .and .u16 a1 t113) (IntKind.u64.wrap (wrap64 (a0 - 1)))) = 1 then ((wide_Mask.f a0).bind fun t115 => (some (wrap64 ((wrap64 ((wrap64 (Go.bits .and .u16 a1 t113)) - (wrap64 (t115)))) - 1)))) else (some (wrap64 (Go.bits .and .u16 a1 t113)))) else (none)) else (some (wrap64 (Go.bits .and .u16 a1 t113)))))
set_option maxHeartbeats 8000000 in
set_option maxRecDepth 100000 in
theorem wide_Signed.calls (a0 : Int) (a1 : Int) (r : Int) (w : World) (h : wide_Signed.f a0 a1 = some r) :
    Calls Try.prog 17 #[.int .i64 a0, .int .u16 a1] w fun e w' => e = .returned (.int .i64 r) ∧ Drawn0 w w' := by
  have H : ((wide_Mask.f a0).bind fun t113 => ((wide_May.f a0).bind fun t114 => (if t114 = true then (if 0 ≤ (IntKind.u64.wrap (wrap64 (a0 - 1))) then (if (shr .u16 (Go.bits .and .u16 a1 t113) (IntKind.u64.wrap (wrap64 (a0 - 1)))) = 1 then ((wide_Mask.f a0).bind fun t115 => (some (wrap64 ((wrap64 ((wrap64 (Go.bits .and .u16 a1 t113)) - (wrap64 (t115)))) - 1)))) else (some (wrap64 (Go.bits .and .u16 a1 t113)))) else (none)) else (some (wrap64 (Go.bits .and .u16 a1 t113)))))) = some r := h
  clear h
  replace H := Option.bind_eq_some_iff.mp H
  obtain ⟨t113, A30, H⟩ := H
  replace H : ((wide_May.f a0).bind fun t114 => (if t114 = true then (if 0 ≤ (IntKind.u64.wrap (wrap64 (a0 - 1))) then (if (shr .u16 (Go.bits .and .u16 a1 t113) (IntKind.u64.wrap (wrap64 (a0 - 1)))) = 1 then ((wide_Mask.f a0).bind fun t115 => (some (wrap64 ((wrap64 ((wrap64 (Go.bits .and .u16 a1 t113)) - (wrap64 (t115)))) - 1)))) else (some (wrap64 (Go.bits .and .u16 a1 t113)))) else (none)) else (some (wrap64 (Go.bits .and .u16 a1 t113))))) = some r := H
  have A3 := Aside0.mk A30
  clear A30
  replace H := Option.bind_eq_some_iff.mp H
  obtain ⟨t114, A40, H⟩ := H
  replace H : (if t114 = true then (if 0 ≤ (IntKind.u64.wrap (wrap64 (a0 - 1))) then (if (shr .u16 (Go.bits .and .u16 a1 t113) (IntKind.u64.wrap (wrap64 (a0 - 1)))) = 1 then ((wide_Mask.f a0).bind fun t115 => (some (wrap64 ((wrap64 ((wrap64 (Go.bits .and .u16 a1 t113)) - (wrap64 (t115)))) - 1)))) else (some (wrap64 (Go.bits .and .u16 a1 t113)))) else (none)) else (some (wrap64 (Go.bits .and .u16 a1 t113)))) = some r := H
  have A4 := Aside0.mk A40
  clear A40
  by_cases c5 : t114 = true
  · subst c5
    have H1 : (if 0 ≤ (IntKind.u64.wrap (wrap64 (a0 - 1))) then (if (shr .u16 (Go.bits .and .u16 a1 t113) (IntKind.u64.wrap (wrap64 (a0 - 1)))) = 1 then ((wide_Mask.f a0).bind fun t115 => (some (wrap64 ((wrap64 ((wrap64 (Go.bits .and .u16 a1 t113)) - (wrap64 (t115)))) - 1)))) else (some (wrap64 (Go.bits .and .u16 a1 t113)))) else (none)) = some r := by rw [if_pos rfl] at H; exact H
    clear H
    have H := H1
    clear H1
    obtain ⟨ji6, hji6⟩ : ∃ j_ : Int, (IntKind.u64.wrap (wrap64 (a0 - 1))) = j_ := ⟨_, rfl⟩
    replace H : (if 0 ≤ (ji6) then (if (shr .u16 (Go.bits .and .u16 a1 t113) (ji6)) = 1 then ((wide_Mask.f a0).bind fun t115 => (some (wrap64 ((wrap64 ((wrap64 (Go.bits .and .u16 a1 t113)) - (wrap64 (t115)))) - 1)))) else (some (wrap64 (Go.bits .and .u16 a1 t113)))) else (none)) = some r := by first | (rw [hji6] at H; exact H) | (simp only [hji6] at H ⊢; exact H)
    (try rw [hji6] at A3)
    (try rw [hji6] at A4)
    by_cases c7 : 0 ≤ (ji6)
    · rw [if_pos c7] at H
      have c7b0 := eq_true c7
      have c7b1 : decide (0 ≤ (ji6)) = true := decide_eq_true c7
      clear c7
      obtain ⟨ji8, hji8⟩ : ∃ j_ : Int, (shr .u16 (Go.bits .and .u16 a1 t113) (ji6)) = j_ := ⟨_, rfl⟩
      replace H : (if (ji8) = 1 then ((wide_Mask.f a0).bind fun t115 => (some (wrap64 ((wrap64 ((wrap64 (Go.bits .and .u16 a1 t113)) - (wrap64 (t115)))) - 1)))) else (some (wrap64 (Go.bits .and .u16 a1 t113)))) = some r := by first | (rw [hji8] at H; exact H) | (simp only [hji8] at H ⊢; exact H)
      (try rw [hji8] at A3)
      (try rw [hji8] at A4)
      have hji8_ : ((Go.bits .and .u16 a1 t113) / 2 ^ min (ji6).toNat 16) = ji8 := hji8
      have hji8z : (ji6) ≤ 16 → ((Go.bits .and .u16 a1 t113) / 2 ^ (ji6).toNat) = ji8 := shr_small hji8
      by_cases c9 : (ji8) = 1
      · rw [if_pos c9] at H
        have c9b0 : ((ji8) == 1) = true := beq_iff_eq.mpr c9
        have c9b1 : ((ji8) != 1) = false := bne_eq_false_iff_eq.mpr c9
        clear c9
        replace H := Option.bind_eq_some_iff.mp H
        obtain ⟨t115, A100, H⟩ := H
        replace H : (some (wrap64 ((wrap64 ((wrap64 (Go.bits .and .u16 a1 t113)) - (wrap64 (t115)))) - 1))) = some r := H
        have A10 := Aside0.mk A100
        clear A100
        obtain rfl := Option.some.inj H
        go_enter Try.func17, Try.ntmps17
        go_wp2_with (first | ((with_reducible refine gate_callee (f := 15) rfl ?_); refine goesL_ (some 7) rfl rfl Try.func15 (by kernel_rfl) rfl #[.int .i64 a0] rfl (by (try simp only [List.map_toArray, List.map_cons, List.map_nil]); first | done | rfl | (simp only [List.length_drop, List.length_take]; rfl)) ?_; (with_reducible refine (wide_Mask.calls a0 t113 _ A3.out).mono ?_); rintro e w' ⟨rfl, ⟨nd, rfl⟩⟩; refine ⟨_, rfl, ?_⟩) | ((with_reducible refine gate_callee (f := 13) rfl ?_); refine goesL_ (some 10) rfl rfl Try.func13 (by kernel_rfl) rfl #[.int .i64 a0] rfl (by (try simp only [List.map_toArray, List.map_cons, List.map_nil]); first | done | rfl | (simp only [List.length_drop, List.length_take]; rfl)) ?_; (with_reducible refine (wide_May.calls a0 true _ A4.out).mono ?_); rintro e w' ⟨rfl, ⟨nd, rfl⟩⟩; refine ⟨_, rfl, ?_⟩) | ((with_reducible refine gate_callee (f := 15) rfl ?_); refine goesL_ (some 22) rfl rfl Try.func15 (by kernel_rfl) rfl #[.int .i64 a0] rfl (by (try simp only [List.map_toArray, List.map_cons, List.map_nil]); first | done | rfl | (simp only [List.length_drop, List.length_take]; rfl)) ?_; (with_reducible refine (wide_Mask.calls a0 t115 _ A10.out).mono ?_); rintro e w' ⟨rfl, ⟨nd, rfl⟩⟩; refine ⟨_, rfl, ?_⟩))
        go_ret
        exact ⟨by first | rfl | (simp; done) | (simp only [← hji6, ← hji8] <;> (first | rfl | simp)) | (simp [*]; done), by repeat (first | exact Drawn0.refl _ | apply Drawn0.step)⟩
      · rw [if_neg c9] at H
        have c9b0 : ((ji8) == 1) = false := beq_eq_false_iff_ne.mpr c9
        have c9b1 : ((ji8) != 1) = true := bne_iff_ne.mpr c9
        obtain rfl := Option.some.inj H
        go_enter Try.func17, Try.ntmps17
        go_wp2_with (first | ((with_reducible refine gate_callee (f := 15) rfl ?_); refine goesL_ (some 7) rfl rfl Try.func15 (by kernel_rfl) rfl #[.int .i64 a0] rfl (by (try simp only [List.map_toArray, List.map_cons, List.map_nil]); first | done | rfl | (simp only [List.length_drop, List.length_take]; rfl)) ?_; (with_reducible refine (wide_Mask.calls a0 t113 _ A3.out).mono ?_); rintro e w' ⟨rfl, ⟨nd, rfl⟩⟩; refine ⟨_, rfl, ?_⟩) | ((with_reducible refine gate_callee (f := 13) rfl ?_); refine goesL_ (some 10) rfl rfl Try.func13 (by kernel_rfl) rfl #[.int .i64 a0] rfl (by (try simp only [List.map_toArray, List.map_cons, List.map_nil]); first | done | rfl | (simp only [List.length_drop, List.length_take]; rfl)) ?_; (with_reducible refine (wide_May.calls a0 true _ A4.out).mono ?_); rintro e w' ⟨rfl, ⟨nd, rfl⟩⟩; refine ⟨_, rfl, ?_⟩))
        go_ret
        exact ⟨by first | rfl | (simp; done) | (simp only [← hji6, ← hji8] <;> (first | rfl | simp)) | (simp [*]; done), by repeat (first | exact Drawn0.refl _ | apply Drawn0.step)⟩
    · rw [if_neg c7] at H
      exact absurd H (by simp)
  · replace c5 := Bool.eq_false_iff.mpr c5
    subst c5
    have H1 : (some (wrap64 (Go.bits .and .u16 a1 t113))) = some r := by rw [if_neg (show ¬ (false = true) by decide)] at H; exact H
    clear H
    have H := H1
    clear H1
    obtain rfl := Option.some.inj H
    go_enter Try.func17, Try.ntmps17
    go_wp2_with (first | ((with_reducible refine gate_callee (f := 15) rfl ?_); refine goesL_ (some 7) rfl rfl Try.func15 (by kernel_rfl) rfl #[.int .i64 a0] rfl (by (try simp only [List.map_toArray, List.map_cons, List.map_nil]); first | done | rfl | (simp only [List.length_drop, List.length_take]; rfl)) ?_; (with_reducible refine (wide_Mask.calls a0 t113 _ A3.out).mono ?_); rintro e w' ⟨rfl, ⟨nd, rfl⟩⟩; refine ⟨_, rfl, ?_⟩) | ((with_reducible refine gate_callee (f := 13) rfl ?_); refine goesL_ (some 10) rfl rfl Try.func13 (by kernel_rfl) rfl #[.int .i64 a0] rfl (by (try simp only [List.map_toArray, List.map_cons, List.map_nil]); first | done | rfl | (simp only [List.length_drop, List.length_take]; rfl)) ?_; (with_reducible refine (wide_May.calls a0 false _ A4.out).mono ?_); rintro e w' ⟨rfl, ⟨nd, rfl⟩⟩; refine ⟨_, rfl, ?_⟩))
    go_ret
    exact ⟨by first | rfl | (simp; done) | (simp [*]; done), by repeat (first | exact Drawn0.refl _ | apply Drawn0.step)⟩

/-! ### wide_Of: function 18 -/
def wide_Of.f (a0 : Int) (a1 : Int) : Option (Int) := (wide_Mask.f a0).bind fun t116 => (some (Go.bits .and .u16 (IntKind.u16.wrap (a1)) t116))
set_option maxHeartbeats 8000000 in
set_option maxRecDepth 100000 in
theorem wide_Of.calls (a0 : Int) (a1 : Int) (r : Int) (w : World) (h : wide_Of.f a0 a1 = some r) :
    Calls Try.prog 18 #[.int .i64 a0, .int .i64 a1] w fun e w' => e = .returned (.int .u16 r) ∧ Drawn0 w w' := by
  have H : ((wide_Mask.f a0).bind fun t116 => (some (Go.bits .and .u16 (IntKind.u16.wrap (a1)) t116))) = some r := h
  clear h
  replace H := Option.bind_eq_some_iff.mp H
  obtain ⟨t116, A30, H⟩ := H
  replace H : (some (Go.bits .and .u16 (IntKind.u16.wrap (a1)) t116)) = some r := H
  have A3 := Aside0.mk A30
  clear A30
  obtain rfl := Option.some.inj H
  go_enter Try.func18, Try.ntmps18
  go_wp2_with (first | ((with_reducible refine gate_callee (f := 15) rfl ?_); refine goesL_ (some 8) rfl rfl Try.func15 (by kernel_rfl) rfl #[.int .i64 a0] rfl (by (try simp only [List.map_toArray, List.map_cons, List.map_nil]); first | done | rfl | (simp only [List.length_drop, List.length_take]; rfl)) ?_; (with_reducible refine (wide_Mask.calls a0 t116 _ A3.out).mono ?_); rintro e w' ⟨rfl, ⟨nd, rfl⟩⟩; refine ⟨_, rfl, ?_⟩))
  go_ret
  exact ⟨by first | rfl | (simp; done) | (simp [*]; done), by repeat (first | exact Drawn0.refl _ | apply Drawn0.step)⟩

/-! ### crossroadslaw1_awake: function 9 -/
def crossroadslaw1_awake.f  : Option (Bool) := (wide_Do.f 8 8 0 1).bind fun bt117 => (if bt117.2 = 0 then (if bt117.1 = 255 then ((wide_May.f 16).bind fun t119 => (if t119 = true then ((wide_Mask.f 8).bind fun t120 => (if t120 = 255 then ((wide_Signed.f 8 255).bind fun t121 => (if t121 = (-1) then ((wide_Out.f 14 16).bind fun t122 => (if t122 = 1 then ((wide_Of.f 8 (-1)).bind fun t123 => (some (t123 == 255))) else (some false))) else (some false))) else (some false))) else (some false))) else (some false)) else (some false))
set_option maxHeartbeats 8000000 in
set_option maxRecDepth 100000 in
theorem crossroadslaw1_awake.calls  (r : Bool) (w : World) (h : crossroadslaw1_awake.f  = some r) :
    Calls Try.prog 9 #[] w fun e w' => e = .returned (.bool r) ∧ Drawn0 w w' := by
  have H : ((wide_Do.f 8 8 0 1).bind fun bt117 => (if bt117.2 = 0 then (if bt117.1 = 255 then ((wide_May.f 16).bind fun t119 => (if t119 = true then ((wide_Mask.f 8).bind fun t120 => (if t120 = 255 then ((wide_Signed.f 8 255).bind fun t121 => (if t121 = (-1) then ((wide_Out.f 14 16).bind fun t122 => (if t122 = 1 then ((wide_Of.f 8 (-1)).bind fun t123 => (some (t123 == 255))) else (some false))) else (some false))) else (some false))) else (some false))) else (some false)) else (some false))) = some r := h
  clear h
  replace H := Option.bind_eq_some_iff.mp H
  obtain ⟨⟨t117, t118⟩, A10, H⟩ := H
  replace H : (if t118 = 0 then (if t117 = 255 then ((wide_May.f 16).bind fun t119 => (if t119 = true then ((wide_Mask.f 8).bind fun t120 => (if t120 = 255 then ((wide_Signed.f 8 255).bind fun t121 => (if t121 = (-1) then ((wide_Out.f 14 16).bind fun t122 => (if t122 = 1 then ((wide_Of.f 8 (-1)).bind fun t123 => (some (t123 == 255))) else (some false))) else (some false))) else (some false))) else (some false))) else (some false)) else (some false)) = some r := H
  have A1 := Aside0.mk A10
  clear A10
  by_cases c2 : t118 = 0
  · rw [if_pos c2] at H
    have c2b0 : (t118 == 0) = true := beq_iff_eq.mpr c2
    have c2b1 : (t118 != 0) = false := bne_eq_false_iff_eq.mpr c2
    clear c2
    by_cases c3 : t117 = 255
    · rw [if_pos c3] at H
      have c3b0 : (t117 == 255) = true := beq_iff_eq.mpr c3
      have c3b1 : (t117 != 255) = false := bne_eq_false_iff_eq.mpr c3
      clear c3
      replace H := Option.bind_eq_some_iff.mp H
      obtain ⟨t119, A40, H⟩ := H
      replace H : (if t119 = true then ((wide_Mask.f 8).bind fun t120 => (if t120 = 255 then ((wide_Signed.f 8 255).bind fun t121 => (if t121 = (-1) then ((wide_Out.f 14 16).bind fun t122 => (if t122 = 1 then ((wide_Of.f 8 (-1)).bind fun t123 => (some (t123 == 255))) else (some false))) else (some false))) else (some false))) else (some false)) = some r := H
      have A4 := Aside0.mk A40
      clear A40
      by_cases c5 : t119 = true
      · subst c5
        have H1 : ((wide_Mask.f 8).bind fun t120 => (if t120 = 255 then ((wide_Signed.f 8 255).bind fun t121 => (if t121 = (-1) then ((wide_Out.f 14 16).bind fun t122 => (if t122 = 1 then ((wide_Of.f 8 (-1)).bind fun t123 => (some (t123 == 255))) else (some false))) else (some false))) else (some false))) = some r := by rw [if_pos rfl] at H; exact H
        clear H
        have H := H1
        clear H1
        replace H := Option.bind_eq_some_iff.mp H
        obtain ⟨t120, A60, H⟩ := H
        replace H : (if t120 = 255 then ((wide_Signed.f 8 255).bind fun t121 => (if t121 = (-1) then ((wide_Out.f 14 16).bind fun t122 => (if t122 = 1 then ((wide_Of.f 8 (-1)).bind fun t123 => (some (t123 == 255))) else (some false))) else (some false))) else (some false)) = some r := H
        have A6 := Aside0.mk A60
        clear A60
        by_cases c7 : t120 = 255
        · rw [if_pos c7] at H
          have c7b0 : (t120 == 255) = true := beq_iff_eq.mpr c7
          have c7b1 : (t120 != 255) = false := bne_eq_false_iff_eq.mpr c7
          clear c7
          replace H := Option.bind_eq_some_iff.mp H
          obtain ⟨t121, A80, H⟩ := H
          replace H : (if t121 = (-1) then ((wide_Out.f 14 16).bind fun t122 => (if t122 = 1 then ((wide_Of.f 8 (-1)).bind fun t123 => (some (t123 == 255))) else (some false))) else (some false)) = some r := H
          have A8 := Aside0.mk A80
          clear A80
          by_cases c9 : t121 = (-1)
          · rw [if_pos c9] at H
            have c9b0 : (t121 == (-1)) = true := beq_iff_eq.mpr c9
            have c9b1 : (t121 != (-1)) = false := bne_eq_false_iff_eq.mpr c9
            clear c9
            replace H := Option.bind_eq_some_iff.mp H
            obtain ⟨t122, A100, H⟩ := H
            replace H : (if t122 = 1 then ((wide_Of.f 8 (-1)).bind fun t123 => (some (t123 == 255))) else (some false)) = some r := H
            have A10 := Aside0.mk A100
            clear A100
            by_cases c11 : t122 = 1
            · rw [if_pos c11] at H
              have c11b0 : (t122 == 1) = true := beq_iff_eq.mpr c11
              have c11b1 : (t122 != 1) = false := bne_eq_false_iff_eq.mpr c11
              clear c11
              replace H := Option.bind_eq_some_iff.mp H
              obtain ⟨t123, A120, H⟩ := H
              replace H : (some (t123 == 255)) = some r := H
              have A12 := Aside0.mk A120
              clear A120
              obtain rfl := Option.some.inj H
              go_enter Try.func9, Try.ntmps9
              go_wp2_with (first | ((with_reducible refine gate_callee (f := 10) rfl ?_); refine goesL_ (some 4) rfl rfl Try.func10 (by kernel_rfl) rfl #[.int .i64 8, .int .i64 8, .int .u16 0, .int .u16 1] rfl (by (try simp only [List.map_toArray, List.map_cons, List.map_nil]); first | done | rfl | (simp only [List.length_drop, List.length_take]; rfl)) ?_; (with_reducible refine (wide_Do.calls 8 8 0 1 t117 t118 _ A1.out).mono ?_); rintro e w' ⟨rfl, ⟨nd, rfl⟩⟩; refine ⟨_, rfl, ?_⟩) | (go_at_call 13; (with_reducible refine (wide_May.calls 16 true _ A4.out).mono ?_); rintro e w' ⟨rfl, ⟨nd, rfl⟩⟩) | (go_at_call 15; (with_reducible refine (wide_Mask.calls 8 t120 _ A6.out).mono ?_); rintro e w' ⟨rfl, ⟨nd, rfl⟩⟩) | (go_at_call 17; (with_reducible refine (wide_Signed.calls 8 255 t121 _ A8.out).mono ?_); rintro e w' ⟨rfl, ⟨nd, rfl⟩⟩) | (go_at_call 12; (with_reducible refine (wide_Out.calls 14 16 t122 _ A10.out).mono ?_); rintro e w' ⟨rfl, ⟨nd, rfl⟩⟩) | (go_at_call 18; (with_reducible refine (wide_Of.calls 8 (-1) t123 _ A12.out).mono ?_); rintro e w' ⟨rfl, ⟨nd, rfl⟩⟩))
              go_ret
              exact ⟨by first | rfl | (simp; done) | (simp [*]; done), by repeat (first | exact Drawn0.refl _ | apply Drawn0.step)⟩
            · rw [if_neg c11] at H
              have c11b0 : (t122 == 1) = false := beq_eq_false_iff_ne.mpr c11
              have c11b1 : (t122 != 1) = true := bne_iff_ne.mpr c11
              obtain rfl := Option.some.inj H
              go_enter Try.func9, Try.ntmps9
              go_wp2_with (first | ((with_reducible refine gate_callee (f := 10) rfl ?_); refine goesL_ (some 4) rfl rfl Try.func10 (by kernel_rfl) rfl #[.int .i64 8, .int .i64 8, .int .u16 0, .int .u16 1] rfl (by (try simp only [List.map_toArray, List.map_cons, List.map_nil]); first | done | rfl | (simp only [List.length_drop, List.length_take]; rfl)) ?_; (with_reducible refine (wide_Do.calls 8 8 0 1 t117 t118 _ A1.out).mono ?_); rintro e w' ⟨rfl, ⟨nd, rfl⟩⟩; refine ⟨_, rfl, ?_⟩) | (go_at_call 13; (with_reducible refine (wide_May.calls 16 true _ A4.out).mono ?_); rintro e w' ⟨rfl, ⟨nd, rfl⟩⟩) | (go_at_call 15; (with_reducible refine (wide_Mask.calls 8 t120 _ A6.out).mono ?_); rintro e w' ⟨rfl, ⟨nd, rfl⟩⟩) | (go_at_call 17; (with_reducible refine (wide_Signed.calls 8 255 t121 _ A8.out).mono ?_); rintro e w' ⟨rfl, ⟨nd, rfl⟩⟩) | (go_at_call 12; (with_reducible refine (wide_Out.calls 14 16 t122 _ A10.out).mono ?_); rintro e w' ⟨rfl, ⟨nd, rfl⟩⟩))
              go_ret
              exact ⟨by first | rfl | (simp; done) | (simp [*]; done), by repeat (first | exact Drawn0.refl _ | apply Drawn0.step)⟩
          · rw [if_neg c9] at H
            have c9b0 : (t121 == (-1)) = false := beq_eq_false_iff_ne.mpr c9
            have c9b1 : (t121 != (-1)) = true := bne_iff_ne.mpr c9
            obtain rfl := Option.some.inj H
            go_enter Try.func9, Try.ntmps9
            go_wp2_with (first | ((with_reducible refine gate_callee (f := 10) rfl ?_); refine goesL_ (some 4) rfl rfl Try.func10 (by kernel_rfl) rfl #[.int .i64 8, .int .i64 8, .int .u16 0, .int .u16 1] rfl (by (try simp only [List.map_toArray, List.map_cons, List.map_nil]); first | done | rfl | (simp only [List.length_drop, List.length_take]; rfl)) ?_; (with_reducible refine (wide_Do.calls 8 8 0 1 t117 t118 _ A1.out).mono ?_); rintro e w' ⟨rfl, ⟨nd, rfl⟩⟩; refine ⟨_, rfl, ?_⟩) | (go_at_call 13; (with_reducible refine (wide_May.calls 16 true _ A4.out).mono ?_); rintro e w' ⟨rfl, ⟨nd, rfl⟩⟩) | (go_at_call 15; (with_reducible refine (wide_Mask.calls 8 t120 _ A6.out).mono ?_); rintro e w' ⟨rfl, ⟨nd, rfl⟩⟩) | (go_at_call 17; (with_reducible refine (wide_Signed.calls 8 255 t121 _ A8.out).mono ?_); rintro e w' ⟨rfl, ⟨nd, rfl⟩⟩))
            go_ret
            exact ⟨by first | rfl | (simp; done) | (simp [*]; done), by repeat (first | exact Drawn0.refl _ | apply Drawn0.step)⟩
        · rw [if_neg c7] at H
          have c7b0 : (t120 == 255) = false := beq_eq_false_iff_ne.mpr c7
          have c7b1 : (t120 != 255) = true := bne_iff_ne.mpr c7
          obtain rfl := Option.some.inj H
          go_enter Try.func9, Try.ntmps9
          go_wp2_with (first | ((with_reducible refine gate_callee (f := 10) rfl ?_); refine goesL_ (some 4) rfl rfl Try.func10 (by kernel_rfl) rfl #[.int .i64 8, .int .i64 8, .int .u16 0, .int .u16 1] rfl (by (try simp only [List.map_toArray, List.map_cons, List.map_nil]); first | done | rfl | (simp only [List.length_drop, List.length_take]; rfl)) ?_; (with_reducible refine (wide_Do.calls 8 8 0 1 t117 t118 _ A1.out).mono ?_); rintro e w' ⟨rfl, ⟨nd, rfl⟩⟩; refine ⟨_, rfl, ?_⟩) | (go_at_call 13; (with_reducible refine (wide_May.calls 16 true _ A4.out).mono ?_); rintro e w' ⟨rfl, ⟨nd, rfl⟩⟩) | (go_at_call 15; (with_reducible refine (wide_Mask.calls 8 t120 _ A6.out).mono ?_); rintro e w' ⟨rfl, ⟨nd, rfl⟩⟩))
          go_ret
          exact ⟨by first | rfl | (simp; done) | (simp [*]; done), by repeat (first | exact Drawn0.refl _ | apply Drawn0.step)⟩
      · replace c5 := Bool.eq_false_iff.mpr c5
        subst c5
        have H1 : (some false) = some r := by rw [if_neg (show ¬ (false = true) by decide)] at H; exact H
        clear H
        have H := H1
        clear H1
        obtain rfl := Option.some.inj H
        go_enter Try.func9, Try.ntmps9
        go_wp2_with (first | ((with_reducible refine gate_callee (f := 10) rfl ?_); refine goesL_ (some 4) rfl rfl Try.func10 (by kernel_rfl) rfl #[.int .i64 8, .int .i64 8, .int .u16 0, .int .u16 1] rfl (by (try simp only [List.map_toArray, List.map_cons, List.map_nil]); first | done | rfl | (simp only [List.length_drop, List.length_take]; rfl)) ?_; (with_reducible refine (wide_Do.calls 8 8 0 1 t117 t118 _ A1.out).mono ?_); rintro e w' ⟨rfl, ⟨nd, rfl⟩⟩; refine ⟨_, rfl, ?_⟩) | (go_at_call 13; (with_reducible refine (wide_May.calls 16 false _ A4.out).mono ?_); rintro e w' ⟨rfl, ⟨nd, rfl⟩⟩))
        go_ret
        exact ⟨by first | rfl | (simp; done) | (simp [*]; done), by repeat (first | exact Drawn0.refl _ | apply Drawn0.step)⟩
    · rw [if_neg c3] at H
      have c3b0 : (t117 == 255) = false := beq_eq_false_iff_ne.mpr c3
      have c3b1 : (t117 != 255) = true := bne_iff_ne.mpr c3
      obtain rfl := Option.some.inj H
      go_enter Try.func9, Try.ntmps9
      go_wp2_with (first | ((with_reducible refine gate_callee (f := 10) rfl ?_); refine goesL_ (some 4) rfl rfl Try.func10 (by kernel_rfl) rfl #[.int .i64 8, .int .i64 8, .int .u16 0, .int .u16 1] rfl (by (try simp only [List.map_toArray, List.map_cons, List.map_nil]); first | done | rfl | (simp only [List.length_drop, List.length_take]; rfl)) ?_; (with_reducible refine (wide_Do.calls 8 8 0 1 t117 t118 _ A1.out).mono ?_); rintro e w' ⟨rfl, ⟨nd, rfl⟩⟩; refine ⟨_, rfl, ?_⟩))
      go_ret
      exact ⟨by first | rfl | (simp; done) | (simp [*]; done), by repeat (first | exact Drawn0.refl _ | apply Drawn0.step)⟩
  · rw [if_neg c2] at H
    have c2b0 : (t118 == 0) = false := beq_eq_false_iff_ne.mpr c2
    have c2b1 : (t118 != 0) = true := bne_iff_ne.mpr c2
    obtain rfl := Option.some.inj H
    go_enter Try.func9, Try.ntmps9
    go_wp2_with (first | ((with_reducible refine gate_callee (f := 10) rfl ?_); refine goesL_ (some 4) rfl rfl Try.func10 (by kernel_rfl) rfl #[.int .i64 8, .int .i64 8, .int .u16 0, .int .u16 1] rfl (by (try simp only [List.map_toArray, List.map_cons, List.map_nil]); first | done | rfl | (simp only [List.length_drop, List.length_take]; rfl)) ?_; (with_reducible refine (wide_Do.calls 8 8 0 1 t117 t118 _ A1.out).mono ?_); rintro e w' ⟨rfl, ⟨nd, rfl⟩⟩; refine ⟨_, rfl, ?_⟩))
    go_ret
    exact ⟨by first | rfl | (simp; done) | (simp [*]; done), by repeat (first | exact Drawn0.refl _ | apply Drawn0.step)⟩

/-! ### crossroadsref1_May: function 14 -/
def crossroadsref1_May.f (a0 : Int) : Option (Bool) := if a0 = 1 then (some true) else (if a0 = 8 then (some true) else (some (a0 == 16)))
set_option maxHeartbeats 8000000 in
set_option maxRecDepth 100000 in
theorem crossroadsref1_May.calls (a0 : Int) (r : Bool) (w : World) (h : crossroadsref1_May.f a0 = some r) :
    Calls Try.prog 14 #[.int .i64 a0] w fun e w' => e = .returned (.bool r) ∧ Drawn0 w w' := by
  have H : (if a0 = 1 then (some true) else (if a0 = 8 then (some true) else (some (a0 == 16)))) = some r := h
  clear h
  by_cases c2 : a0 = 1
  · rw [if_pos c2] at H
    have c2b0 : (a0 == 1) = true := beq_iff_eq.mpr c2
    have c2b1 : (a0 != 1) = false := bne_eq_false_iff_eq.mpr c2
    clear c2
    obtain rfl := Option.some.inj H
    go_enter Try.func14, Try.ntmps14
    go_wp2
    go_ret
    exact ⟨by first | rfl | (simp; done) | (simp [*]; done), by repeat (first | exact Drawn0.refl _ | apply Drawn0.step)⟩
  · rw [if_neg c2] at H
    have c2b0 : (a0 == 1) = false := beq_eq_false_iff_ne.mpr c2
    have c2b1 : (a0 != 1) = true := bne_iff_ne.mpr c2
    by_cases c3 : a0 = 8
    · rw [if_pos c3] at H
      have c3b0 : (a0 == 8) = true := beq_iff_eq.mpr c3
      have c3b1 : (a0 != 8) = false := bne_eq_false_iff_eq.mpr c3
      clear c3
      obtain rfl := Option.some.inj H
      go_enter Try.func14, Try.ntmps14
      go_wp2
      go_ret
      exact ⟨by first | rfl | (simp; done) | (simp [*]; done), by repeat (first | exact Drawn0.refl _ | apply Drawn0.step)⟩
    · rw [if_neg c3] at H
      have c3b0 : (a0 == 8) = false := beq_eq_false_iff_ne.mpr c3
      have c3b1 : (a0 != 8) = true := bne_iff_ne.mpr c3
      obtain rfl := Option.some.inj H
      go_enter Try.func14, Try.ntmps14
      go_wp2
      go_ret
      exact ⟨by first | rfl | (simp; done) | (simp [*]; done), by repeat (first | exact Drawn0.refl _ | apply Drawn0.step)⟩

/-! ### crossroadsref1_Mask: function 16 -/
def crossroadsref1_Mask.f (a0 : Int) : Option (Int) := (crossroadsref1_May.f a0).bind fun t124 => (if t124 = true then (if 0 ≤ (IntKind.u64.wrap (a0)) then (some (IntKind.u16.wrap ((shl .u16 1 (IntKind.u64.wrap (a0))) - 1))) else (none)) else (some 0))
set_option maxHeartbeats 8000000 in
set_option maxRecDepth 100000 in
theorem crossroadsref1_Mask.calls (a0 : Int) (r : Int) (w : World) (h : crossroadsref1_Mask.f a0 = some r) :
    Calls Try.prog 16 #[.int .i64 a0] w fun e w' => e = .returned (.int .u16 r) ∧ Drawn0 w w' := by
  have H : ((crossroadsref1_May.f a0).bind fun t124 => (if t124 = true then (if 0 ≤ (IntKind.u64.wrap (a0)) then (some (IntKind.u16.wrap ((shl .u16 1 (IntKind.u64.wrap (a0))) - 1))) else (none)) else (some 0))) = some r := h
  clear h
  replace H := Option.bind_eq_some_iff.mp H
  obtain ⟨t124, A20, H⟩ := H
  replace H : (if t124 = true then (if 0 ≤ (IntKind.u64.wrap (a0)) then (some (IntKind.u16.wrap ((shl .u16 1 (IntKind.u64.wrap (a0))) - 1))) else (none)) else (some 0)) = some r := H
  have A2 := Aside0.mk A20
  clear A20
  by_cases c3 : t124 = true
  · subst c3
    have H1 : (if 0 ≤ (IntKind.u64.wrap (a0)) then (some (IntKind.u16.wrap ((shl .u16 1 (IntKind.u64.wrap (a0))) - 1))) else (none)) = some r := by rw [if_pos rfl] at H; exact H
    clear H
    have H := H1
    clear H1
    obtain ⟨ji4, hji4⟩ : ∃ j_ : Int, (IntKind.u64.wrap (a0)) = j_ := ⟨_, rfl⟩
    replace H : (if 0 ≤ (ji4) then (some (IntKind.u16.wrap ((shl .u16 1 (ji4)) - 1))) else (none)) = some r := by first | (rw [hji4] at H; exact H) | (simp only [hji4] at H ⊢; exact H)
    (try rw [hji4] at A2)
    by_cases c5 : 0 ≤ (ji4)
    · rw [if_pos c5] at H
      have c5b0 := eq_true c5
      have c5b1 : decide (0 ≤ (ji4)) = true := decide_eq_true c5
      clear c5
      obtain ⟨ji6, hji6⟩ : ∃ j_ : Int, (shl .u16 1 (ji4)) = j_ := ⟨_, rfl⟩
      replace H : (some (IntKind.u16.wrap ((ji6) - 1))) = some r := by first | (rw [hji6] at H; exact H) | (simp only [hji6] at H ⊢; exact H)
      (try rw [hji6] at A2)
      have hji6_ : (IntKind.u16.wrap (1 * 2 ^ min (ji4).toNat 16)) = ji6 := hji6
      have hji6z : (ji4) ≤ 16 → (IntKind.u16.wrap (1 * 2 ^ (ji4).toNat)) = ji6 := shl_small hji6
      have hji6u : (IntKind.u16.wrap (2 ^ min (ji4).toNat 16)) = ji6 := by have h_ := hji6_; rw [Int.one_mul] at h_; exact h_
      have hji6v : (ji4) ≤ 16 → (IntKind.u16.wrap (2 ^ (ji4).toNat)) = ji6 := fun hle_ => by have h_ := hji6z hle_; rw [Int.one_mul] at h_; exact h_
      obtain rfl := Option.some.inj H
      go_enter Try.func16, Try.ntmps16
      go_wp2_with (first | ((with_reducible refine gate_callee (f := 14) rfl ?_); refine goesL_ (some 4) rfl rfl Try.func14 (by kernel_rfl) rfl #[.int .i64 a0] rfl (by (try simp only [List.map_toArray, List.map_cons, List.map_nil]); first | done | rfl | (simp only [List.length_drop, List.length_take]; rfl)) ?_; (with_reducible refine (crossroadsref1_May.calls a0 true _ A2.out).mono ?_); rintro e w' ⟨rfl, ⟨nd, rfl⟩⟩; refine ⟨_, rfl, ?_⟩))
      go_ret
      exact ⟨by first | rfl | (simp; done) | (simp only [← hji4, ← hji6] <;> (first | rfl | simp)) | (simp [*]; done), by repeat (first | exact Drawn0.refl _ | apply Drawn0.step)⟩
    · rw [if_neg c5] at H
      exact absurd H (by simp)
  · replace c3 := Bool.eq_false_iff.mpr c3
    subst c3
    have H1 : (some 0) = some r := by rw [if_neg (show ¬ (false = true) by decide)] at H; exact H
    clear H
    have H := H1
    clear H1
    obtain rfl := Option.some.inj H
    go_enter Try.func16, Try.ntmps16
    go_wp2_with (first | ((with_reducible refine gate_callee (f := 14) rfl ?_); refine goesL_ (some 4) rfl rfl Try.func14 (by kernel_rfl) rfl #[.int .i64 a0] rfl (by (try simp only [List.map_toArray, List.map_cons, List.map_nil]); first | done | rfl | (simp only [List.length_drop, List.length_take]; rfl)) ?_; (with_reducible refine (crossroadsref1_May.calls a0 false _ A2.out).mono ?_); rintro e w' ⟨rfl, ⟨nd, rfl⟩⟩; refine ⟨_, rfl, ?_⟩))
    go_ret
    exact ⟨by first | rfl | (simp; done) | (simp [*]; done), by repeat (first | exact Drawn0.refl _ | apply Drawn0.step)⟩

end Go.Proofs.Ytcjoblnfbopaeaa.P
