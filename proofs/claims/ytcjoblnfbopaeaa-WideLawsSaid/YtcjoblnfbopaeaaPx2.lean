-- Laid by a program of this session (the kit's print, changed): Lean checks it.
import Derived.Test.YtcjoblnfbopaeaaPx0
import Derived.Test.YtcjoblnfbopaeaaPx1
namespace Go.Proofs.Ytcjoblnfbopaeaa.P
open Go.RowKit Go.Proofs.YtcjoblnfbopaeaaW.PrintWords Go.Proofs.YtcjoblnfbopaeaaW.PrintLast Go.Proofs.YtcjoblnfbopaeaaW.PrintMore
attribute [local go_sem] max2_int min2_int max_two min_two max_three min_three max_four min_four   -- for this text's walks alone
set_option linter.unusedVariables false
set_option linter.unusedSimpArgs false

/-! ### crossroadslaw1_WideShifts: function 6 -/
def crossroadslaw1_WideShifts.f (a0 : Int) (a1 : Int) (a2 : Int) : Option (Bool) := (crossroadslaw1_awake.f).bind fun t125 => (if t125 = true then ((crossroadsref1_May.f a0).bind fun t126 => (if t126 = true then ((wide_Do.f 12 a0 a1 (IntKind.u16.wrap (a2))).bind fun bt127 => ((wide_Do.f 13 a0 a1 (IntKind.u16.wrap (a2))).bind fun bt129 => ((crossroadsref1_Mask.f a0).bind fun t131 => (if (wrap64 (Go.bits .and .u16 (IntKind.u16.wrap (a2)) t131)) ≥ a0 then (if bt127.1 = 0 then (some (bt129.1 == 0)) else (some false)) else (if 0 ≤ (Go.bits .and .u16 (IntKind.u16.wrap (a2)) t131) then ((wide_Do.f 9 a0 a1 (shl .u16 1 (Go.bits .and .u16 (IntKind.u16.wrap (a2)) t131))).bind fun bt132 => ((wide_Do.f 10 a0 a1 (shl .u16 1 (Go.bits .and .u16 (IntKind.u16.wrap (a2)) t131))).bind fun bt134 => (if bt127.1 = bt132.1 then (some (bt129.1 == bt134.1)) else (some false)))) else (none)))))) else (some true))) else (some false))
set_option maxHeartbeats 8000000 in
set_option maxRecDepth 100000 in
theorem crossroadslaw1_WideShifts.calls (a0 : Int) (a1 : Int) (a2 : Int) (r : Bool) (w : World) (h : crossroadslaw1_WideShifts.f a0 a1 a2 = some r) :
    Calls Try.prog 6 #[.int .i64 a0, .int .u16 a1, .int .u8 a2] w fun e w' => e = .returned (.bool r) ∧ Drawn0 w w' := by
  have H : ((crossroadslaw1_awake.f).bind fun t125 => (if t125 = true then ((crossroadsref1_May.f a0).bind fun t126 => (if t126 = true then ((wide_Do.f 12 a0 a1 (IntKind.u16.wrap (a2))).bind fun bt127 => ((wide_Do.f 13 a0 a1 (IntKind.u16.wrap (a2))).bind fun bt129 => ((crossroadsref1_Mask.f a0).bind fun t131 => (if (wrap64 (Go.bits .and .u16 (IntKind.u16.wrap (a2)) t131)) ≥ a0 then (if bt127.1 = 0 then (some (bt129.1 == 0)) else (some false)) else (if 0 ≤ (Go.bits .and .u16 (IntKind.u16.wrap (a2)) t131) then ((wide_Do.f 9 a0 a1 (shl .u16 1 (Go.bits .and .u16 (IntKind.u16.wrap (a2)) t131))).bind fun bt132 => ((wide_Do.f 10 a0 a1 (shl .u16 1 (Go.bits .and .u16 (IntKind.u16.wrap (a2)) t131))).bind fun bt134 => (if bt127.1 = bt132.1 then (some (bt129.1 == bt134.1)) else (some false)))) else (none)))))) else (some true))) else (some false))) = some r := h
  clear h
  replace H := Option.bind_eq_some_iff.mp H
  obtain ⟨t125, A40, H⟩ := H
  replace H : (if t125 = true then ((crossroadsref1_May.f a0).bind fun t126 => (if t126 = true then ((wide_Do.f 12 a0 a1 (IntKind.u16.wrap (a2))).bind fun bt127 => ((wide_Do.f 13 a0 a1 (IntKind.u16.wrap (a2))).bind fun bt129 => ((crossroadsref1_Mask.f a0).bind fun t131 => (if (wrap64 (Go.bits .and .u16 (IntKind.u16.wrap (a2)) t131)) ≥ a0 then (if bt127.1 = 0 then (some (bt129.1 == 0)) else (some false)) else (if 0 ≤ (Go.bits .and .u16 (IntKind.u16.wrap (a2)) t131) then ((wide_Do.f 9 a0 a1 (shl .u16 1 (Go.bits .and .u16 (IntKind.u16.wrap (a2)) t131))).bind fun bt132 => ((wide_Do.f 10 a0 a1 (shl .u16 1 (Go.bits .and .u16 (IntKind.u16.wrap (a2)) t131))).bind fun bt134 => (if bt127.1 = bt132.1 then (some (bt129.1 == bt134.1)) else (some false)))) else (none)))))) else (some true))) else (some false)) = some r := H
  have A4 := Aside0.mk A40
  clear A40
  by_cases c5 : t125 = true
  · subst c5
    have H1 : ((crossroadsref1_May.f a0).bind fun t126 => (if t126 = true then ((wide_Do.f 12 a0 a1 (IntKind.u16.wrap (a2))).bind fun bt127 => ((wide_Do.f 13 a0 a1 (IntKind.u16.wrap (a2))).bind fun bt129 => ((crossroadsref1_Mask.f a0).bind fun t131 => (if (wrap64 (Go.bits .and .u16 (IntKind.u16.wrap (a2)) t131)) ≥ a0 then (if bt127.1 = 0 then (some (bt129.1 == 0)) else (some false)) else (if 0 ≤ (Go.bits .and .u16 (IntKind.u16.wrap (a2)) t131) then ((wide_Do.f 9 a0 a1 (shl .u16 1 (Go.bits .and .u16 (IntKind.u16.wrap (a2)) t131))).bind fun bt132 => ((wide_Do.f 10 a0 a1 (shl .u16 1 (Go.bits .and .u16 (IntKind.u16.wrap (a2)) t131))).bind fun bt134 => (if bt127.1 = bt132.1 then (some (bt129.1 == bt134.1)) else (some false)))) else (none)))))) else (some true))) = some r := by rw [if_pos rfl] at H; exact H
    clear H
    have H := H1
    clear H1
    replace H := Option.bind_eq_some_iff.mp H
    obtain ⟨t126, A60, H⟩ := H
    replace H : (if t126 = true then ((wide_Do.f 12 a0 a1 (IntKind.u16.wrap (a2))).bind fun bt127 => ((wide_Do.f 13 a0 a1 (IntKind.u16.wrap (a2))).bind fun bt129 => ((crossroadsref1_Mask.f a0).bind fun t131 => (if (wrap64 (Go.bits .and .u16 (IntKind.u16.wrap (a2)) t131)) ≥ a0 then (if bt127.1 = 0 then (some (bt129.1 == 0)) else (some false)) else (if 0 ≤ (Go.bits .and .u16 (IntKind.u16.wrap (a2)) t131) then ((wide_Do.f 9 a0 a1 (shl .u16 1 (Go.bits .and .u16 (IntKind.u16.wrap (a2)) t131))).bind fun bt132 => ((wide_Do.f 10 a0 a1 (shl .u16 1 (Go.bits .and .u16 (IntKind.u16.wrap (a2)) t131))).bind fun bt134 => (if bt127.1 = bt132.1 then (some (bt129.1 == bt134.1)) else (some false)))) else (none)))))) else (some true)) = some r := H
    have A6 := Aside0.mk A60
    clear A60
    by_cases c7 : t126 = true
    · subst c7
      have H1 : ((wide_Do.f 12 a0 a1 (IntKind.u16.wrap (a2))).bind fun bt127 => ((wide_Do.f 13 a0 a1 (IntKind.u16.wrap (a2))).bind fun bt129 => ((crossroadsref1_Mask.f a0).bind fun t131 => (if (wrap64 (Go.bits .and .u16 (IntKind.u16.wrap (a2)) t131)) ≥ a0 then (if bt127.1 = 0 then (some (bt129.1 == 0)) else (some false)) else (if 0 ≤ (Go.bits .and .u16 (IntKind.u16.wrap (a2)) t131) then ((wide_Do.f 9 a0 a1 (shl .u16 1 (Go.bits .and .u16 (IntKind.u16.wrap (a2)) t131))).bind fun bt132 => ((wide_Do.f 10 a0 a1 (shl .u16 1 (Go.bits .and .u16 (IntKind.u16.wrap (a2)) t131))).bind fun bt134 => (if bt127.1 = bt132.1 then (some (bt129.1 == bt134.1)) else (some false)))) else (none)))))) = some r := by rw [if_pos rfl] at H; exact H
      clear H
      have H := H1
      clear H1
      replace H := Option.bind_eq_some_iff.mp H
      obtain ⟨⟨t127, t128⟩, A80, H⟩ := H
      replace H : ((wide_Do.f 13 a0 a1 (IntKind.u16.wrap (a2))).bind fun bt129 => ((crossroadsref1_Mask.f a0).bind fun t131 => (if (wrap64 (Go.bits .and .u16 (IntKind.u16.wrap (a2)) t131)) ≥ a0 then (if t127 = 0 then (some (bt129.1 == 0)) else (some false)) else (if 0 ≤ (Go.bits .and .u16 (IntKind.u16.wrap (a2)) t131) then ((wide_Do.f 9 a0 a1 (shl .u16 1 (Go.bits .and .u16 (IntKind.u16.wrap (a2)) t131))).bind fun bt132 => ((wide_Do.f 10 a0 a1 (shl .u16 1 (Go.bits .and .u16 (IntKind.u16.wrap (a2)) t131))).bind fun bt134 => (if t127 = bt132.1 then (some (bt129.1 == bt134.1)) else (some false)))) else (none))))) = some r := H
      have A8 := Aside0.mk A80
      clear A80
      replace H := Option.bind_eq_some_iff.mp H
      obtain ⟨⟨t129, t130⟩, A90, H⟩ := H
      replace H : ((crossroadsref1_Mask.f a0).bind fun t131 => (if (wrap64 (Go.bits .and .u16 (IntKind.u16.wrap (a2)) t131)) ≥ a0 then (if t127 = 0 then (some (t129 == 0)) else (some false)) else (if 0 ≤ (Go.bits .and .u16 (IntKind.u16.wrap (a2)) t131) then ((wide_Do.f 9 a0 a1 (shl .u16 1 (Go.bits .and .u16 (IntKind.u16.wrap (a2)) t131))).bind fun bt132 => ((wide_Do.f 10 a0 a1 (shl .u16 1 (Go.bits .and .u16 (IntKind.u16.wrap (a2)) t131))).bind fun bt134 => (if t127 = bt132.1 then (some (t129 == bt134.1)) else (some false)))) else (none)))) = some r := H
      have A9 := Aside0.mk A90
      clear A90
      replace H := Option.bind_eq_some_iff.mp H
      obtain ⟨t131, A100, H⟩ := H
      replace H : (if (wrap64 (Go.bits .and .u16 (IntKind.u16.wrap (a2)) t131)) ≥ a0 then (if t127 = 0 then (some (t129 == 0)) else (some false)) else (if 0 ≤ (Go.bits .and .u16 (IntKind.u16.wrap (a2)) t131) then ((wide_Do.f 9 a0 a1 (shl .u16 1 (Go.bits .and .u16 (IntKind.u16.wrap (a2)) t131))).bind fun bt132 => ((wide_Do.f 10 a0 a1 (shl .u16 1 (Go.bits .and .u16 (IntKind.u16.wrap (a2)) t131))).bind fun bt134 => (if t127 = bt132.1 then (some (t129 == bt134.1)) else (some false)))) else (none))) = some r := H
      have A10 := Aside0.mk A100
      clear A100
      by_cases c11 : (wrap64 (Go.bits .and .u16 (IntKind.u16.wrap (a2)) t131)) ≥ a0
      · rw [if_pos c11] at H
        have c11b0 : decide (a0 ≤ (wrap64 (Go.bits .and .u16 (IntKind.u16.wrap (a2)) t131))) = true := decide_eq_true c11
        clear c11
        by_cases c12 : t127 = 0
        · rw [if_pos c12] at H
          have c12b0 : (t127 == 0) = true := beq_iff_eq.mpr c12
          have c12b1 : (t127 != 0) = false := bne_eq_false_iff_eq.mpr c12
          clear c12
          obtain rfl := Option.some.inj H
          go_enter Try.func6, Try.ntmps6
          go_wp2_with (first | ((with_reducible refine gate_callee (f := 9) rfl ?_); refine goesL_ (some 18) rfl rfl Try.func9 (by kernel_rfl) rfl #[] rfl (by (try simp only [List.map_toArray, List.map_cons, List.map_nil]); first | done | rfl | (simp only [List.length_drop, List.length_take]; rfl)) ?_; (with_reducible refine (crossroadslaw1_awake.calls  true _ A4.out).mono ?_); rintro e w' ⟨rfl, ⟨nd, rfl⟩⟩; refine ⟨_, rfl, ?_⟩) | ((with_reducible refine gate_callee (f := 14) rfl ?_); refine goesL_ (some 21) rfl rfl Try.func14 (by kernel_rfl) rfl #[.int .i64 a0] rfl (by (try simp only [List.map_toArray, List.map_cons, List.map_nil]); first | done | rfl | (simp only [List.length_drop, List.length_take]; rfl)) ?_; (with_reducible refine (crossroadsref1_May.calls a0 true _ A6.out).mono ?_); rintro e w' ⟨rfl, ⟨nd, rfl⟩⟩; refine ⟨_, rfl, ?_⟩) | ((with_reducible refine gate_callee (f := 10) rfl ?_); refine goesL_ (some 29) rfl rfl Try.func10 (by kernel_rfl) rfl #[.int .i64 12, .int .i64 a0, .int .u16 a1, .int .u16 (IntKind.u16.wrap (a2))] rfl (by (try simp only [List.map_toArray, List.map_cons, List.map_nil]); first | done | rfl | (simp only [List.length_drop, List.length_take]; rfl)) ?_; (with_reducible refine (wide_Do.calls 12 a0 a1 (IntKind.u16.wrap (a2)) t127 t128 _ A8.out).mono ?_); rintro e w' ⟨rfl, ⟨nd, rfl⟩⟩; refine ⟨_, rfl, ?_⟩) | ((with_reducible refine gate_callee (f := 10) rfl ?_); refine goesL_ (some 36) rfl rfl Try.func10 (by kernel_rfl) rfl #[.int .i64 13, .int .i64 a0, .int .u16 a1, .int .u16 (IntKind.u16.wrap (a2))] rfl (by (try simp only [List.map_toArray, List.map_cons, List.map_nil]); first | done | rfl | (simp only [List.length_drop, List.length_take]; rfl)) ?_; (with_reducible refine (wide_Do.calls 13 a0 a1 (IntKind.u16.wrap (a2)) t129 t130 _ A9.out).mono ?_); rintro e w' ⟨rfl, ⟨nd, rfl⟩⟩; refine ⟨_, rfl, ?_⟩) | ((with_reducible refine gate_callee (f := 16) rfl ?_); refine goesL_ (some 41) rfl rfl Try.func16 (by kernel_rfl) rfl #[.int .i64 a0] rfl (by (try simp only [List.map_toArray, List.map_cons, List.map_nil]); first | done | rfl | (simp only [List.length_drop, List.length_take]; rfl)) ?_; (with_reducible refine (crossroadsref1_Mask.calls a0 t131 _ A10.out).mono ?_); rintro e w' ⟨rfl, ⟨nd, rfl⟩⟩; refine ⟨_, rfl, ?_⟩))
          go_ret
          exact ⟨by first | rfl | (simp; done) | (simp [*]; done), by repeat (first | exact Drawn0.refl _ | apply Drawn0.step)⟩
        · rw [if_neg c12] at H
          have c12b0 : (t127 == 0) = false := beq_eq_false_iff_ne.mpr c12
          have c12b1 : (t127 != 0) = true := bne_iff_ne.mpr c12
          obtain rfl := Option.some.inj H
          go_enter Try.func6, Try.ntmps6
          go_wp2_with (first | ((with_reducible refine gate_callee (f := 9) rfl ?_); refine goesL_ (some 18) rfl rfl Try.func9 (by kernel_rfl) rfl #[] rfl (by (try simp only [List.map_toArray, List.map_cons, List.map_nil]); first | done | rfl | (simp only [List.length_drop, List.length_take]; rfl)) ?_; (with_reducible refine (crossroadslaw1_awake.calls  true _ A4.out).mono ?_); rintro e w' ⟨rfl, ⟨nd, rfl⟩⟩; refine ⟨_, rfl, ?_⟩) | ((with_reducible refine gate_callee (f := 14) rfl ?_); refine goesL_ (some 21) rfl rfl Try.func14 (by kernel_rfl) rfl #[.int .i64 a0] rfl (by (try simp only [List.map_toArray, List.map_cons, List.map_nil]); first | done | rfl | (simp only [List.length_drop, List.length_take]; rfl)) ?_; (with_reducible refine (crossroadsref1_May.calls a0 true _ A6.out).mono ?_); rintro e w' ⟨rfl, ⟨nd, rfl⟩⟩; refine ⟨_, rfl, ?_⟩) | ((with_reducible refine gate_callee (f := 10) rfl ?_); refine goesL_ (some 29) rfl rfl Try.func10 (by kernel_rfl) rfl #[.int .i64 12, .int .i64 a0, .int .u16 a1, .int .u16 (IntKind.u16.wrap (a2))] rfl (by (try simp only [List.map_toArray, List.map_cons, List.map_nil]); first | done | rfl | (simp only [List.length_drop, List.length_take]; rfl)) ?_; (with_reducible refine (wide_Do.calls 12 a0 a1 (IntKind.u16.wrap (a2)) t127 t128 _ A8.out).mono ?_); rintro e w' ⟨rfl, ⟨nd, rfl⟩⟩; refine ⟨_, rfl, ?_⟩) | ((with_reducible refine gate_callee (f := 10) rfl ?_); refine goesL_ (some 36) rfl rfl Try.func10 (by kernel_rfl) rfl #[.int .i64 13, .int .i64 a0, .int .u16 a1, .int .u16 (IntKind.u16.wrap (a2))] rfl (by (try simp only [List.map_toArray, List.map_cons, List.map_nil]); first | done | rfl | (simp only [List.length_drop, List.length_take]; rfl)) ?_; (with_reducible refine (wide_Do.calls 13 a0 a1 (IntKind.u16.wrap (a2)) t129 t130 _ A9.out).mono ?_); rintro e w' ⟨rfl, ⟨nd, rfl⟩⟩; refine ⟨_, rfl, ?_⟩) | ((with_reducible refine gate_callee (f := 16) rfl ?_); refine goesL_ (some 41) rfl rfl Try.func16 (by kernel_rfl) rfl #[.int .i64 a0] rfl (by (try simp only [List.map_toArray, List.map_cons, List.map_nil]); first | done | rfl | (simp only [List.length_drop, List.length_take]; rfl)) ?_; (with_reducible refine (crossroadsref1_Mask.calls a0 t131 _ A10.out).mono ?_); rintro e w' ⟨rfl, ⟨nd, rfl⟩⟩; refine ⟨_, rfl, ?_⟩))
          go_ret
          exact ⟨by first | rfl | (simp; done) | (simp [*]; done), by repeat (first | exact Drawn0.refl _ | apply Drawn0.step)⟩
      · rw [if_neg c11] at H
        have c11b0 : decide (a0 ≤ (wrap64 (Go.bits .and .u16 (IntKind.u16.wrap (a2)) t131))) = false := decide_eq_false c11
        clear c11
        obtain ⟨ji13, hji13⟩ : ∃ j_ : Int, (Go.bits .and .u16 (IntKind.u16.wrap (a2)) t131) = j_ := ⟨_, rfl⟩
        replace H : (if 0 ≤ (ji13) then ((wide_Do.f 9 a0 a1 (shl .u16 1 (ji13))).bind fun bt132 => ((wide_Do.f 10 a0 a1 (shl .u16 1 (ji13))).bind fun bt134 => (if t127 = bt132.1 then (some (t129 == bt134.1)) else (some false)))) else (none)) = some r := by first | (rw [hji13] at H; exact H) | (simp only [hji13] at H ⊢; exact H)
        (try rw [hji13] at c11b0)
        (try rw [hji13] at A4)
        (try rw [hji13] at A6)
        (try rw [hji13] at A8)
        (try rw [hji13] at A9)
        (try rw [hji13] at A10)
        by_cases c14 : 0 ≤ (ji13)
        · rw [if_pos c14] at H
          have c14b0 := eq_true c14
          have c14b1 : decide (0 ≤ (ji13)) = true := decide_eq_true c14
          clear c14
          obtain ⟨ji15, hji15⟩ : ∃ j_ : Int, (shl .u16 1 (ji13)) = j_ := ⟨_, rfl⟩
          replace H : ((wide_Do.f 9 a0 a1 (ji15)).bind fun bt132 => ((wide_Do.f 10 a0 a1 (ji15)).bind fun bt134 => (if t127 = bt132.1 then (some (t129 == bt134.1)) else (some false)))) = some r := by first | (rw [hji15] at H; exact H) | (simp only [hji15] at H ⊢; exact H)
          (try rw [hji15] at A4)
          (try rw [hji15] at A6)
          (try rw [hji15] at A8)
          (try rw [hji15] at A9)
          (try rw [hji15] at A10)
          have hji15_ : (IntKind.u16.wrap (1 * 2 ^ min (ji13).toNat 16)) = ji15 := hji15
          have hji15z : (ji13) ≤ 16 → (IntKind.u16.wrap (1 * 2 ^ (ji13).toNat)) = ji15 := shl_small hji15
          have hji15u : (IntKind.u16.wrap (2 ^ min (ji13).toNat 16)) = ji15 := by have h_ := hji15_; rw [Int.one_mul] at h_; exact h_
          have hji15v : (ji13) ≤ 16 → (IntKind.u16.wrap (2 ^ (ji13).toNat)) = ji15 := fun hle_ => by have h_ := hji15z hle_; rw [Int.one_mul] at h_; exact h_
          replace H := Option.bind_eq_some_iff.mp H
          obtain ⟨⟨t132, t133⟩, A160, H⟩ := H
          replace H : ((wide_Do.f 10 a0 a1 (ji15)).bind fun bt134 => (if t127 = t132 then (some (t129 == bt134.1)) else (some false))) = some r := H
          have A16 := Aside0.mk A160
          clear A160
          replace H := Option.bind_eq_some_iff.mp H
          obtain ⟨⟨t134, t135⟩, A170, H⟩ := H
          replace H : (if t127 = t132 then (some (t129 == t134)) else (some false)) = some r := H
          have A17 := Aside0.mk A170
          clear A170
          by_cases c18 : t127 = t132
          · rw [if_pos c18] at H
            have c18b0 : (t127 == t132) = true := beq_iff_eq.mpr c18
            have c18b1 : (t127 != t132) = false := bne_eq_false_iff_eq.mpr c18
            clear c18
            obtain rfl := Option.some.inj H
            go_enter Try.func6, Try.ntmps6
            go_wp2_with (first | ((with_reducible refine gate_callee (f := 9) rfl ?_); refine goesL_ (some 18) rfl rfl Try.func9 (by kernel_rfl) rfl #[] rfl (by (try simp only [List.map_toArray, List.map_cons, List.map_nil]); first | done | rfl | (simp only [List.length_drop, List.length_take]; rfl)) ?_; (with_reducible refine (crossroadslaw1_awake.calls  true _ A4.out).mono ?_); rintro e w' ⟨rfl, ⟨nd, rfl⟩⟩; refine ⟨_, rfl, ?_⟩) | ((with_reducible refine gate_callee (f := 14) rfl ?_); refine goesL_ (some 21) rfl rfl Try.func14 (by kernel_rfl) rfl #[.int .i64 a0] rfl (by (try simp only [List.map_toArray, List.map_cons, List.map_nil]); first | done | rfl | (simp only [List.length_drop, List.length_take]; rfl)) ?_; (with_reducible refine (crossroadsref1_May.calls a0 true _ A6.out).mono ?_); rintro e w' ⟨rfl, ⟨nd, rfl⟩⟩; refine ⟨_, rfl, ?_⟩) | ((with_reducible refine gate_callee (f := 10) rfl ?_); refine goesL_ (some 29) rfl rfl Try.func10 (by kernel_rfl) rfl #[.int .i64 12, .int .i64 a0, .int .u16 a1, .int .u16 (IntKind.u16.wrap (a2))] rfl (by (try simp only [List.map_toArray, List.map_cons, List.map_nil]); first | done | rfl | (simp only [List.length_drop, List.length_take]; rfl)) ?_; (with_reducible refine (wide_Do.calls 12 a0 a1 (IntKind.u16.wrap (a2)) t127 t128 _ A8.out).mono ?_); rintro e w' ⟨rfl, ⟨nd, rfl⟩⟩; refine ⟨_, rfl, ?_⟩) | ((with_reducible refine gate_callee (f := 10) rfl ?_); refine goesL_ (some 36) rfl rfl Try.func10 (by kernel_rfl) rfl #[.int .i64 13, .int .i64 a0, .int .u16 a1, .int .u16 (IntKind.u16.wrap (a2))] rfl (by (try simp only [List.map_toArray, List.map_cons, List.map_nil]); first | done | rfl | (simp only [List.length_drop, List.length_take]; rfl)) ?_; (with_reducible refine (wide_Do.calls 13 a0 a1 (IntKind.u16.wrap (a2)) t129 t130 _ A9.out).mono ?_); rintro e w' ⟨rfl, ⟨nd, rfl⟩⟩; refine ⟨_, rfl, ?_⟩) | ((with_reducible refine gate_callee (f := 16) rfl ?_); refine goesL_ (some 41) rfl rfl Try.func16 (by kernel_rfl) rfl #[.int .i64 a0] rfl (by (try simp only [List.map_toArray, List.map_cons, List.map_nil]); first | done | rfl | (simp only [List.length_drop, List.length_take]; rfl)) ?_; (with_reducible refine (crossroadsref1_Mask.calls a0 t131 _ A10.out).mono ?_); rintro e w' ⟨rfl, ⟨nd, rfl⟩⟩; refine ⟨_, rfl, ?_⟩) | ((with_reducible refine gate_callee (f := 10) rfl ?_); refine goesL_ (some 59) rfl rfl Try.func10 (by kernel_rfl) rfl #[.int .i64 9, .int .i64 a0, .int .u16 a1, .int .u16 ji15] rfl (by (try simp only [List.map_toArray, List.map_cons, List.map_nil]); first | done | (simp only [hji15]; rfl) | rfl | (simp only [List.length_drop, List.length_take]; rfl)) ?_; (with_reducible refine (wide_Do.calls 9 a0 a1 ji15 t132 t133 _ A16.out).mono ?_); rintro e w' ⟨rfl, ⟨nd, rfl⟩⟩; refine ⟨_, rfl, ?_⟩) | ((with_reducible refine gate_callee (f := 10) rfl ?_); refine goesL_ (some 66) rfl rfl Try.func10 (by kernel_rfl) rfl #[.int .i64 10, .int .i64 a0, .int .u16 a1, .int .u16 ji15] rfl (by (try simp only [List.map_toArray, List.map_cons, List.map_nil]); first | done | (simp only [hji15]; rfl) | rfl | (simp only [List.length_drop, List.length_take]; rfl)) ?_; (with_reducible refine (wide_Do.calls 10 a0 a1 ji15 t134 t135 _ A17.out).mono ?_); rintro e w' ⟨rfl, ⟨nd, rfl⟩⟩; refine ⟨_, rfl, ?_⟩))
            go_ret
            exact ⟨by first | rfl | (simp; done) | (simp only [← hji13, ← hji15] <;> (first | rfl | simp)) | (simp [*]; done), by repeat (first | exact Drawn0.refl _ | apply Drawn0.step)⟩
          · rw [if_neg c18] at H
            have c18b0 : (t127 == t132) = false := beq_eq_false_iff_ne.mpr c18
            have c18b1 : (t127 != t132) = true := bne_iff_ne.mpr c18
            obtain rfl := Option.some.inj H
            go_enter Try.func6, Try.ntmps6
            go_wp2_with (first | ((with_reducible refine gate_callee (f := 9) rfl ?_); refine goesL_ (some 18) rfl rfl Try.func9 (by kernel_rfl) rfl #[] rfl (by (try simp only [List.map_toArray, List.map_cons, List.map_nil]); first | done | rfl | (simp only [List.length_drop, List.length_take]; rfl)) ?_; (with_reducible refine (crossroadslaw1_awake.calls  true _ A4.out).mono ?_); rintro e w' ⟨rfl, ⟨nd, rfl⟩⟩; refine ⟨_, rfl, ?_⟩) | ((with_reducible refine gate_callee (f := 14) rfl ?_); refine goesL_ (some 21) rfl rfl Try.func14 (by kernel_rfl) rfl #[.int .i64 a0] rfl (by (try simp only [List.map_toArray, List.map_cons, List.map_nil]); first | done | rfl | (simp only [List.length_drop, List.length_take]; rfl)) ?_; (with_reducible refine (crossroadsref1_May.calls a0 true _ A6.out).mono ?_); rintro e w' ⟨rfl, ⟨nd, rfl⟩⟩; refine ⟨_, rfl, ?_⟩) | ((with_reducible refine gate_callee (f := 10) rfl ?_); refine goesL_ (some 29) rfl rfl Try.func10 (by kernel_rfl) rfl #[.int .i64 12, .int .i64 a0, .int .u16 a1, .int .u16 (IntKind.u16.wrap (a2))] rfl (by (try simp only [List.map_toArray, List.map_cons, List.map_nil]); first | done | rfl | (simp only [List.length_drop, List.length_take]; rfl)) ?_; (with_reducible refine (wide_Do.calls 12 a0 a1 (IntKind.u16.wrap (a2)) t127 t128 _ A8.out).mono ?_); rintro e w' ⟨rfl, ⟨nd, rfl⟩⟩; refine ⟨_, rfl, ?_⟩) | ((with_reducible refine gate_callee (f := 10) rfl ?_); refine goesL_ (some 36) rfl rfl Try.func10 (by kernel_rfl) rfl #[.int .i64 13, .int .i64 a0, .int .u16 a1, .int .u16 (IntKind.u16.wrap (a2))] rfl (by (try simp only [List.map_toArray, List.map_cons, List.map_nil]); first | done | rfl | (simp only [List.length_drop, List.length_take]; rfl)) ?_; (with_reducible refine (wide_Do.calls 13 a0 a1 (IntKind.u16.wrap (a2)) t129 t130 _ A9.out).mono ?_); rintro e w' ⟨rfl, ⟨nd, rfl⟩⟩; refine ⟨_, rfl, ?_⟩) | ((with_reducible refine gate_callee (f := 16) rfl ?_); refine goesL_ (some 41) rfl rfl Try.func16 (by kernel_rfl) rfl #[.int .i64 a0] rfl (by (try simp only [List.map_toArray, List.map_cons, List.map_nil]); first | done | rfl | (simp only [List.length_drop, List.length_take]; rfl)) ?_; (with_reducible refine (crossroadsref1_Mask.calls a0 t131 _ A10.out).mono ?_); rintro e w' ⟨rfl, ⟨nd, rfl⟩⟩; refine ⟨_, rfl, ?_⟩) | ((with_reducible refine gate_callee (f := 10) rfl ?_); refine goesL_ (some 59) rfl rfl Try.func10 (by kernel_rfl) rfl #[.int .i64 9, .int .i64 a0, .int .u16 a1, .int .u16 ji15] rfl (by (try simp only [List.map_toArray, List.map_cons, List.map_nil]); first | done | (simp only [hji15]; rfl) | rfl | (simp only [List.length_drop, List.length_take]; rfl)) ?_; (with_reducible refine (wide_Do.calls 9 a0 a1 ji15 t132 t133 _ A16.out).mono ?_); rintro e w' ⟨rfl, ⟨nd, rfl⟩⟩; refine ⟨_, rfl, ?_⟩) | ((with_reducible refine gate_callee (f := 10) rfl ?_); refine goesL_ (some 66) rfl rfl Try.func10 (by kernel_rfl) rfl #[.int .i64 10, .int .i64 a0, .int .u16 a1, .int .u16 ji15] rfl (by (try simp only [List.map_toArray, List.map_cons, List.map_nil]); first | done | (simp only [hji15]; rfl) | rfl | (simp only [List.length_drop, List.length_take]; rfl)) ?_; (with_reducible refine (wide_Do.calls 10 a0 a1 ji15 t134 t135 _ A17.out).mono ?_); rintro e w' ⟨rfl, ⟨nd, rfl⟩⟩; refine ⟨_, rfl, ?_⟩))
            go_ret
            exact ⟨by first | rfl | (simp; done) | (simp only [← hji13, ← hji15] <;> (first | rfl | simp)) | (simp [*]; done), by repeat (first | exact Drawn0.refl _ | apply Drawn0.step)⟩
        · rw [if_neg c14] at H
          exact absurd H (by simp)
    · replace c7 := Bool.eq_false_iff.mpr c7
      subst c7
      have H1 : (some true) = some r := by rw [if_neg (show ¬ (false = true) by decide)] at H; exact H
      clear H
      have H := H1
      clear H1
      obtain rfl := Option.some.inj H
      go_enter Try.func6, Try.ntmps6
      go_wp2_with (first | ((with_reducible refine gate_callee (f := 9) rfl ?_); refine goesL_ (some 18) rfl rfl Try.func9 (by kernel_rfl) rfl #[] rfl (by (try simp only [List.map_toArray, List.map_cons, List.map_nil]); first | done | rfl | (simp only [List.length_drop, List.length_take]; rfl)) ?_; (with_reducible refine (crossroadslaw1_awake.calls  true _ A4.out).mono ?_); rintro e w' ⟨rfl, ⟨nd, rfl⟩⟩; refine ⟨_, rfl, ?_⟩) | ((with_reducible refine gate_callee (f := 14) rfl ?_); refine goesL_ (some 21) rfl rfl Try.func14 (by kernel_rfl) rfl #[.int .i64 a0] rfl (by (try simp only [List.map_toArray, List.map_cons, List.map_nil]); first | done | rfl | (simp only [List.length_drop, List.length_take]; rfl)) ?_; (with_reducible refine (crossroadsref1_May.calls a0 false _ A6.out).mono ?_); rintro e w' ⟨rfl, ⟨nd, rfl⟩⟩; refine ⟨_, rfl, ?_⟩))
      go_ret
      exact ⟨by first | rfl | (simp; done) | (simp [*]; done), by repeat (first | exact Drawn0.refl _ | apply Drawn0.step)⟩
  · replace c5 := Bool.eq_false_iff.mpr c5
    subst c5
    have H1 : (some false) = some r := by rw [if_neg (show ¬ (false = true) by decide)] at H; exact H
    clear H
    have H := H1
    clear H1
    obtain rfl := Option.some.inj H
    go_enter Try.func6, Try.ntmps6
    go_wp2_with (first | ((with_reducible refine gate_callee (f := 9) rfl ?_); refine goesL_ (some 18) rfl rfl Try.func9 (by kernel_rfl) rfl #[] rfl (by (try simp only [List.map_toArray, List.map_cons, List.map_nil]); first | done | rfl | (simp only [List.length_drop, List.length_take]; rfl)) ?_; (with_reducible refine (crossroadslaw1_awake.calls  false _ A4.out).mono ?_); rintro e w' ⟨rfl, ⟨nd, rfl⟩⟩; refine ⟨_, rfl, ?_⟩))
    go_ret
    exact ⟨by first | rfl | (simp; done) | (simp [*]; done), by repeat (first | exact Drawn0.refl _ | apply Drawn0.step)⟩

/-- THE ONE PURE STATEMENT of crossroadslaw1_WideShifts. -/
def crossroadslaw1_WideShifts.Pure : Prop := ∀ (a0 : Int) (a1 : Int) (a2 : Int), (Lit.int .i64 a0).wf = true → (Lit.int .u16 a1).wf = true → (Lit.int .u8 a2).wf = true → crossroadslaw1_WideShifts.f a0 a1 a2 = some true

/-! ### crossroadslaw1_WideOrder: function 8 -/
def crossroadslaw1_WideOrder.f (a0 : Int) (a1 : Int) (a2 : Int) : Option (Bool) := (crossroadslaw1_awake.f).bind fun t136 => (if t136 = true then ((crossroadsref1_May.f a0).bind fun t137 => (if t137 = true then (if 0 ≤ (IntKind.u64.wrap (wrap64 (a0 - 1))) then ((wide_Do.f 15 a0 a1 a2).bind fun bt138 => ((wide_Do.f 15 a0 (Go.bits .xor .u16 a1 (shl .u16 1 (IntKind.u64.wrap (wrap64 (a0 - 1))))) (Go.bits .xor .u16 a2 (shl .u16 1 (IntKind.u64.wrap (wrap64 (a0 - 1)))))).bind fun bt140 => ((crossroadsref1_Mask.f a0).bind fun t142 => (if ((bt138.1 == 1) == (decide ((Go.bits .and .u16 a1 t142) < (Go.bits .and .u16 a2 t142)))) = true then ((wide_Signed.f a0 a1).bind fun t143 => ((wide_Signed.f a0 a2).bind fun t144 => (some ((bt140.1 == 1) == (decide (t143 < t144)))))) else (some false))))) else (none)) else (some true))) else (some false))
set_option maxHeartbeats 8000000 in
set_option maxRecDepth 100000 in
theorem crossroadslaw1_WideOrder.calls (a0 : Int) (a1 : Int) (a2 : Int) (r : Bool) (w : World) (h : crossroadslaw1_WideOrder.f a0 a1 a2 = some r) :
    Calls Try.prog 8 #[.int .i64 a0, .int .u16 a1, .int .u16 a2] w fun e w' => e = .returned (.bool r) ∧ Drawn0 w w' := by
  have H : ((crossroadslaw1_awake.f).bind fun t136 => (if t136 = true then ((crossroadsref1_May.f a0).bind fun t137 => (if t137 = true then (if 0 ≤ (IntKind.u64.wrap (wrap64 (a0 - 1))) then ((wide_Do.f 15 a0 a1 a2).bind fun bt138 => ((wide_Do.f 15 a0 (Go.bits .xor .u16 a1 (shl .u16 1 (IntKind.u64.wrap (wrap64 (a0 - 1))))) (Go.bits .xor .u16 a2 (shl .u16 1 (IntKind.u64.wrap (wrap64 (a0 - 1)))))).bind fun bt140 => ((crossroadsref1_Mask.f a0).bind fun t142 => (if ((bt138.1 == 1) == (decide ((Go.bits .and .u16 a1 t142) < (Go.bits .and .u16 a2 t142)))) = true then ((wide_Signed.f a0 a1).bind fun t143 => ((wide_Signed.f a0 a2).bind fun t144 => (some ((bt140.1 == 1) == (decide (t143 < t144)))))) else (some false))))) else (none)) else (some true))) else (some false))) = some r := h
  clear h
  replace H := Option.bind_eq_some_iff.mp H
  obtain ⟨t136, A40, H⟩ := H
  replace H : (if t136 = true then ((crossroadsref1_May.f a0).bind fun t137 => (if t137 = true then (if 0 ≤ (IntKind.u64.wrap (wrap64 (a0 - 1))) then ((wide_Do.f 15 a0 a1 a2).bind fun bt138 => ((wide_Do.f 15 a0 (Go.bits .xor .u16 a1 (shl .u16 1 (IntKind.u64.wrap (wrap64 (a0 - 1))))) (Go.bits .xor .u16 a2 (shl .u16 1 (IntKind.u64.wrap (wrap64 (a0 - 1)))))).bind fun bt140 => ((crossroadsref1_Mask.f a0).bind fun t142 => (if ((bt138.1 == 1) == (decide ((Go.bits .and .u16 a1 t142) < (Go.bits .and .u16 a2 t142)))) = true then ((wide_Signed.f a0 a1).bind fun t143 => ((wide_Signed.f a0 a2).bind fun t144 => (some ((bt140.1 == 1) == (decide (t143 < t144)))))) else (some false))))) else (none)) else (some true))) else (some false)) = some r := H
  have A4 := Aside0.mk A40
  clear A40
  by_cases c5 : t136 = true
  · subst c5
    have H1 : ((crossroadsref1_May.f a0).bind fun t137 => (if t137 = true then (if 0 ≤ (IntKind.u64.wrap (wrap64 (a0 - 1))) then ((wide_Do.f 15 a0 a1 a2).bind fun bt138 => ((wide_Do.f 15 a0 (Go.bits .xor .u16 a1 (shl .u16 1 (IntKind.u64.wrap (wrap64 (a0 - 1))))) (Go.bits .xor .u16 a2 (shl .u16 1 (IntKind.u64.wrap (wrap64 (a0 - 1)))))).bind fun bt140 => ((crossroadsref1_Mask.f a0).bind fun t142 => (if ((bt138.1 == 1) == (decide ((Go.bits .and .u16 a1 t142) < (Go.bits .and .u16 a2 t142)))) = true then ((wide_Signed.f a0 a1).bind fun t143 => ((wide_Signed.f a0 a2).bind fun t144 => (some ((bt140.1 == 1) == (decide (t143 < t144)))))) else (some false))))) else (none)) else (some true))) = some r := by rw [if_pos rfl] at H; exact H
    clear H
    have H := H1
    clear H1
    replace H := Option.bind_eq_some_iff.mp H
    obtain ⟨t137, A60, H⟩ := H
    replace H : (if t137 = true then (if 0 ≤ (IntKind.u64.wrap (wrap64 (a0 - 1))) then ((wide_Do.f 15 a0 a1 a2).bind fun bt138 => ((wide_Do.f 15 a0 (Go.bits .xor .u16 a1 (shl .u16 1 (IntKind.u64.wrap (wrap64 (a0 - 1))))) (Go.bits .xor .u16 a2 (shl .u16 1 (IntKind.u64.wrap (wrap64 (a0 - 1)))))).bind fun bt140 => ((crossroadsref1_Mask.f a0).bind fun t142 => (if ((bt138.1 == 1) == (decide ((Go.bits .and .u16 a1 t142) < (Go.bits .and .u16 a2 t142)))) = true then ((wide_Signed.f a0 a1).bind fun t143 => ((wide_Signed.f a0 a2).bind fun t144 => (some ((bt140.1 == 1) == (decide (t143 < t144)))))) else (some false))))) else (none)) else (some true)) = some r := H
    have A6 := Aside0.mk A60
    clear A60
    by_cases c7 : t137 = true
    · subst c7
      have H1 : (if 0 ≤ (IntKind.u64.wrap (wrap64 (a0 - 1))) then ((wide_Do.f 15 a0 a1 a2).bind fun bt138 => ((wide_Do.f 15 a0 (Go.bits .xor .u16 a1 (shl .u16 1 (IntKind.u64.wrap (wrap64 (a0 - 1))))) (Go.bits .xor .u16 a2 (shl .u16 1 (IntKind.u64.wrap (wrap64 (a0 - 1)))))).bind fun bt140 => ((crossroadsref1_Mask.f a0).bind fun t142 => (if ((bt138.1 == 1) == (decide ((Go.bits .and .u16 a1 t142) < (Go.bits .and .u16 a2 t142)))) = true then ((wide_Signed.f a0 a1).bind fun t143 => ((wide_Signed.f a0 a2).bind fun t144 => (some ((bt140.1 == 1) == (decide (t143 < t144)))))) else (some false))))) else (none)) = some r := by rw [if_pos rfl] at H; exact H
      clear H
      have H := H1
      clear H1
      obtain ⟨ji8, hji8⟩ : ∃ j_ : Int, (IntKind.u64.wrap (wrap64 (a0 - 1))) = j_ := ⟨_, rfl⟩
      replace H : (if 0 ≤ (ji8) then ((wide_Do.f 15 a0 a1 a2).bind fun bt138 => ((wide_Do.f 15 a0 (Go.bits .xor .u16 a1 (shl .u16 1 (ji8))) (Go.bits .xor .u16 a2 (shl .u16 1 (ji8)))).bind fun bt140 => ((crossroadsref1_Mask.f a0).bind fun t142 => (if ((bt138.1 == 1) == (decide ((Go.bits .and .u16 a1 t142) < (Go.bits .and .u16 a2 t142)))) = true then ((wide_Signed.f a0 a1).bind fun t143 => ((wide_Signed.f a0 a2).bind fun t144 => (some ((bt140.1 == 1) == (decide (t143 < t144)))))) else (some false))))) else (none)) = some r := by first | (rw [hji8] at H; exact H) | (simp only [hji8] at H ⊢; exact H)
      (try rw [hji8] at A4)
      (try rw [hji8] at A6)
      by_cases c9 : 0 ≤ (ji8)
      · rw [if_pos c9] at H
        have c9b0 := eq_true c9
        have c9b1 : decide (0 ≤ (ji8)) = true := decide_eq_true c9
        clear c9
        obtain ⟨ji10, hji10⟩ : ∃ j_ : Int, (shl .u16 1 (ji8)) = j_ := ⟨_, rfl⟩
        replace H : ((wide_Do.f 15 a0 a1 a2).bind fun bt138 => ((wide_Do.f 15 a0 (Go.bits .xor .u16 a1 (ji10)) (Go.bits .xor .u16 a2 (ji10))).bind fun bt140 => ((crossroadsref1_Mask.f a0).bind fun t142 => (if ((bt138.1 == 1) == (decide ((Go.bits .and .u16 a1 t142) < (Go.bits .and .u16 a2 t142)))) = true then ((wide_Signed.f a0 a1).bind fun t143 => ((wide_Signed.f a0 a2).bind fun t144 => (some ((bt140.1 == 1) == (decide (t143 < t144)))))) else (some false))))) = some r := by first | (rw [hji10] at H; exact H) | (simp only [hji10] at H ⊢; exact H)
        (try rw [hji10] at A4)
        (try rw [hji10] at A6)
        have hji10_ : (IntKind.u16.wrap (1 * 2 ^ min (ji8).toNat 16)) = ji10 := hji10
        have hji10z : (ji8) ≤ 16 → (IntKind.u16.wrap (1 * 2 ^ (ji8).toNat)) = ji10 := shl_small hji10
        have hji10u : (IntKind.u16.wrap (2 ^ min (ji8).toNat 16)) = ji10 := by have h_ := hji10_; rw [Int.one_mul] at h_; exact h_
        have hji10v : (ji8) ≤ 16 → (IntKind.u16.wrap (2 ^ (ji8).toNat)) = ji10 := fun hle_ => by have h_ := hji10z hle_; rw [Int.one_mul] at h_; exact h_
        replace H := Option.bind_eq_some_iff.mp H
        obtain ⟨⟨t138, t139⟩, A110, H⟩ := H
        replace H : ((wide_Do.f 15 a0 (Go.bits .xor .u16 a1 (ji10)) (Go.bits .xor .u16 a2 (ji10))).bind fun bt140 => ((crossroadsref1_Mask.f a0).bind fun t142 => (if ((t138 == 1) == (decide ((Go.bits .and .u16 a1 t142) < (Go.bits .and .u16 a2 t142)))) = true then ((wide_Signed.f a0 a1).bind fun t143 => ((wide_Signed.f a0 a2).bind fun t144 => (some ((bt140.1 == 1) == (decide (t143 < t144)))))) else (some false)))) = some r := H
        have A11 := Aside0.mk A110
        clear A110
        replace H := Option.bind_eq_some_iff.mp H
        obtain ⟨⟨t140, t141⟩, A120, H⟩ := H
        replace H : ((crossroadsref1_Mask.f a0).bind fun t142 => (if ((t138 == 1) == (decide ((Go.bits .and .u16 a1 t142) < (Go.bits .and .u16 a2 t142)))) = true then ((wide_Signed.f a0 a1).bind fun t143 => ((wide_Signed.f a0 a2).bind fun t144 => (some ((t140 == 1) == (decide (t143 < t144)))))) else (some false))) = some r := H
        have A12 := Aside0.mk A120
        clear A120
        replace H := Option.bind_eq_some_iff.mp H
        obtain ⟨t142, A130, H⟩ := H
        replace H : (if ((t138 == 1) == (decide ((Go.bits .and .u16 a1 t142) < (Go.bits .and .u16 a2 t142)))) = true then ((wide_Signed.f a0 a1).bind fun t143 => ((wide_Signed.f a0 a2).bind fun t144 => (some ((t140 == 1) == (decide (t143 < t144)))))) else (some false)) = some r := H
        have A13 := Aside0.mk A130
        clear A130
        by_cases c14 : ((t138 == 1) == (decide ((Go.bits .and .u16 a1 t142) < (Go.bits .and .u16 a2 t142)))) = true
        · rw [if_pos c14] at H
          have c14b0 : ((t138 == 1) == (decide ((Go.bits .and .u16 a1 t142) < (Go.bits .and .u16 a2 t142)))) = true := c14
          (try (have c14b1 : decide ((t138 == 1) = (decide ((Go.bits .and .u16 a1 t142) < (Go.bits .and .u16 a2 t142)))) = true := by simpa using c14))
          (try (have c14b2 : ((t138 == 1) == (decide ((Go.bits .and .u16 a1 t142) < (Go.bits .and .u16 a2 t142)))) = true := by simpa using c14))
          clear c14
          replace H := Option.bind_eq_some_iff.mp H
          obtain ⟨t143, A150, H⟩ := H
          replace H : ((wide_Signed.f a0 a2).bind fun t144 => (some ((t140 == 1) == (decide (t143 < t144))))) = some r := H
          have A15 := Aside0.mk A150
          clear A150
          replace H := Option.bind_eq_some_iff.mp H
          obtain ⟨t144, A160, H⟩ := H
          replace H : (some ((t140 == 1) == (decide (t143 < t144)))) = some r := H
          have A16 := Aside0.mk A160
          clear A160
          obtain rfl := Option.some.inj H
          go_enter Try.func8, Try.ntmps8
          go_wp2_with (first | ((with_reducible refine gate_callee (f := 9) rfl ?_); refine goesL_ (some 13) rfl rfl Try.func9 (by kernel_rfl) rfl #[] rfl (by (try simp only [List.map_toArray, List.map_cons, List.map_nil]); first | done | rfl | (simp only [List.length_drop, List.length_take]; rfl)) ?_; (with_reducible refine (crossroadslaw1_awake.calls  true _ A4.out).mono ?_); rintro e w' ⟨rfl, ⟨nd, rfl⟩⟩; refine ⟨_, rfl, ?_⟩) | ((with_reducible refine gate_callee (f := 14) rfl ?_); refine goesL_ (some 16) rfl rfl Try.func14 (by kernel_rfl) rfl #[.int .i64 a0] rfl (by (try simp only [List.map_toArray, List.map_cons, List.map_nil]); first | done | rfl | (simp only [List.length_drop, List.length_take]; rfl)) ?_; (with_reducible refine (crossroadsref1_May.calls a0 true _ A6.out).mono ?_); rintro e w' ⟨rfl, ⟨nd, rfl⟩⟩; refine ⟨_, rfl, ?_⟩) | ((with_reducible refine gate_callee (f := 10) rfl ?_); refine goesL_ (some 26) rfl rfl Try.func10 (by kernel_rfl) rfl #[.int .i64 15, .int .i64 a0, .int .u16 a1, .int .u16 a2] rfl (by (try simp only [List.map_toArray, List.map_cons, List.map_nil]); first | done | rfl | (simp only [List.length_drop, List.length_take]; rfl)) ?_; (with_reducible refine (wide_Do.calls 15 a0 a1 a2 t138 t139 _ A11.out).mono ?_); rintro e w' ⟨rfl, ⟨nd, rfl⟩⟩; refine ⟨_, rfl, ?_⟩) | ((with_reducible refine gate_callee (f := 10) rfl ?_); refine goesL_ (some 37) rfl rfl Try.func10 (by kernel_rfl) rfl #[.int .i64 15, .int .i64 a0, .int .u16 (Go.bits .xor .u16 a1 (ji10)), .int .u16 (Go.bits .xor .u16 a2 (ji10))] rfl (by (try simp only [List.map_toArray, List.map_cons, List.map_nil]); first | done | (simp only [hji10]; rfl) | rfl | (simp only [List.length_drop, List.length_take]; rfl)) ?_; (with_reducible refine (wide_Do.calls 15 a0 (Go.bits .xor .u16 a1 (ji10)) (Go.bits .xor .u16 a2 (ji10)) t140 t141 _ A12.out).mono ?_); rintro e w' ⟨rfl, ⟨nd, rfl⟩⟩; refine ⟨_, rfl, ?_⟩) | ((with_reducible refine gate_callee (f := 16) rfl ?_); refine goesL_ (some 41) rfl rfl Try.func16 (by kernel_rfl) rfl #[.int .i64 a0] rfl (by (try simp only [List.map_toArray, List.map_cons, List.map_nil]); first | done | rfl | (simp only [List.length_drop, List.length_take]; rfl)) ?_; (with_reducible refine (crossroadsref1_Mask.calls a0 t142 _ A13.out).mono ?_); rintro e w' ⟨rfl, ⟨nd, rfl⟩⟩; refine ⟨_, rfl, ?_⟩) | (go_at_call 17; (with_reducible refine (wide_Signed.calls a0 a1 t143 _ A15.out).mono ?_); rintro e w' ⟨rfl, ⟨nd, rfl⟩⟩) | (go_at_call 17; (with_reducible refine (wide_Signed.calls a0 a2 t144 _ A16.out).mono ?_); rintro e w' ⟨rfl, ⟨nd, rfl⟩⟩))
          go_ret
          exact ⟨by first | rfl | (simp; done) | (simp only [← hji8, ← hji10] <;> (first | rfl | simp)) | (simp [*]; done), by repeat (first | exact Drawn0.refl _ | apply Drawn0.step)⟩
        · rw [if_neg c14] at H
          have c14b0 : ((t138 == 1) == (decide ((Go.bits .and .u16 a1 t142) < (Go.bits .and .u16 a2 t142)))) = false := by simpa using c14
          (try (have c14b1 : decide ((t138 == 1) = (decide ((Go.bits .and .u16 a1 t142) < (Go.bits .and .u16 a2 t142)))) = false := by simpa using c14))
          (try (have c14b2 : ((t138 == 1) == (decide ((Go.bits .and .u16 a1 t142) < (Go.bits .and .u16 a2 t142)))) = false := by simpa using c14))
          (try (have c14b3 : ¬ ((t138 == 1) = (decide ((Go.bits .and .u16 a1 t142) < (Go.bits .and .u16 a2 t142)))) := by simpa using c14))
          clear c14
          obtain rfl := Option.some.inj H
          go_enter Try.func8, Try.ntmps8
          go_wp2_with (first | ((with_reducible refine gate_callee (f := 9) rfl ?_); refine goesL_ (some 13) rfl rfl Try.func9 (by kernel_rfl) rfl #[] rfl (by (try simp only [List.map_toArray, List.map_cons, List.map_nil]); first | done | rfl | (simp only [List.length_drop, List.length_take]; rfl)) ?_; (with_reducible refine (crossroadslaw1_awake.calls  true _ A4.out).mono ?_); rintro e w' ⟨rfl, ⟨nd, rfl⟩⟩; refine ⟨_, rfl, ?_⟩) | ((with_reducible refine gate_callee (f := 14) rfl ?_); refine goesL_ (some 16) rfl rfl Try.func14 (by kernel_rfl) rfl #[.int .i64 a0] rfl (by (try simp only [List.map_toArray, List.map_cons, List.map_nil]); first | done | rfl | (simp only [List.length_drop, List.length_take]; rfl)) ?_; (with_reducible refine (crossroadsref1_May.calls a0 true _ A6.out).mono ?_); rintro e w' ⟨rfl, ⟨nd, rfl⟩⟩; refine ⟨_, rfl, ?_⟩) | ((with_reducible refine gate_callee (f := 10) rfl ?_); refine goesL_ (some 26) rfl rfl Try.func10 (by kernel_rfl) rfl #[.int .i64 15, .int .i64 a0, .int .u16 a1, .int .u16 a2] rfl (by (try simp only [List.map_toArray, List.map_cons, List.map_nil]); first | done | rfl | (simp only [List.length_drop, List.length_take]; rfl)) ?_; (with_reducible refine (wide_Do.calls 15 a0 a1 a2 t138 t139 _ A11.out).mono ?_); rintro e w' ⟨rfl, ⟨nd, rfl⟩⟩; refine ⟨_, rfl, ?_⟩) | ((with_reducible refine gate_callee (f := 10) rfl ?_); refine goesL_ (some 37) rfl rfl Try.func10 (by kernel_rfl) rfl #[.int .i64 15, .int .i64 a0, .int .u16 (Go.bits .xor .u16 a1 (ji10)), .int .u16 (Go.bits .xor .u16 a2 (ji10))] rfl (by (try simp only [List.map_toArray, List.map_cons, List.map_nil]); first | done | (simp only [hji10]; rfl) | rfl | (simp only [List.length_drop, List.length_take]; rfl)) ?_; (with_reducible refine (wide_Do.calls 15 a0 (Go.bits .xor .u16 a1 (ji10)) (Go.bits .xor .u16 a2 (ji10)) t140 t141 _ A12.out).mono ?_); rintro e w' ⟨rfl, ⟨nd, rfl⟩⟩; refine ⟨_, rfl, ?_⟩) | ((with_reducible refine gate_callee (f := 16) rfl ?_); refine goesL_ (some 41) rfl rfl Try.func16 (by kernel_rfl) rfl #[.int .i64 a0] rfl (by (try simp only [List.map_toArray, List.map_cons, List.map_nil]); first | done | rfl | (simp only [List.length_drop, List.length_take]; rfl)) ?_; (with_reducible refine (crossroadsref1_Mask.calls a0 t142 _ A13.out).mono ?_); rintro e w' ⟨rfl, ⟨nd, rfl⟩⟩; refine ⟨_, rfl, ?_⟩))
          go_ret
          exact ⟨by first | rfl | (simp; done) | (simp only [← hji8, ← hji10] <;> (first | rfl | simp)) | (simp [*]; done), by repeat (first | exact Drawn0.refl _ | apply Drawn0.step)⟩
      · rw [if_neg c9] at H
        exact absurd H (by simp)
    · replace c7 := Bool.eq_false_iff.mpr c7
      subst c7
      have H1 : (some true) = some r := by rw [if_neg (show ¬ (false = true) by decide)] at H; exact H
      clear H
      have H := H1
      clear H1
      obtain rfl := Option.some.inj H
      go_enter Try.func8, Try.ntmps8
      go_wp2_with (first | ((with_reducible refine gate_callee (f := 9) rfl ?_); refine goesL_ (some 13) rfl rfl Try.func9 (by kernel_rfl) rfl #[] rfl (by (try simp only [List.map_toArray, List.map_cons, List.map_nil]); first | done | rfl | (simp only [List.length_drop, List.length_take]; rfl)) ?_; (with_reducible refine (crossroadslaw1_awake.calls  true _ A4.out).mono ?_); rintro e w' ⟨rfl, ⟨nd, rfl⟩⟩; refine ⟨_, rfl, ?_⟩) | ((with_reducible refine gate_callee (f := 14) rfl ?_); refine goesL_ (some 16) rfl rfl Try.func14 (by kernel_rfl) rfl #[.int .i64 a0] rfl (by (try simp only [List.map_toArray, List.map_cons, List.map_nil]); first | done | rfl | (simp only [List.length_drop, List.length_take]; rfl)) ?_; (with_reducible refine (crossroadsref1_May.calls a0 false _ A6.out).mono ?_); rintro e w' ⟨rfl, ⟨nd, rfl⟩⟩; refine ⟨_, rfl, ?_⟩))
      go_ret
      exact ⟨by first | rfl | (simp; done) | (simp [*]; done), by repeat (first | exact Drawn0.refl _ | apply Drawn0.step)⟩
  · replace c5 := Bool.eq_false_iff.mpr c5
    subst c5
    have H1 : (some false) = some r := by rw [if_neg (show ¬ (false = true) by decide)] at H; exact H
    clear H
    have H := H1
    clear H1
    obtain rfl := Option.some.inj H
    go_enter Try.func8, Try.ntmps8
    go_wp2_with (first | ((with_reducible refine gate_callee (f := 9) rfl ?_); refine goesL_ (some 13) rfl rfl Try.func9 (by kernel_rfl) rfl #[] rfl (by (try simp only [List.map_toArray, List.map_cons, List.map_nil]); first | done | rfl | (simp only [List.length_drop, List.length_take]; rfl)) ?_; (with_reducible refine (crossroadslaw1_awake.calls  false _ A4.out).mono ?_); rintro e w' ⟨rfl, ⟨nd, rfl⟩⟩; refine ⟨_, rfl, ?_⟩))
    go_ret
    exact ⟨by first | rfl | (simp; done) | (simp [*]; done), by repeat (first | exact Drawn0.refl _ | apply Drawn0.step)⟩

/-- THE ONE PURE STATEMENT of crossroadslaw1_WideOrder. -/
def crossroadslaw1_WideOrder.Pure : Prop := ∀ (a0 : Int) (a1 : Int) (a2 : Int), (Lit.int .i64 a0).wf = true → (Lit.int .u16 a1).wf = true → (Lit.int .u16 a2).wf = true → crossroadslaw1_WideOrder.f a0 a1 a2 = some true

/-! ### crossroadslaw1_WideWidths: function 7 -/
def crossroadslaw1_WideWidths.j0 : Nat → Int → Int → Int → Bool → Option (Bool)
  | 0, _, _, _, _ => none
  | k + 1, x0, x1, x2, x40 => if x40 = true then (some true) else ((wide_Do.f x0 16 x1 x2).bind fun bt146 => ((wide_Do.f x0 8 x1 x2).bind fun bt148 => ((wide_Do.f x0 1 x1 x2).bind fun bt150 => (if bt146.2 = 0 then (if bt148.2 = 0 then (if bt150.2 = 0 then ((wide_Of.f 8 (wrap64 (bt146.1))).bind fun t152 => (if t152 = bt148.1 then ((wide_Of.f 1 (wrap64 (bt146.1))).bind fun t153 => (some (t153 == bt150.1))) else (some false))) else (some false)) else (some false)) else (some false)))))
def crossroadslaw1_WideWidths.f (k : Nat) (a0 : Int) (a1 : Int) (a2 : Int) : Option (Bool) := (crossroadslaw1_awake.f).bind fun t145 => (if t145 = true then (if a0 = 7 then (crossroadslaw1_WideWidths.j0 k a0 a1 a2 false) else (if a0 = 8 then (crossroadslaw1_WideWidths.j0 k a0 a1 a2 false) else (if a0 = 9 then (crossroadslaw1_WideWidths.j0 k a0 a1 a2 false) else (if a0 = 4 then (crossroadslaw1_WideWidths.j0 k a0 a1 a2 false) else (if a0 = 5 then (crossroadslaw1_WideWidths.j0 k a0 a1 a2 false) else (if a0 = 6 then (crossroadslaw1_WideWidths.j0 k a0 a1 a2 false) else (crossroadslaw1_WideWidths.j0 k a0 a1 a2 (a0 != 3)))))))) else (some false))
theorem crossroadslaw1_WideWidths.mono_l : ∀ k, (∀ y0 y1 y2 y3, LeO (crossroadslaw1_WideWidths.j0 k y0 y1 y2 y3) (crossroadslaw1_WideWidths.j0 (k + 1) y0 y1 y2 y3))
  | 0 => fun _ _ _ _ r h => by simp [crossroadslaw1_WideWidths.j0] at h
  | k + 1 => by
    have ih0 := crossroadslaw1_WideWidths.mono_l k
    · intro y0 y1 y2 y3
      unfold crossroadslaw1_WideWidths.j0
      repeat' first
      | (with_reducible exact ih0 _ _ _ _)
      | (with_reducible exact LeO.refl _)
      | (with_reducible exact LeO.none _)
      | (with_reducible refine LeO.ite ?_ ?_)
      | (with_reducible refine LeO.bind ?_ (fun _ => ?_))
      | exact ih0 _ _ _ _
      | exact LeO.none _
      | refine LeO.ite ?_ ?_
      | refine LeO.bind ?_ (fun _ => ?_)
theorem crossroadslaw1_WideWidths.mono : ∀ a0 a1 a2 k, LeO (crossroadslaw1_WideWidths.f k a0 a1 a2) (crossroadslaw1_WideWidths.f (k + 1) a0 a1 a2) := by
  intro a0 a1 a2 k
  have ih0 := crossroadslaw1_WideWidths.mono_l k
  unfold crossroadslaw1_WideWidths.f
  repeat' first
      | (with_reducible exact ih0 _ _ _ _)
      | (with_reducible exact LeO.refl _)
      | (with_reducible exact LeO.none _)
      | (with_reducible refine LeO.ite ?_ ?_)
      | (with_reducible refine LeO.bind ?_ (fun _ => ?_))
      | exact ih0 _ _ _ _
      | exact LeO.none _
      | refine LeO.ite ?_ ?_
      | refine LeO.bind ?_ (fun _ => ?_)
set_option maxHeartbeats 8000000 in
set_option maxRecDepth 100000 in
theorem crossroadslaw1_WideWidths.calls (k : Nat) (a0 : Int) (a1 : Int) (a2 : Int) (r : Bool) (w : World) (h : crossroadslaw1_WideWidths.f k a0 a1 a2 = some r) :
    Calls Try.prog 7 #[.int .i64 a0, .int .u16 a1, .int .u16 a2] w fun e w' => e = .returned (.bool r) ∧ Drawn0 w w' := by
  have H : ((crossroadslaw1_awake.f).bind fun t145 => (if t145 = true then (if a0 = 7 then (crossroadslaw1_WideWidths.j0 k a0 a1 a2 false) else (if a0 = 8 then (crossroadslaw1_WideWidths.j0 k a0 a1 a2 false) else (if a0 = 9 then (crossroadslaw1_WideWidths.j0 k a0 a1 a2 false) else (if a0 = 4 then (crossroadslaw1_WideWidths.j0 k a0 a1 a2 false) else (if a0 = 5 then (crossroadslaw1_WideWidths.j0 k a0 a1 a2 false) else (if a0 = 6 then (crossroadslaw1_WideWidths.j0 k a0 a1 a2 false) else (crossroadslaw1_WideWidths.j0 k a0 a1 a2 (a0 != 3)))))))) else (some false))) = some r := h
  clear h
  replace H := Option.bind_eq_some_iff.mp H
  obtain ⟨t145, A40, H⟩ := H
  replace H : (if t145 = true then (if a0 = 7 then (crossroadslaw1_WideWidths.j0 k a0 a1 a2 false) else (if a0 = 8 then (crossroadslaw1_WideWidths.j0 k a0 a1 a2 false) else (if a0 = 9 then (crossroadslaw1_WideWidths.j0 k a0 a1 a2 false) else (if a0 = 4 then (crossroadslaw1_WideWidths.j0 k a0 a1 a2 false) else (if a0 = 5 then (crossroadslaw1_WideWidths.j0 k a0 a1 a2 false) else (if a0 = 6 then (crossroadslaw1_WideWidths.j0 k a0 a1 a2 false) else (crossroadslaw1_WideWidths.j0 k a0 a1 a2 (a0 != 3)))))))) else (some false)) = some r := H
  have A4 := Aside0.mk A40
  clear A40
  by_cases c5 : t145 = true
  · subst c5
    have H1 : (if a0 = 7 then (crossroadslaw1_WideWidths.j0 k a0 a1 a2 false) else (if a0 = 8 then (crossroadslaw1_WideWidths.j0 k a0 a1 a2 false) else (if a0 = 9 then (crossroadslaw1_WideWidths.j0 k a0 a1 a2 false) else (if a0 = 4 then (crossroadslaw1_WideWidths.j0 k a0 a1 a2 false) else (if a0 = 5 then (crossroadslaw1_WideWidths.j0 k a0 a1 a2 false) else (if a0 = 6 then (crossroadslaw1_WideWidths.j0 k a0 a1 a2 false) else (crossroadslaw1_WideWidths.j0 k a0 a1 a2 (a0 != 3)))))))) = some r := by rw [if_pos rfl] at H; exact H
    clear H
    have H := H1
    clear H1
    have HC6 := Aside0.mk H
    clear H
    go_enter Try.func7, Try.ntmps7
    go_upto_region 3 with (first | ((with_reducible refine gate_callee (f := 9) rfl ?_); refine goesL_ (some 13) rfl rfl Try.func9 (by kernel_rfl) rfl #[] rfl (by (try simp only [List.map_toArray, List.map_cons, List.map_nil]); first | done | rfl | (simp only [List.length_drop, List.length_take]; rfl)) ?_; (with_reducible refine (crossroadslaw1_awake.calls  true _ A4.out).mono ?_); rintro e w' ⟨rfl, ⟨nd, rfl⟩⟩; refine ⟨_, rfl, ?_⟩))
    (try simp only [Act.put, List.setIfInBounds_toArray, List.set_cons_zero, List.set_cons_succ])
    go_cut [40] (fun v40 wc => ∃ (kq : Nat) (x40_5 : Bool), v40 = .bool x40_5 ∧ Aside0 (crossroadslaw1_WideWidths.j0 kq a0 a1 a2 x40_5 = some r) ∧ Aside0 (kq ≤ k) ∧ Drawn0 w wc)
    case first =>
      have H := HC6.out
      clear HC6
      by_cases c7 : a0 = 7
      · rw [if_pos c7] at H
        have c7b0 : (a0 == 7) = true := beq_iff_eq.mpr c7
        have c7b1 : (a0 != 7) = false := bne_eq_false_iff_eq.mpr c7
        clear c7
        (first | rw [c7b0] | (simp only [i64_w, i32_w]; rw [c7b0]) | skip)
        have H' := Aside0.mk H
        clear H
        go_wp2
        go_meet
        case rel => exact ⟨_, (false), (by first | rfl | (simp; done) | (simp [*]; done)), H', ⟨by first | omega | exact Nat.le_refl _⟩, by repeat (first | exact Drawn0.refl _ | apply Drawn0.step)⟩
      · rw [if_neg c7] at H
        have c7b0 : (a0 == 7) = false := beq_eq_false_iff_ne.mpr c7
        have c7b1 : (a0 != 7) = true := bne_iff_ne.mpr c7
        (first | rw [c7b0] | (simp only [i64_w, i32_w]; rw [c7b0]) | skip)
        by_cases c8 : a0 = 8
        · rw [if_pos c8] at H
          have c8b0 : (a0 == 8) = true := beq_iff_eq.mpr c8
          have c8b1 : (a0 != 8) = false := bne_eq_false_iff_eq.mpr c8
          clear c8
          have H' := Aside0.mk H
          clear H
          go_wp2
          go_meet
          case rel => exact ⟨_, (false), (by first | rfl | (simp; done) | (simp [*]; done)), H', ⟨by first | omega | exact Nat.le_refl _⟩, by repeat (first | exact Drawn0.refl _ | apply Drawn0.step)⟩
        · rw [if_neg c8] at H
          have c8b0 : (a0 == 8) = false := beq_eq_false_iff_ne.mpr c8
          have c8b1 : (a0 != 8) = true := bne_iff_ne.mpr c8
          by_cases c9 : a0 = 9
          · rw [if_pos c9] at H
            have c9b0 : (a0 == 9) = true := beq_iff_eq.mpr c9
            have c9b1 : (a0 != 9) = false := bne_eq_false_iff_eq.mpr c9
            clear c9
            have H' := Aside0.mk H
            clear H
            go_wp2
            go_meet
            case rel => exact ⟨_, (false), (by first | rfl | (simp; done) | (simp [*]; done)), H', ⟨by first | omega | exact Nat.le_refl _⟩, by repeat (first | exact Drawn0.refl _ | apply Drawn0.step)⟩
          · rw [if_neg c9] at H
            have c9b0 : (a0 == 9) = false := beq_eq_false_iff_ne.mpr c9
            have c9b1 : (a0 != 9) = true := bne_iff_ne.mpr c9
            by_cases c10 : a0 = 4
            · rw [if_pos c10] at H
              have c10b0 : (a0 == 4) = true := beq_iff_eq.mpr c10
              have c10b1 : (a0 != 4) = false := bne_eq_false_iff_eq.mpr c10
              clear c10
              have H' := Aside0.mk H
              clear H
              go_wp2
              go_meet
              case rel => exact ⟨_, (false), (by first | rfl | (simp; done) | (simp [*]; done)), H', ⟨by first | omega | exact Nat.le_refl _⟩, by repeat (first | exact Drawn0.refl _ | apply Drawn0.step)⟩
            · rw [if_neg c10] at H
              have c10b0 : (a0 == 4) = false := beq_eq_false_iff_ne.mpr c10
              have c10b1 : (a0 != 4) = true := bne_iff_ne.mpr c10
              by_cases c11 : a0 = 5
              · rw [if_pos c11] at H
                have c11b0 : (a0 == 5) = true := beq_iff_eq.mpr c11
                have c11b1 : (a0 != 5) = false := bne_eq_false_iff_eq.mpr c11
                clear c11
                have H' := Aside0.mk H
                clear H
                go_wp2
                go_meet
                case rel => exact ⟨_, (false), (by first | rfl | (simp; done) | (simp [*]; done)), H', ⟨by first | omega | exact Nat.le_refl _⟩, by repeat (first | exact Drawn0.refl _ | apply Drawn0.step)⟩
              · rw [if_neg c11] at H
                have c11b0 : (a0 == 5) = false := beq_eq_false_iff_ne.mpr c11
                have c11b1 : (a0 != 5) = true := bne_iff_ne.mpr c11
                by_cases c12 : a0 = 6
                · rw [if_pos c12] at H
                  have c12b0 : (a0 == 6) = true := beq_iff_eq.mpr c12
                  have c12b1 : (a0 != 6) = false := bne_eq_false_iff_eq.mpr c12
                  clear c12
                  have H' := Aside0.mk H
                  clear H
                  go_wp2
                  go_meet
                  case rel => exact ⟨_, (false), (by first | rfl | (simp; done) | (simp [*]; done)), H', ⟨by first | omega | exact Nat.le_refl _⟩, by repeat (first | exact Drawn0.refl _ | apply Drawn0.step)⟩
                · rw [if_neg c12] at H
                  have c12b0 : (a0 == 6) = false := beq_eq_false_iff_ne.mpr c12
                  have c12b1 : (a0 != 6) = true := bne_iff_ne.mpr c12
                  have H' := Aside0.mk H
                  clear H
                  go_wp2
                  go_meet
                  case rel => exact ⟨_, ((a0 != 3)), (by first | rfl | (simp; done) | (simp [*]; done)), H', ⟨by first | omega | exact Nat.le_refl _⟩, by repeat (first | exact Drawn0.refl _ | apply Drawn0.step)⟩
    case rest =>
      clear HC6
      try clear c1
      try clear p2
      try clear c5
      try clear c7
      try clear c7b0
      try clear c7b1
      try clear c8
      try clear c8b0
      try clear c8b1
      try clear c9
      try clear c9b0
      try clear c9b1
      try clear c10
      try clear c10b0
      try clear c10b1
      try clear c11
      try clear c11b0
      try clear c11b1
      try clear c12
      try clear c12b0
      try clear c12b1
      obtain ⟨kq, x40_5, rfl, HA, HJ5, ⟨mc5, rfl⟩⟩ := hcut
      cases kq with
      | zero => exact absurd HA.out (by simp [crossroadslaw1_WideWidths.j0])
      | succ kj5 =>
        have H := HA.out
        clear HA
        simp only [crossroadslaw1_WideWidths.j0] at H
        by_cases c13 : x40_5 = true
        · subst c13
          have H1 : (some true) = some r := by rw [if_pos rfl] at H; exact H
          clear H
          have H := H1
          clear H1
          obtain rfl := Option.some.inj H
          go_wp2
          go_ret
          exact ⟨by first | rfl | (simp; done) | (simp [*]; done), by repeat (first | exact Drawn0.refl _ | apply Drawn0.step)⟩
        · replace c13 := Bool.eq_false_iff.mpr c13
          subst c13
          have H1 : ((wide_Do.f a0 16 a1 a2).bind fun bt146 => ((wide_Do.f a0 8 a1 a2).bind fun bt148 => ((wide_Do.f a0 1 a1 a2).bind fun bt150 => (if bt146.2 = 0 then (if bt148.2 = 0 then (if bt150.2 = 0 then ((wide_Of.f 8 (wrap64 (bt146.1))).bind fun t152 => (if t152 = bt148.1 then ((wide_Of.f 1 (wrap64 (bt146.1))).bind fun t153 => (some (t153 == bt150.1))) else (some false))) else (some false)) else (some false)) else (some false))))) = some r := by rw [if_neg (show ¬ (false = true) by decide)] at H; exact H
          clear H
          have H := H1
          clear H1
          replace H := Option.bind_eq_some_iff.mp H
          obtain ⟨⟨t146, t147⟩, A140, H⟩ := H
          replace H : ((wide_Do.f a0 8 a1 a2).bind fun bt148 => ((wide_Do.f a0 1 a1 a2).bind fun bt150 => (if t147 = 0 then (if bt148.2 = 0 then (if bt150.2 = 0 then ((wide_Of.f 8 (wrap64 (t146))).bind fun t152 => (if t152 = bt148.1 then ((wide_Of.f 1 (wrap64 (t146))).bind fun t153 => (some (t153 == bt150.1))) else (some false))) else (some false)) else (some false)) else (some false)))) = some r := H
          have A14 := Aside0.mk A140
          clear A140
          replace H := Option.bind_eq_some_iff.mp H
          obtain ⟨⟨t148, t149⟩, A150, H⟩ := H
          replace H : ((wide_Do.f a0 1 a1 a2).bind fun bt150 => (if t147 = 0 then (if t149 = 0 then (if bt150.2 = 0 then ((wide_Of.f 8 (wrap64 (t146))).bind fun t152 => (if t152 = t148 then ((wide_Of.f 1 (wrap64 (t146))).bind fun t153 => (some (t153 == bt150.1))) else (some false))) else (some false)) else (some false)) else (some false))) = some r := H
          have A15 := Aside0.mk A150
          clear A150
          replace H := Option.bind_eq_some_iff.mp H
          obtain ⟨⟨t150, t151⟩, A160, H⟩ := H
          replace H : (if t147 = 0 then (if t149 = 0 then (if t151 = 0 then ((wide_Of.f 8 (wrap64 (t146))).bind fun t152 => (if t152 = t148 then ((wide_Of.f 1 (wrap64 (t146))).bind fun t153 => (some (t153 == t150))) else (some false))) else (some false)) else (some false)) else (some false)) = some r := H
          have A16 := Aside0.mk A160
          clear A160
          by_cases c17 : t147 = 0
          · rw [if_pos c17] at H
            have c17b0 : (t147 == 0) = true := beq_iff_eq.mpr c17
            have c17b1 : (t147 != 0) = false := bne_eq_false_iff_eq.mpr c17
            clear c17
            by_cases c18 : t149 = 0
            · rw [if_pos c18] at H
              have c18b0 : (t149 == 0) = true := beq_iff_eq.mpr c18
              have c18b1 : (t149 != 0) = false := bne_eq_false_iff_eq.mpr c18
              clear c18
              by_cases c19 : t151 = 0
              · rw [if_pos c19] at H
                have c19b0 : (t151 == 0) = true := beq_iff_eq.mpr c19
                have c19b1 : (t151 != 0) = false := bne_eq_false_iff_eq.mpr c19
                clear c19
                replace H := Option.bind_eq_some_iff.mp H
                obtain ⟨t152, A200, H⟩ := H
                replace H : (if t152 = t148 then ((wide_Of.f 1 (wrap64 (t146))).bind fun t153 => (some (t153 == t150))) else (some false)) = some r := H
                have A20 := Aside0.mk A200
                clear A200
                by_cases c21 : t152 = t148
                · rw [if_pos c21] at H
                  have c21b0 : (t152 == t148) = true := beq_iff_eq.mpr c21
                  have c21b1 : (t152 != t148) = false := bne_eq_false_iff_eq.mpr c21
                  clear c21
                  replace H := Option.bind_eq_some_iff.mp H
                  obtain ⟨t153, A220, H⟩ := H
                  replace H : (some (t153 == t150)) = some r := H
                  have A22 := Aside0.mk A220
                  clear A220
                  obtain rfl := Option.some.inj H
                  go_wp2_with (first | ((with_reducible refine gate_callee (f := 10) rfl ?_); refine goesL_ (some 45) rfl rfl Try.func10 (by kernel_rfl) rfl #[.int .i64 a0, .int .i64 16, .int .u16 a1, .int .u16 a2] rfl (by (try simp only [List.map_toArray, List.map_cons, List.map_nil]); first | done | rfl | (simp only [List.length_drop, List.length_take]; rfl)) ?_; (with_reducible refine (wide_Do.calls a0 16 a1 a2 t146 t147 _ A14.out).mono ?_); rintro e w' ⟨rfl, ⟨nd, rfl⟩⟩; refine ⟨_, rfl, ?_⟩) | ((with_reducible refine gate_callee (f := 10) rfl ?_); refine goesL_ (some 52) rfl rfl Try.func10 (by kernel_rfl) rfl #[.int .i64 a0, .int .i64 8, .int .u16 a1, .int .u16 a2] rfl (by (try simp only [List.map_toArray, List.map_cons, List.map_nil]); first | done | rfl | (simp only [List.length_drop, List.length_take]; rfl)) ?_; (with_reducible refine (wide_Do.calls a0 8 a1 a2 t148 t149 _ A15.out).mono ?_); rintro e w' ⟨rfl, ⟨nd, rfl⟩⟩; refine ⟨_, rfl, ?_⟩) | ((with_reducible refine gate_callee (f := 10) rfl ?_); refine goesL_ (some 59) rfl rfl Try.func10 (by kernel_rfl) rfl #[.int .i64 a0, .int .i64 1, .int .u16 a1, .int .u16 a2] rfl (by (try simp only [List.map_toArray, List.map_cons, List.map_nil]); first | done | rfl | (simp only [List.length_drop, List.length_take]; rfl)) ?_; (with_reducible refine (wide_Do.calls a0 1 a1 a2 t150 t151 _ A16.out).mono ?_); rintro e w' ⟨rfl, ⟨nd, rfl⟩⟩; refine ⟨_, rfl, ?_⟩) | (go_at_call 18; (with_reducible refine (wide_Of.calls 8 (wrap64 (t146)) t152 _ A20.out).mono ?_); rintro e w' ⟨rfl, ⟨nd, rfl⟩⟩) | (go_at_call 18; (with_reducible refine (wide_Of.calls 1 (wrap64 (t146)) t153 _ A22.out).mono ?_); rintro e w' ⟨rfl, ⟨nd, rfl⟩⟩))
                  go_ret
                  exact ⟨by first | rfl | (simp; done) | (simp [*]; done), by repeat (first | exact Drawn0.refl _ | apply Drawn0.step)⟩
                · rw [if_neg c21] at H
                  have c21b0 : (t152 == t148) = false := beq_eq_false_iff_ne.mpr c21
                  have c21b1 : (t152 != t148) = true := bne_iff_ne.mpr c21
                  obtain rfl := Option.some.inj H
                  go_wp2_with (first | ((with_reducible refine gate_callee (f := 10) rfl ?_); refine goesL_ (some 45) rfl rfl Try.func10 (by kernel_rfl) rfl #[.int .i64 a0, .int .i64 16, .int .u16 a1, .int .u16 a2] rfl (by (try simp only [List.map_toArray, List.map_cons, List.map_nil]); first | done | rfl | (simp only [List.length_drop, List.length_take]; rfl)) ?_; (with_reducible refine (wide_Do.calls a0 16 a1 a2 t146 t147 _ A14.out).mono ?_); rintro e w' ⟨rfl, ⟨nd, rfl⟩⟩; refine ⟨_, rfl, ?_⟩) | ((with_reducible refine gate_callee (f := 10) rfl ?_); refine goesL_ (some 52) rfl rfl Try.func10 (by kernel_rfl) rfl #[.int .i64 a0, .int .i64 8, .int .u16 a1, .int .u16 a2] rfl (by (try simp only [List.map_toArray, List.map_cons, List.map_nil]); first | done | rfl | (simp only [List.length_drop, List.length_take]; rfl)) ?_; (with_reducible refine (wide_Do.calls a0 8 a1 a2 t148 t149 _ A15.out).mono ?_); rintro e w' ⟨rfl, ⟨nd, rfl⟩⟩; refine ⟨_, rfl, ?_⟩) | ((with_reducible refine gate_callee (f := 10) rfl ?_); refine goesL_ (some 59) rfl rfl Try.func10 (by kernel_rfl) rfl #[.int .i64 a0, .int .i64 1, .int .u16 a1, .int .u16 a2] rfl (by (try simp only [List.map_toArray, List.map_cons, List.map_nil]); first | done | rfl | (simp only [List.length_drop, List.length_take]; rfl)) ?_; (with_reducible refine (wide_Do.calls a0 1 a1 a2 t150 t151 _ A16.out).mono ?_); rintro e w' ⟨rfl, ⟨nd, rfl⟩⟩; refine ⟨_, rfl, ?_⟩) | (go_at_call 18; (with_reducible refine (wide_Of.calls 8 (wrap64 (t146)) t152 _ A20.out).mono ?_); rintro e w' ⟨rfl, ⟨nd, rfl⟩⟩))
                  go_ret
                  exact ⟨by first | rfl | (simp; done) | (simp [*]; done), by repeat (first | exact Drawn0.refl _ | apply Drawn0.step)⟩
              · rw [if_neg c19] at H
                have c19b0 : (t151 == 0) = false := beq_eq_false_iff_ne.mpr c19
                have c19b1 : (t151 != 0) = true := bne_iff_ne.mpr c19
                obtain rfl := Option.some.inj H
                go_wp2_with (first | ((with_reducible refine gate_callee (f := 10) rfl ?_); refine goesL_ (some 45) rfl rfl Try.func10 (by kernel_rfl) rfl #[.int .i64 a0, .int .i64 16, .int .u16 a1, .int .u16 a2] rfl (by (try simp only [List.map_toArray, List.map_cons, List.map_nil]); first | done | rfl | (simp only [List.length_drop, List.length_take]; rfl)) ?_; (with_reducible refine (wide_Do.calls a0 16 a1 a2 t146 t147 _ A14.out).mono ?_); rintro e w' ⟨rfl, ⟨nd, rfl⟩⟩; refine ⟨_, rfl, ?_⟩) | ((with_reducible refine gate_callee (f := 10) rfl ?_); refine goesL_ (some 52) rfl rfl Try.func10 (by kernel_rfl) rfl #[.int .i64 a0, .int .i64 8, .int .u16 a1, .int .u16 a2] rfl (by (try simp only [List.map_toArray, List.map_cons, List.map_nil]); first | done | rfl | (simp only [List.length_drop, List.length_take]; rfl)) ?_; (with_reducible refine (wide_Do.calls a0 8 a1 a2 t148 t149 _ A15.out).mono ?_); rintro e w' ⟨rfl, ⟨nd, rfl⟩⟩; refine ⟨_, rfl, ?_⟩) | ((with_reducible refine gate_callee (f := 10) rfl ?_); refine goesL_ (some 59) rfl rfl Try.func10 (by kernel_rfl) rfl #[.int .i64 a0, .int .i64 1, .int .u16 a1, .int .u16 a2] rfl (by (try simp only [List.map_toArray, List.map_cons, List.map_nil]); first | done | rfl | (simp only [List.length_drop, List.length_take]; rfl)) ?_; (with_reducible refine (wide_Do.calls a0 1 a1 a2 t150 t151 _ A16.out).mono ?_); rintro e w' ⟨rfl, ⟨nd, rfl⟩⟩; refine ⟨_, rfl, ?_⟩))
                go_ret
                exact ⟨by first | rfl | (simp; done) | (simp [*]; done), by repeat (first | exact Drawn0.refl _ | apply Drawn0.step)⟩
            · rw [if_neg c18] at H
              have c18b0 : (t149 == 0) = false := beq_eq_false_iff_ne.mpr c18
              have c18b1 : (t149 != 0) = true := bne_iff_ne.mpr c18
              obtain rfl := Option.some.inj H
              go_wp2_with (first | ((with_reducible refine gate_callee (f := 10) rfl ?_); refine goesL_ (some 45) rfl rfl Try.func10 (by kernel_rfl) rfl #[.int .i64 a0, .int .i64 16, .int .u16 a1, .int .u16 a2] rfl (by (try simp only [List.map_toArray, List.map_cons, List.map_nil]); first | done | rfl | (simp only [List.length_drop, List.length_take]; rfl)) ?_; (with_reducible refine (wide_Do.calls a0 16 a1 a2 t146 t147 _ A14.out).mono ?_); rintro e w' ⟨rfl, ⟨nd, rfl⟩⟩; refine ⟨_, rfl, ?_⟩) | ((with_reducible refine gate_callee (f := 10) rfl ?_); refine goesL_ (some 52) rfl rfl Try.func10 (by kernel_rfl) rfl #[.int .i64 a0, .int .i64 8, .int .u16 a1, .int .u16 a2] rfl (by (try simp only [List.map_toArray, List.map_cons, List.map_nil]); first | done | rfl | (simp only [List.length_drop, List.length_take]; rfl)) ?_; (with_reducible refine (wide_Do.calls a0 8 a1 a2 t148 t149 _ A15.out).mono ?_); rintro e w' ⟨rfl, ⟨nd, rfl⟩⟩; refine ⟨_, rfl, ?_⟩) | ((with_reducible refine gate_callee (f := 10) rfl ?_); refine goesL_ (some 59) rfl rfl Try.func10 (by kernel_rfl) rfl #[.int .i64 a0, .int .i64 1, .int .u16 a1, .int .u16 a2] rfl (by (try simp only [List.map_toArray, List.map_cons, List.map_nil]); first | done | rfl | (simp only [List.length_drop, List.length_take]; rfl)) ?_; (with_reducible refine (wide_Do.calls a0 1 a1 a2 t150 t151 _ A16.out).mono ?_); rintro e w' ⟨rfl, ⟨nd, rfl⟩⟩; refine ⟨_, rfl, ?_⟩))
              go_ret
              exact ⟨by first | rfl | (simp; done) | (simp [*]; done), by repeat (first | exact Drawn0.refl _ | apply Drawn0.step)⟩
          · rw [if_neg c17] at H
            have c17b0 : (t147 == 0) = false := beq_eq_false_iff_ne.mpr c17
            have c17b1 : (t147 != 0) = true := bne_iff_ne.mpr c17
            obtain rfl := Option.some.inj H
            go_wp2_with (first | ((with_reducible refine gate_callee (f := 10) rfl ?_); refine goesL_ (some 45) rfl rfl Try.func10 (by kernel_rfl) rfl #[.int .i64 a0, .int .i64 16, .int .u16 a1, .int .u16 a2] rfl (by (try simp only [List.map_toArray, List.map_cons, List.map_nil]); first | done | rfl | (simp only [List.length_drop, List.length_take]; rfl)) ?_; (with_reducible refine (wide_Do.calls a0 16 a1 a2 t146 t147 _ A14.out).mono ?_); rintro e w' ⟨rfl, ⟨nd, rfl⟩⟩; refine ⟨_, rfl, ?_⟩) | ((with_reducible refine gate_callee (f := 10) rfl ?_); refine goesL_ (some 52) rfl rfl Try.func10 (by kernel_rfl) rfl #[.int .i64 a0, .int .i64 8, .int .u16 a1, .int .u16 a2] rfl (by (try simp only [List.map_toArray, List.map_cons, List.map_nil]); first | done | rfl | (simp only [List.length_drop, List.length_take]; rfl)) ?_; (with_reducible refine (wide_Do.calls a0 8 a1 a2 t148 t149 _ A15.out).mono ?_); rintro e w' ⟨rfl, ⟨nd, rfl⟩⟩; refine ⟨_, rfl, ?_⟩) | ((with_reducible refine gate_callee (f := 10) rfl ?_); refine goesL_ (some 59) rfl rfl Try.func10 (by kernel_rfl) rfl #[.int .i64 a0, .int .i64 1, .int .u16 a1, .int .u16 a2] rfl (by (try simp only [List.map_toArray, List.map_cons, List.map_nil]); first | done | rfl | (simp only [List.length_drop, List.length_take]; rfl)) ?_; (with_reducible refine (wide_Do.calls a0 1 a1 a2 t150 t151 _ A16.out).mono ?_); rintro e w' ⟨rfl, ⟨nd, rfl⟩⟩; refine ⟨_, rfl, ?_⟩))
            go_ret
            exact ⟨by first | rfl | (simp; done) | (simp [*]; done), by repeat (first | exact Drawn0.refl _ | apply Drawn0.step)⟩
  · replace c5 := Bool.eq_false_iff.mpr c5
    subst c5
    have H1 : (some false) = some r := by rw [if_neg (show ¬ (false = true) by decide)] at H; exact H
    clear H
    have H := H1
    clear H1
    obtain rfl := Option.some.inj H
    go_enter Try.func7, Try.ntmps7
    go_wp2_with (first | ((with_reducible refine gate_callee (f := 9) rfl ?_); refine goesL_ (some 13) rfl rfl Try.func9 (by kernel_rfl) rfl #[] rfl (by (try simp only [List.map_toArray, List.map_cons, List.map_nil]); first | done | rfl | (simp only [List.length_drop, List.length_take]; rfl)) ?_; (with_reducible refine (crossroadslaw1_awake.calls  false _ A4.out).mono ?_); rintro e w' ⟨rfl, ⟨nd, rfl⟩⟩; refine ⟨_, rfl, ?_⟩))
    go_ret
    exact ⟨by first | rfl | (simp; done) | (simp [*]; done), by repeat (first | exact Drawn0.refl _ | apply Drawn0.step)⟩

/-- THE ONE PURE STATEMENT of crossroadslaw1_WideWidths. -/
def crossroadslaw1_WideWidths.Pure : Prop := ∀ (a0 : Int) (a1 : Int) (a2 : Int), (Lit.int .i64 a0).wf = true → (Lit.int .u16 a1).wf = true → (Lit.int .u16 a2).wf = true → ∃ k, crossroadslaw1_WideWidths.f k a0 a1 a2 = some true

end Go.Proofs.Ytcjoblnfbopaeaa.P
