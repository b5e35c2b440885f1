-- Laid by a program of this session (the kit's print, changed): Lean checks it.
import Derived.Test.YtpkdmnjonfophaaPx0
import Derived.Test.YtpkdmnjonfophaaPx1
namespace Go.Proofs.Ytpkdmnjonfophaa.G
end Go.Proofs.Ytpkdmnjonfophaa.G
namespace Go.Proofs.Ytpkdmnjonfophaa.P
open Go.Proofs.Ytpkdmnjonfophaa.G
open Go.RowKit Go.Proofs.YtpkdmnjonfophaaW.PrintWords Go.Proofs.YtpkdmnjonfophaaW.PrintLast Go.Proofs.YtpkdmnjonfophaaW.PrintMore
attribute [local go_sem] max2_int min2_int max_two min_two max_three min_three max_four min_four   -- for this text's walks alone
set_option linter.unusedVariables false
set_option linter.unusedSimpArgs false

/-! ### crossroadslaw12_NamesJoin: function 6 -/
def crossroadslaw12_NamesJoin.j0 : Nat → ByteArray → ByteArray → ByteArray → Bool → Option (Bool)
  | 0, _, _, _, _ => none
  | k + 1, x0, x1, x2, x25 => if x25 = true then (some true) else (if x0.size + 1 ≤ 9223372036854775807 then (if (x0 ++ (⟨#[47]⟩ : ByteArray)).size + x1.size ≤ 9223372036854775807 then ((names_Split.f k ((x0 ++ (⟨#[47]⟩ : ByteArray)) ++ x1)).bind fun bt195 => ((names_May.f k ((x0 ++ (⟨#[47]⟩ : ByteArray)) ++ x1)).bind fun t197 => (if (t197 == (decide ((((x0 ++ (⟨#[47]⟩ : ByteArray)) ++ x1).size : Int) ≤ 8))) = true then (if ((((x0 ++ (⟨#[47]⟩ : ByteArray)) ++ x1).size : Int) ≤ 8) then (if bt195.1.toList = x0.toList then (if bt195.2.toList = x1.toList then ((names_Deep.f k ((x0 ++ (⟨#[47]⟩ : ByteArray)) ++ x1)).bind fun t198 => (if t198 = 2 then (if ((x0 ++ (⟨#[47]⟩ : ByteArray)) ++ x1).size + 1 ≤ 9223372036854775807 then (if (((x0 ++ (⟨#[47]⟩ : ByteArray)) ++ x1) ++ (⟨#[47]⟩ : ByteArray)).size + x2.size ≤ 9223372036854775807 then ((names_May.f k ((((x0 ++ (⟨#[47]⟩ : ByteArray)) ++ x1) ++ (⟨#[47]⟩ : ByteArray)) ++ x2)).bind fun t199 => (if t199 = true then (none) else ((names_May.f k (((x0 ++ (⟨#[47]⟩ : ByteArray)) ++ x1) ++ (⟨#[47]⟩ : ByteArray))).bind fun t200 => (if t200 = true then (none) else (if 1 + x0.size ≤ 9223372036854775807 then ((names_May.f k ((⟨#[47]⟩ : ByteArray) ++ x0)).bind fun t201 => (some (!t201))) else (none)))))) else (none)) else (none)) else (none))) else (none)) else (none)) else (if ((x0 ++ (⟨#[47]⟩ : ByteArray)) ++ x1).size + 1 ≤ 9223372036854775807 then (if (((x0 ++ (⟨#[47]⟩ : ByteArray)) ++ x1) ++ (⟨#[47]⟩ : ByteArray)).size + x2.size ≤ 9223372036854775807 then ((names_May.f k ((((x0 ++ (⟨#[47]⟩ : ByteArray)) ++ x1) ++ (⟨#[47]⟩ : ByteArray)) ++ x2)).bind fun t202 => (if t202 = true then (none) else ((names_May.f k (((x0 ++ (⟨#[47]⟩ : ByteArray)) ++ x1) ++ (⟨#[47]⟩ : ByteArray))).bind fun t203 => (if t203 = true then (none) else (if 1 + x0.size ≤ 9223372036854775807 then ((names_May.f k ((⟨#[47]⟩ : ByteArray) ++ x0)).bind fun t204 => (some (!t204))) else (none)))))) else (none)) else (none))) else (none)))) else (none)) else (none))
def crossroadslaw12_NamesJoin.f (k : Nat) (a0 : ByteArray) (a1 : ByteArray) (a2 : ByteArray) : Option (Bool) := (crossroadslaw12_awake.f k).bind fun t191 => (if t191 = true then ((names_Deep.f k a0).bind fun t192 => (if t192 = 1 then ((names_Deep.f k a1).bind fun t193 => (if t193 = 1 then ((names_Deep.f k a2).bind fun t194 => (crossroadslaw12_NamesJoin.j0 k a0 a1 a2 (t194 != 1))) else (crossroadslaw12_NamesJoin.j0 k a0 a1 a2 true))) else (crossroadslaw12_NamesJoin.j0 k a0 a1 a2 true))) else (none))
theorem crossroadslaw12_NamesJoin.mono_l : ∀ k, (∀ y0 y1 y2 y3, LeO (crossroadslaw12_NamesJoin.j0 k y0 y1 y2 y3) (crossroadslaw12_NamesJoin.j0 (k + 1) y0 y1 y2 y3))
  | 0 => fun _ _ _ _ r h => by simp [crossroadslaw12_NamesJoin.j0] at h
  | k + 1 => by
    have ih0 := crossroadslaw12_NamesJoin.mono_l k
    · intro y0 y1 y2 y3
      unfold crossroadslaw12_NamesJoin.j0
      repeat' first
      | (with_reducible exact ih0 _ _ _ _)
      | (with_reducible exact crossroadslaw12_awake.mono _)
      | (with_reducible exact names_Deep.mono _ _)
      | (with_reducible exact names_May.mono _ _)
      | (with_reducible exact names_Split.mono _ _)
      | (with_reducible exact LeO.refl _)
      | (with_reducible exact LeO.none _)
      | (with_reducible refine LeO.ite ?_ ?_)
      | (with_reducible refine LeO.bind ?_ (fun _ => ?_))
      | exact ih0 _ _ _ _
      | exact crossroadslaw12_awake.mono _
      | exact names_Deep.mono _ _
      | exact names_May.mono _ _
      | exact names_Split.mono _ _
      | exact LeO.none _
      | refine LeO.ite ?_ ?_
      | refine LeO.bind ?_ (fun _ => ?_)
theorem crossroadslaw12_NamesJoin.mono : ∀ a0 a1 a2 k, LeO (crossroadslaw12_NamesJoin.f k a0 a1 a2) (crossroadslaw12_NamesJoin.f (k + 1) a0 a1 a2) := by
  intro a0 a1 a2 k
  have ih0 := crossroadslaw12_NamesJoin.mono_l k
  unfold crossroadslaw12_NamesJoin.f
  repeat' first
      | (with_reducible exact ih0 _ _ _ _)
      | (with_reducible exact crossroadslaw12_awake.mono _)
      | (with_reducible exact names_Deep.mono _ _)
      | (with_reducible exact names_May.mono _ _)
      | (with_reducible exact names_Split.mono _ _)
      | (with_reducible exact LeO.refl _)
      | (with_reducible exact LeO.none _)
      | (with_reducible refine LeO.ite ?_ ?_)
      | (with_reducible refine LeO.bind ?_ (fun _ => ?_))
      | exact ih0 _ _ _ _
      | exact crossroadslaw12_awake.mono _
      | exact names_Deep.mono _ _
      | exact names_May.mono _ _
      | exact names_Split.mono _ _
      | exact LeO.none _
      | refine LeO.ite ?_ ?_
      | refine LeO.bind ?_ (fun _ => ?_)
set_option maxHeartbeats 8000000 in
set_option maxRecDepth 100000 in
theorem crossroadslaw12_NamesJoin.calls (k : Nat) (a0 : ByteArray) (a1 : ByteArray) (a2 : ByteArray) (r : Bool) (w : World) (h : crossroadslaw12_NamesJoin.f k a0 a1 a2 = some r) :
    Calls Try.prog 6 #[.string a0, .string a1, .string a2] w fun e w' => e = .returned (.bool r) ∧ Below w.heap.size w w' := by
  have HB := Aside0.mk (Below.refl w.heap.size w)
  have H : ((crossroadslaw12_awake.f k).bind fun t191 => (if t191 = true then ((names_Deep.f k a0).bind fun t192 => (if t192 = 1 then ((names_Deep.f k a1).bind fun t193 => (if t193 = 1 then ((names_Deep.f k a2).bind fun t194 => (crossroadslaw12_NamesJoin.j0 k a0 a1 a2 (t194 != 1))) else (crossroadslaw12_NamesJoin.j0 k a0 a1 a2 true))) else (crossroadslaw12_NamesJoin.j0 k a0 a1 a2 true))) else (none))) = some r := h
  clear h
  replace H := Option.bind_eq_some_iff.mp H
  obtain ⟨t191, A40, H⟩ := H
  replace H : (if t191 = true then ((names_Deep.f k a0).bind fun t192 => (if t192 = 1 then ((names_Deep.f k a1).bind fun t193 => (if t193 = 1 then ((names_Deep.f k a2).bind fun t194 => (crossroadslaw12_NamesJoin.j0 k a0 a1 a2 (t194 != 1))) else (crossroadslaw12_NamesJoin.j0 k a0 a1 a2 true))) else (crossroadslaw12_NamesJoin.j0 k a0 a1 a2 true))) else (none)) = some r := H
  have A4 := Aside0.mk A40
  clear A40
  by_cases c5 : t191 = true
  · subst c5
    have H1 : ((names_Deep.f k a0).bind fun t192 => (if t192 = 1 then ((names_Deep.f k a1).bind fun t193 => (if t193 = 1 then ((names_Deep.f k a2).bind fun t194 => (crossroadslaw12_NamesJoin.j0 k a0 a1 a2 (t194 != 1))) else (crossroadslaw12_NamesJoin.j0 k a0 a1 a2 true))) else (crossroadslaw12_NamesJoin.j0 k a0 a1 a2 true))) = some r := by rw [if_pos rfl] at H; exact H
    clear H
    have H := H1
    clear H1
    have HC6 := Aside0.mk H
    clear H
    go_enter Try.func6, Try.ntmps6
    go_upto_region 3 with (first | ((with_reducible refine gate_callee (f := 7) rfl ?_); refine goesL_ (some 11) rfl rfl Try.func7 (by kernel_rfl) rfl #[] rfl (by (try simp only [List.map_toArray, List.map_cons, List.map_nil]); first | done | rfl | (simp only [List.length_drop, List.length_take]; rfl)) ?_; (with_reducible refine (crossroadslaw12_awake.calls k  true _ A4.out).mono ?_); rintro e w7 ⟨rfl, hb⟩; refine ⟨_, rfl, ?_⟩; have n0_ := Aside0.mk (below_step (by repeat (first | (with_reducible first | exact HB.out | apply below_alloc | apply pw_below_drewN | apply below_drew1) | exact HB.out)) hb); clear HB; have HB := n0_; clear n0_; (try clear hb); (try clear hb2); (try clear hk); (try clear hi)))
    (try simp only [Act.put, List.setIfInBounds_toArray, List.set_cons_zero, List.set_cons_succ])
    go_cut [25] (fun v25 wc => ∃ (kq : Nat) (x25_5 : Bool), v25 = .bool x25_5 ∧ Aside0 (crossroadslaw12_NamesJoin.j0 kq a0 a1 a2 x25_5 = some r) ∧ Aside0 (kq ≤ k) ∧ Aside0 (Below w.heap.size w wc))
    case first =>
      have H := HC6.out
      clear HC6
      replace H := Option.bind_eq_some_iff.mp H
      obtain ⟨t192, A80, H⟩ := H
      replace H : (if t192 = 1 then ((names_Deep.f k a1).bind fun t193 => (if t193 = 1 then ((names_Deep.f k a2).bind fun t194 => (crossroadslaw12_NamesJoin.j0 k a0 a1 a2 (t194 != 1))) else (crossroadslaw12_NamesJoin.j0 k a0 a1 a2 true))) else (crossroadslaw12_NamesJoin.j0 k a0 a1 a2 true)) = some r := H
      have A8 := Aside0.mk A80
      clear A80
      by_cases c9 : t192 = 1
      · rw [if_pos c9] at H
        have c9b0 : (t192 == 1) = true := beq_iff_eq.mpr c9
        have c9b1 : (t192 != 1) = false := bne_eq_false_iff_eq.mpr c9
        clear c9
        (first | rw [c9b0] | (simp only [i64_w, i32_w]; rw [c9b0]) | (rw [c9b2]; (try simp only [Bool.not_true, Bool.not_false])) | skip)
        replace H := Option.bind_eq_some_iff.mp H
        obtain ⟨t193, A100, H⟩ := H
        replace H : (if t193 = 1 then ((names_Deep.f k a2).bind fun t194 => (crossroadslaw12_NamesJoin.j0 k a0 a1 a2 (t194 != 1))) else (crossroadslaw12_NamesJoin.j0 k a0 a1 a2 true)) = some r := H
        have A10 := Aside0.mk A100
        clear A100
        by_cases c11 : t193 = 1
        · rw [if_pos c11] at H
          have c11b0 : (t193 == 1) = true := beq_iff_eq.mpr c11
          have c11b1 : (t193 != 1) = false := bne_eq_false_iff_eq.mpr c11
          clear c11
          replace H := Option.bind_eq_some_iff.mp H
          obtain ⟨t194, A120, H⟩ := H
          replace H : (crossroadslaw12_NamesJoin.j0 k a0 a1 a2 (t194 != 1)) = some r := H
          have A12 := Aside0.mk A120
          clear A120
          have H' := Aside0.mk H
          clear H
          go_wp2_with (first | ((with_reducible refine gate_callee (f := 12) rfl ?_); refine goesL_ (some 14) rfl rfl Try.func12 (by kernel_rfl) rfl #[.string a0] rfl (by (try simp only [List.map_toArray, List.map_cons, List.map_nil]); first | done | rfl | (simp only [List.length_drop, List.length_take]; rfl)) ?_; (with_reducible refine (names_Deep.calls k a0 t192 _ A8.out).mono ?_); rintro e w' ⟨rfl, ⟨nd, rfl⟩⟩; refine ⟨_, rfl, ?_⟩) | (go_at_call 12; (with_reducible refine (names_Deep.calls k a1 t193 _ A10.out).mono ?_); rintro e w' ⟨rfl, ⟨nd, rfl⟩⟩) | (go_at_call 12; (with_reducible refine (names_Deep.calls k a2 t194 _ A12.out).mono ?_); rintro e w' ⟨rfl, ⟨nd, rfl⟩⟩))
          go_meet
          case rel => exact ⟨_, ((t194 != 1)), (by first | rfl | (simp; done) | (simp [*]; done)), H', ⟨by first | omega | exact Nat.le_refl _⟩, ⟨by repeat (first | (with_reducible first | exact HB.out | apply below_alloc | apply pw_below_drewN | apply below_drew1) | exact HB.out)⟩⟩
        · rw [if_neg c11] at H
          have c11b0 : (t193 == 1) = false := beq_eq_false_iff_ne.mpr c11
          have c11b1 : (t193 != 1) = true := bne_iff_ne.mpr c11
          have H' := Aside0.mk H
          clear H
          go_wp2_with (first | ((with_reducible refine gate_callee (f := 12) rfl ?_); refine goesL_ (some 14) rfl rfl Try.func12 (by kernel_rfl) rfl #[.string a0] rfl (by (try simp only [List.map_toArray, List.map_cons, List.map_nil]); first | done | rfl | (simp only [List.length_drop, List.length_take]; rfl)) ?_; (with_reducible refine (names_Deep.calls k a0 t192 _ A8.out).mono ?_); rintro e w' ⟨rfl, ⟨nd, rfl⟩⟩; refine ⟨_, rfl, ?_⟩) | (go_at_call 12; (with_reducible refine (names_Deep.calls k a1 t193 _ A10.out).mono ?_); rintro e w' ⟨rfl, ⟨nd, rfl⟩⟩))
          go_meet
          case rel => exact ⟨_, (true), (by first | rfl | (simp; done) | (simp [*]; done)), H', ⟨by first | omega | exact Nat.le_refl _⟩, ⟨by repeat (first | (with_reducible first | exact HB.out | apply below_alloc | apply pw_below_drewN | apply below_drew1) | exact HB.out)⟩⟩
      · rw [if_neg c9] at H
        have c9b0 : (t192 == 1) = false := beq_eq_false_iff_ne.mpr c9
        have c9b1 : (t192 != 1) = true := bne_iff_ne.mpr c9
        (first | rw [c9b0] | (simp only [i64_w, i32_w]; rw [c9b0]) | (rw [c9b2]; (try simp only [Bool.not_true, Bool.not_false])) | skip)
        have H' := Aside0.mk H
        clear H
        go_wp2_with (first | ((with_reducible refine gate_callee (f := 12) rfl ?_); refine goesL_ (some 14) rfl rfl Try.func12 (by kernel_rfl) rfl #[.string a0] rfl (by (try simp only [List.map_toArray, List.map_cons, List.map_nil]); first | done | rfl | (simp only [List.length_drop, List.length_take]; rfl)) ?_; (with_reducible refine (names_Deep.calls k a0 t192 _ A8.out).mono ?_); rintro e w' ⟨rfl, ⟨nd, rfl⟩⟩; refine ⟨_, rfl, ?_⟩))
        go_meet
        case rel => exact ⟨_, (true), (by first | rfl | (simp; done) | (simp [*]; done)), H', ⟨by first | omega | exact Nat.le_refl _⟩, ⟨by repeat (first | (with_reducible first | exact HB.out | apply below_alloc | apply pw_below_drewN | apply below_drew1) | exact HB.out)⟩⟩
    case rest =>
      clear HC6
      try clear c1
      try clear p2
      try clear c5
      try clear c6
      try clear c7
      try clear c9
      try clear c9b0
      try clear c9b1
      try clear c9b2
      try clear c11
      try clear c11b0
      try clear c11b1
      try clear c12
      obtain ⟨kq, x25_5, rfl, HA, HJ5, HB⟩ := hcut
      cases kq with
      | zero => exact absurd HA.out (by simp [crossroadslaw12_NamesJoin.j0])
      | succ kj5 =>
        have H := HA.out
        clear HA
        simp only [crossroadslaw12_NamesJoin.j0] at H
        by_cases c13 : x25_5 = true
        · subst c13
          have H1 : (some true) = some r := by rw [if_pos rfl] at H; exact H
          clear H
          have H := H1
          clear H1
          obtain rfl := Option.some.inj H
          go_wp2
          go_ret
          exact ⟨by first | rfl | (simp [errW_none, errW_some] <;> rfl) | (simp [*, errW_none, errW_some] <;> rfl), by repeat (first | (with_reducible first | exact HB.out | apply below_alloc | apply pw_below_drewN | apply below_drew1) | exact HB.out)⟩
        · replace c13 := Bool.eq_false_iff.mpr c13
          subst c13
          have H1 : (if a0.size + 1 ≤ 9223372036854775807 then (if (a0 ++ (⟨#[47]⟩ : ByteArray)).size + a1.size ≤ 9223372036854775807 then ((names_Split.f kj5 ((a0 ++ (⟨#[47]⟩ : ByteArray)) ++ a1)).bind fun bt195 => ((names_May.f kj5 ((a0 ++ (⟨#[47]⟩ : ByteArray)) ++ a1)).bind fun t197 => (if (t197 == (decide ((((a0 ++ (⟨#[47]⟩ : ByteArray)) ++ a1).size : Int) ≤ 8))) = true then (if ((((a0 ++ (⟨#[47]⟩ : ByteArray)) ++ a1).size : Int) ≤ 8) then (if bt195.1.toList = a0.toList then (if bt195.2.toList = a1.toList then ((names_Deep.f kj5 ((a0 ++ (⟨#[47]⟩ : ByteArray)) ++ a1)).bind fun t198 => (if t198 = 2 then (if ((a0 ++ (⟨#[47]⟩ : ByteArray)) ++ a1).size + 1 ≤ 9223372036854775807 then (if (((a0 ++ (⟨#[47]⟩ : ByteArray)) ++ a1) ++ (⟨#[47]⟩ : ByteArray)).size + a2.size ≤ 9223372036854775807 then ((names_May.f kj5 ((((a0 ++ (⟨#[47]⟩ : ByteArray)) ++ a1) ++ (⟨#[47]⟩ : ByteArray)) ++ a2)).bind fun t199 => (if t199 = true then (none) else ((names_May.f kj5 (((a0 ++ (⟨#[47]⟩ : ByteArray)) ++ a1) ++ (⟨#[47]⟩ : ByteArray))).bind fun t200 => (if t200 = true then (none) else (if 1 + a0.size ≤ 9223372036854775807 then ((names_May.f kj5 ((⟨#[47]⟩ : ByteArray) ++ a0)).bind fun t201 => (some (!t201))) else (none)))))) else (none)) else (none)) else (none))) else (none)) else (none)) else (if ((a0 ++ (⟨#[47]⟩ : ByteArray)) ++ a1).size + 1 ≤ 9223372036854775807 then (if (((a0 ++ (⟨#[47]⟩ : ByteArray)) ++ a1) ++ (⟨#[47]⟩ : ByteArray)).size + a2.size ≤ 9223372036854775807 then ((names_May.f kj5 ((((a0 ++ (⟨#[47]⟩ : ByteArray)) ++ a1) ++ (⟨#[47]⟩ : ByteArray)) ++ a2)).bind fun t202 => (if t202 = true then (none) else ((names_May.f kj5 (((a0 ++ (⟨#[47]⟩ : ByteArray)) ++ a1) ++ (⟨#[47]⟩ : ByteArray))).bind fun t203 => (if t203 = true then (none) else (if 1 + a0.size ≤ 9223372036854775807 then ((names_May.f kj5 ((⟨#[47]⟩ : ByteArray) ++ a0)).bind fun t204 => (some (!t204))) else (none)))))) else (none)) else (none))) else (none)))) else (none)) else (none)) = some r := by rw [if_neg (show ¬ (false = true) by decide)] at H; exact H
          clear H
          have H := H1
          clear H1
          by_cases c14 : a0.size + 1 ≤ 9223372036854775807
          · rw [if_pos c14] at H
            have c14b0 := eq_true c14
            have c14b1 : decide (a0.size + 1 ≤ 9223372036854775807) = true := decide_eq_true c14
            try have c14b2 : (9223372036854775807 < a0.size + 1) = False := eq_false (Nat.not_lt.2 c14)
            by_cases c15 : (a0 ++ (⟨#[47]⟩ : ByteArray)).size + a1.size ≤ 9223372036854775807
            · rw [if_pos c15] at H
              have c15b0 := eq_true c15
              have c15b1 : decide ((a0 ++ (⟨#[47]⟩ : ByteArray)).size + a1.size ≤ 9223372036854775807) = true := decide_eq_true c15
              try have c15b2 : (9223372036854775807 < (a0 ++ (⟨#[47]⟩ : ByteArray)).size + a1.size) = False := eq_false (Nat.not_lt.2 c15)
              (try (have c15N := c15; simp [show ((⟨#[47]⟩ : ByteArray).size = 1) from rfl] at c15N))
              replace H := Option.bind_eq_some_iff.mp H
              obtain ⟨⟨t195, t196⟩, A160, H⟩ := H
              replace H : ((names_May.f kj5 ((a0 ++ (⟨#[47]⟩ : ByteArray)) ++ a1)).bind fun t197 => (if (t197 == (decide ((((a0 ++ (⟨#[47]⟩ : ByteArray)) ++ a1).size : Int) ≤ 8))) = true then (if ((((a0 ++ (⟨#[47]⟩ : ByteArray)) ++ a1).size : Int) ≤ 8) then (if t195.toList = a0.toList then (if t196.toList = a1.toList then ((names_Deep.f kj5 ((a0 ++ (⟨#[47]⟩ : ByteArray)) ++ a1)).bind fun t198 => (if t198 = 2 then (if ((a0 ++ (⟨#[47]⟩ : ByteArray)) ++ a1).size + 1 ≤ 9223372036854775807 then (if (((a0 ++ (⟨#[47]⟩ : ByteArray)) ++ a1) ++ (⟨#[47]⟩ : ByteArray)).size + a2.size ≤ 9223372036854775807 then ((names_May.f kj5 ((((a0 ++ (⟨#[47]⟩ : ByteArray)) ++ a1) ++ (⟨#[47]⟩ : ByteArray)) ++ a2)).bind fun t199 => (if t199 = true then (none) else ((names_May.f kj5 (((a0 ++ (⟨#[47]⟩ : ByteArray)) ++ a1) ++ (⟨#[47]⟩ : ByteArray))).bind fun t200 => (if t200 = true then (none) else (if 1 + a0.size ≤ 9223372036854775807 then ((names_May.f kj5 ((⟨#[47]⟩ : ByteArray) ++ a0)).bind fun t201 => (some (!t201))) else (none)))))) else (none)) else (none)) else (none))) else (none)) else (none)) else (if ((a0 ++ (⟨#[47]⟩ : ByteArray)) ++ a1).size + 1 ≤ 9223372036854775807 then (if (((a0 ++ (⟨#[47]⟩ : ByteArray)) ++ a1) ++ (⟨#[47]⟩ : ByteArray)).size + a2.size ≤ 9223372036854775807 then ((names_May.f kj5 ((((a0 ++ (⟨#[47]⟩ : ByteArray)) ++ a1) ++ (⟨#[47]⟩ : ByteArray)) ++ a2)).bind fun t202 => (if t202 = true then (none) else ((names_May.f kj5 (((a0 ++ (⟨#[47]⟩ : ByteArray)) ++ a1) ++ (⟨#[47]⟩ : ByteArray))).bind fun t203 => (if t203 = true then (none) else (if 1 + a0.size ≤ 9223372036854775807 then ((names_May.f kj5 ((⟨#[47]⟩ : ByteArray) ++ a0)).bind fun t204 => (some (!t204))) else (none)))))) else (none)) else (none))) else (none))) = some r := H
              have A16 := Aside0.mk A160
              clear A160
              replace H := Option.bind_eq_some_iff.mp H
              obtain ⟨t197, A170, H⟩ := H
              replace H : (if (t197 == (decide ((((a0 ++ (⟨#[47]⟩ : ByteArray)) ++ a1).size : Int) ≤ 8))) = true then (if ((((a0 ++ (⟨#[47]⟩ : ByteArray)) ++ a1).size : Int) ≤ 8) then (if t195.toList = a0.toList then (if t196.toList = a1.toList then ((names_Deep.f kj5 ((a0 ++ (⟨#[47]⟩ : ByteArray)) ++ a1)).bind fun t198 => (if t198 = 2 then (if ((a0 ++ (⟨#[47]⟩ : ByteArray)) ++ a1).size + 1 ≤ 9223372036854775807 then (if (((a0 ++ (⟨#[47]⟩ : ByteArray)) ++ a1) ++ (⟨#[47]⟩ : ByteArray)).size + a2.size ≤ 9223372036854775807 then ((names_May.f kj5 ((((a0 ++ (⟨#[47]⟩ : ByteArray)) ++ a1) ++ (⟨#[47]⟩ : ByteArray)) ++ a2)).bind fun t199 => (if t199 = true then (none) else ((names_May.f kj5 (((a0 ++ (⟨#[47]⟩ : ByteArray)) ++ a1) ++ (⟨#[47]⟩ : ByteArray))).bind fun t200 => (if t200 = true then (none) else (if 1 + a0.size ≤ 9223372036854775807 then ((names_May.f kj5 ((⟨#[47]⟩ : ByteArray) ++ a0)).bind fun t201 => (some (!t201))) else (none)))))) else (none)) else (none)) else (none))) else (none)) else (none)) else (if ((a0 ++ (⟨#[47]⟩ : ByteArray)) ++ a1).size + 1 ≤ 9223372036854775807 then (if (((a0 ++ (⟨#[47]⟩ : ByteArray)) ++ a1) ++ (⟨#[47]⟩ : ByteArray)).size + a2.size ≤ 9223372036854775807 then ((names_May.f kj5 ((((a0 ++ (⟨#[47]⟩ : ByteArray)) ++ a1) ++ (⟨#[47]⟩ : ByteArray)) ++ a2)).bind fun t202 => (if t202 = true then (none) else ((names_May.f kj5 (((a0 ++ (⟨#[47]⟩ : ByteArray)) ++ a1) ++ (⟨#[47]⟩ : ByteArray))).bind fun t203 => (if t203 = true then (none) else (if 1 + a0.size ≤ 9223372036854775807 then ((names_May.f kj5 ((⟨#[47]⟩ : ByteArray) ++ a0)).bind fun t204 => (some (!t204))) else (none)))))) else (none)) else (none))) else (none)) = some r := H
              have A17 := Aside0.mk A170
              clear A170
              by_cases c18 : (t197 == (decide ((((a0 ++ (⟨#[47]⟩ : ByteArray)) ++ a1).size : Int) ≤ 8))) = true
              · rw [if_pos c18] at H
                (try (have c18N := c18; simp [show ((⟨#[47]⟩ : ByteArray).size = 1) from rfl] at c18N))
                have c18b0 : (t197 == (decide ((((a0 ++ (⟨#[47]⟩ : ByteArray)) ++ a1).size : Int) ≤ 8))) = true := c18
                (try (have c18b1 : decide (t197 = (decide ((((a0 ++ (⟨#[47]⟩ : ByteArray)) ++ a1).size : Int) ≤ 8))) = true := by simpa using c18))
                (try (have c18b2 : (t197 == (decide ((((a0 ++ (⟨#[47]⟩ : ByteArray)) ++ a1).size : Int) ≤ 8))) = true := by simpa using c18))
                clear c18
                by_cases c19 : ((((a0 ++ (⟨#[47]⟩ : ByteArray)) ++ a1).size : Int) ≤ 8)
                · rw [if_pos c19] at H
                  (try (have c19N := c19; simp [show ((⟨#[47]⟩ : ByteArray).size = 1) from rfl] at c19N))
                  have c19b0 : decide ((((a0 ++ (⟨#[47]⟩ : ByteArray)) ++ a1).size : Int) ≤ 8) = true := decide_eq_true c19
                  have c19b1 : decide (((a0 ++ (⟨#[47]⟩ : ByteArray)) ++ a1).size ≤ 8) = true := decide_eq_true (by omega)
                  clear c19
                  by_cases c20 : t195.toList = a0.toList
                  · rw [if_pos c20] at H
                    have c20b0 : (t195.toList == a0.toList) = true := beq_iff_eq.mpr c20
                    have c20b1 : (t195.toList != a0.toList) = false := bne_eq_false_iff_eq.mpr c20
                    clear c20
                    by_cases c21 : t196.toList = a1.toList
                    · rw [if_pos c21] at H
                      have c21b0 : (t196.toList == a1.toList) = true := beq_iff_eq.mpr c21
                      have c21b1 : (t196.toList != a1.toList) = false := bne_eq_false_iff_eq.mpr c21
                      clear c21
                      replace H := Option.bind_eq_some_iff.mp H
                      obtain ⟨t198, A220, H⟩ := H
                      replace H : (if t198 = 2 then (if ((a0 ++ (⟨#[47]⟩ : ByteArray)) ++ a1).size + 1 ≤ 9223372036854775807 then (if (((a0 ++ (⟨#[47]⟩ : ByteArray)) ++ a1) ++ (⟨#[47]⟩ : ByteArray)).size + a2.size ≤ 9223372036854775807 then ((names_May.f kj5 ((((a0 ++ (⟨#[47]⟩ : ByteArray)) ++ a1) ++ (⟨#[47]⟩ : ByteArray)) ++ a2)).bind fun t199 => (if t199 = true then (none) else ((names_May.f kj5 (((a0 ++ (⟨#[47]⟩ : ByteArray)) ++ a1) ++ (⟨#[47]⟩ : ByteArray))).bind fun t200 => (if t200 = true then (none) else (if 1 + a0.size ≤ 9223372036854775807 then ((names_May.f kj5 ((⟨#[47]⟩ : ByteArray) ++ a0)).bind fun t201 => (some (!t201))) else (none)))))) else (none)) else (none)) else (none)) = some r := H
                      have A22 := Aside0.mk A220
                      clear A220
                      by_cases c23 : t198 = 2
                      · rw [if_pos c23] at H
                        have c23b0 : (t198 == 2) = true := beq_iff_eq.mpr c23
                        have c23b1 : (t198 != 2) = false := bne_eq_false_iff_eq.mpr c23
                        clear c23
                        by_cases c24 : ((a0 ++ (⟨#[47]⟩ : ByteArray)) ++ a1).size + 1 ≤ 9223372036854775807
                        · rw [if_pos c24] at H
                          have c24b0 := eq_true c24
                          have c24b1 : decide (((a0 ++ (⟨#[47]⟩ : ByteArray)) ++ a1).size + 1 ≤ 9223372036854775807) = true := decide_eq_true c24
                          try have c24b2 : (9223372036854775807 < ((a0 ++ (⟨#[47]⟩ : ByteArray)) ++ a1).size + 1) = False := eq_false (Nat.not_lt.2 c24)
                          (try (have c24N := c24; simp [show ((⟨#[47]⟩ : ByteArray).size = 1) from rfl] at c24N))
                          by_cases c25 : (((a0 ++ (⟨#[47]⟩ : ByteArray)) ++ a1) ++ (⟨#[47]⟩ : ByteArray)).size + a2.size ≤ 9223372036854775807
                          · rw [if_pos c25] at H
                            have c25b0 := eq_true c25
                            have c25b1 : decide ((((a0 ++ (⟨#[47]⟩ : ByteArray)) ++ a1) ++ (⟨#[47]⟩ : ByteArray)).size + a2.size ≤ 9223372036854775807) = true := decide_eq_true c25
                            try have c25b2 : (9223372036854775807 < (((a0 ++ (⟨#[47]⟩ : ByteArray)) ++ a1) ++ (⟨#[47]⟩ : ByteArray)).size + a2.size) = False := eq_false (Nat.not_lt.2 c25)
                            (try (have c25N := c25; simp [show ((⟨#[47]⟩ : ByteArray).size = 1) from rfl] at c25N))
                            replace H := Option.bind_eq_some_iff.mp H
                            obtain ⟨t199, A260, H⟩ := H
                            replace H : (if t199 = true then (none) else ((names_May.f kj5 (((a0 ++ (⟨#[47]⟩ : ByteArray)) ++ a1) ++ (⟨#[47]⟩ : ByteArray))).bind fun t200 => (if t200 = true then (none) else (if 1 + a0.size ≤ 9223372036854775807 then ((names_May.f kj5 ((⟨#[47]⟩ : ByteArray) ++ a0)).bind fun t201 => (some (!t201))) else (none))))) = some r := H
                            have A26 := Aside0.mk A260
                            clear A260
                            by_cases c27 : t199 = true
                            · subst c27
                              have H1 : (none) = some r := by rw [if_pos rfl] at H; exact H
                              clear H
                              have H := H1
                              clear H1
                              exact absurd H (by simp)
                            · replace c27 := Bool.eq_false_iff.mpr c27
                              subst c27
                              have H1 : ((names_May.f kj5 (((a0 ++ (⟨#[47]⟩ : ByteArray)) ++ a1) ++ (⟨#[47]⟩ : ByteArray))).bind fun t200 => (if t200 = true then (none) else (if 1 + a0.size ≤ 9223372036854775807 then ((names_May.f kj5 ((⟨#[47]⟩ : ByteArray) ++ a0)).bind fun t201 => (some (!t201))) else (none)))) = some r := by rw [if_neg (show ¬ (false = true) by decide)] at H; exact H
                              clear H
                              have H := H1
                              clear H1
                              replace H := Option.bind_eq_some_iff.mp H
                              obtain ⟨t200, A280, H⟩ := H
                              replace H : (if t200 = true then (none) else (if 1 + a0.size ≤ 9223372036854775807 then ((names_May.f kj5 ((⟨#[47]⟩ : ByteArray) ++ a0)).bind fun t201 => (some (!t201))) else (none))) = some r := H
                              have A28 := Aside0.mk A280
                              clear A280
                              by_cases c29 : t200 = true
                              · subst c29
                                have H1 : (none) = some r := by rw [if_pos rfl] at H; exact H
                                clear H
                                have H := H1
                                clear H1
                                exact absurd H (by simp)
                              · replace c29 := Bool.eq_false_iff.mpr c29
                                subst c29
                                have H1 : (if 1 + a0.size ≤ 9223372036854775807 then ((names_May.f kj5 ((⟨#[47]⟩ : ByteArray) ++ a0)).bind fun t201 => (some (!t201))) else (none)) = some r := by rw [if_neg (show ¬ (false = true) by decide)] at H; exact H
                                clear H
                                have H := H1
                                clear H1
                                by_cases c30 : 1 + a0.size ≤ 9223372036854775807
                                · rw [if_pos c30] at H
                                  have c30b0 := eq_true c30
                                  have c30b1 : decide (1 + a0.size ≤ 9223372036854775807) = true := decide_eq_true c30
                                  try have c30b2 : (9223372036854775807 < 1 + a0.size) = False := eq_false (Nat.not_lt.2 c30)
                                  replace H := Option.bind_eq_some_iff.mp H
                                  obtain ⟨t201, A310, H⟩ := H
                                  replace H : (some (!t201)) = some r := H
                                  have A31 := Aside0.mk A310
                                  clear A310
                                  obtain rfl := Option.some.inj H
                                  go_wp2_with (first | ((with_reducible refine gate_callee (f := 8) rfl ?_); refine goesL_ (some 32) rfl rfl Try.func8 (by kernel_rfl) rfl #[.string ((a0 ++ (⟨#[47]⟩ : ByteArray)) ++ a1)] rfl (by (try simp only [List.map_toArray, List.map_cons, List.map_nil]); first | done | rfl | (simp only [List.length_drop, List.length_take]; rfl)) ?_; (with_reducible refine (names_Split.calls kj5 ((a0 ++ (⟨#[47]⟩ : ByteArray)) ++ a1) t195 t196 _ A16.out).mono ?_); rintro e w' ⟨rfl, ⟨nd, rfl⟩⟩; refine ⟨_, rfl, ?_⟩) | ((with_reducible refine gate_callee (f := 11) rfl ?_); refine goesL_ (some 39) rfl rfl Try.func11 (by kernel_rfl) rfl #[.string ((a0 ++ (⟨#[47]⟩ : ByteArray)) ++ a1)] rfl (by (try simp only [List.map_toArray, List.map_cons, List.map_nil]); first | done | rfl | (simp only [List.length_drop, List.length_take]; rfl)) ?_; (with_reducible refine (names_May.calls kj5 ((a0 ++ (⟨#[47]⟩ : ByteArray)) ++ a1) t197 _ A17.out).mono ?_); rintro e w' ⟨rfl, ⟨nd, rfl⟩⟩; refine ⟨_, rfl, ?_⟩) | (go_at_call 12; (with_reducible refine (names_Deep.calls kj5 ((a0 ++ (⟨#[47]⟩ : ByteArray)) ++ a1) t198 _ A22.out).mono ?_); rintro e w' ⟨rfl, ⟨nd, rfl⟩⟩) | (go_at_call 11; (with_reducible refine (names_May.calls kj5 ((((a0 ++ (⟨#[47]⟩ : ByteArray)) ++ a1) ++ (⟨#[47]⟩ : ByteArray)) ++ a2) false _ A26.out).mono ?_); rintro e w' ⟨rfl, ⟨nd, rfl⟩⟩) | (go_at_call 11; (with_reducible refine (names_May.calls kj5 (((a0 ++ (⟨#[47]⟩ : ByteArray)) ++ a1) ++ (⟨#[47]⟩ : ByteArray)) false _ A28.out).mono ?_); rintro e w' ⟨rfl, ⟨nd, rfl⟩⟩) | (go_at_call 11; (with_reducible refine (names_May.calls kj5 ((⟨#[47]⟩ : ByteArray) ++ a0) t201 _ A31.out).mono ?_); rintro e w' ⟨rfl, ⟨nd, rfl⟩⟩))
                                  go_ret
                                  exact ⟨by first | rfl | (simp [errW_none, errW_some] <;> rfl) | (simp [*, errW_none, errW_some] <;> rfl), by repeat (first | (with_reducible first | exact HB.out | apply below_alloc | apply pw_below_drewN | apply below_drew1) | exact HB.out)⟩
                                · rw [if_neg c30] at H
                                  exact absurd H (by simp)
                          · rw [if_neg c25] at H
                            exact absurd H (by simp)
                        · rw [if_neg c24] at H
                          exact absurd H (by simp)
                      · rw [if_neg c23] at H
                        exact absurd H (by simp)
                    · rw [if_neg c21] at H
                      exact absurd H (by simp)
                  · rw [if_neg c20] at H
                    exact absurd H (by simp)
                · rw [if_neg c19] at H
                  (try (have c19N := c19; simp [show ((⟨#[47]⟩ : ByteArray).size = 1) from rfl] at c19N))
                  have c19b0 : decide ((((a0 ++ (⟨#[47]⟩ : ByteArray)) ++ a1).size : Int) ≤ 8) = false := decide_eq_false c19
                  have c19b1 : decide (((a0 ++ (⟨#[47]⟩ : ByteArray)) ++ a1).size ≤ 8) = false := decide_eq_false (by omega)
                  clear c19
                  by_cases c32 : ((a0 ++ (⟨#[47]⟩ : ByteArray)) ++ a1).size + 1 ≤ 9223372036854775807
                  · rw [if_pos c32] at H
                    have c32b0 := eq_true c32
                    have c32b1 : decide (((a0 ++ (⟨#[47]⟩ : ByteArray)) ++ a1).size + 1 ≤ 9223372036854775807) = true := decide_eq_true c32
                    try have c32b2 : (9223372036854775807 < ((a0 ++ (⟨#[47]⟩ : ByteArray)) ++ a1).size + 1) = False := eq_false (Nat.not_lt.2 c32)
                    (try (have c32N := c32; simp [show ((⟨#[47]⟩ : ByteArray).size = 1) from rfl] at c32N))
                    by_cases c33 : (((a0 ++ (⟨#[47]⟩ : ByteArray)) ++ a1) ++ (⟨#[47]⟩ : ByteArray)).size + a2.size ≤ 9223372036854775807
                    · rw [if_pos c33] at H
                      have c33b0 := eq_true c33
                      have c33b1 : decide ((((a0 ++ (⟨#[47]⟩ : ByteArray)) ++ a1) ++ (⟨#[47]⟩ : ByteArray)).size + a2.size ≤ 9223372036854775807) = true := decide_eq_true c33
                      try have c33b2 : (9223372036854775807 < (((a0 ++ (⟨#[47]⟩ : ByteArray)) ++ a1) ++ (⟨#[47]⟩ : ByteArray)).size + a2.size) = False := eq_false (Nat.not_lt.2 c33)
                      (try (have c33N := c33; simp [show ((⟨#[47]⟩ : ByteArray).size = 1) from rfl] at c33N))
                      replace H := Option.bind_eq_some_iff.mp H
                      obtain ⟨t202, A340, H⟩ := H
                      replace H : (if t202 = true then (none) else ((names_May.f kj5 (((a0 ++ (⟨#[47]⟩ : ByteArray)) ++ a1) ++ (⟨#[47]⟩ : ByteArray))).bind fun t203 => (if t203 = true then (none) else (if 1 + a0.size ≤ 9223372036854775807 then ((names_May.f kj5 ((⟨#[47]⟩ : ByteArray) ++ a0)).bind fun t204 => (some (!t204))) else (none))))) = some r := H
                      have A34 := Aside0.mk A340
                      clear A340
                      by_cases c35 : t202 = true
                      · subst c35
                        have H1 : (none) = some r := by rw [if_pos rfl] at H; exact H
                        clear H
                        have H := H1
                        clear H1
                        exact absurd H (by simp)
                      · replace c35 := Bool.eq_false_iff.mpr c35
                        subst c35
                        have H1 : ((names_May.f kj5 (((a0 ++ (⟨#[47]⟩ : ByteArray)) ++ a1) ++ (⟨#[47]⟩ : ByteArray))).bind fun t203 => (if t203 = true then (none) else (if 1 + a0.size ≤ 9223372036854775807 then ((names_May.f kj5 ((⟨#[47]⟩ : ByteArray) ++ a0)).bind fun t204 => (some (!t204))) else (none)))) = some r := by rw [if_neg (show ¬ (false = true) by decide)] at H; exact H
                        clear H
                        have H := H1
                        clear H1
                        replace H := Option.bind_eq_some_iff.mp H
                        obtain ⟨t203, A360, H⟩ := H
                        replace H : (if t203 = true then (none) else (if 1 + a0.size ≤ 9223372036854775807 then ((names_May.f kj5 ((⟨#[47]⟩ : ByteArray) ++ a0)).bind fun t204 => (some (!t204))) else (none))) = some r := H
                        have A36 := Aside0.mk A360
                        clear A360
                        by_cases c37 : t203 = true
                        · subst c37
                          have H1 : (none) = some r := by rw [if_pos rfl] at H; exact H
                          clear H
                          have H := H1
                          clear H1
                          exact absurd H (by simp)
                        · replace c37 := Bool.eq_false_iff.mpr c37
                          subst c37
                          have H1 : (if 1 + a0.size ≤ 9223372036854775807 then ((names_May.f kj5 ((⟨#[47]⟩ : ByteArray) ++ a0)).bind fun t204 => (some (!t204))) else (none)) = some r := by rw [if_neg (show ¬ (false = true) by decide)] at H; exact H
                          clear H
                          have H := H1
                          clear H1
                          by_cases c38 : 1 + a0.size ≤ 9223372036854775807
                          · rw [if_pos c38] at H
                            have c38b0 := eq_true c38
                            have c38b1 : decide (1 + a0.size ≤ 9223372036854775807) = true := decide_eq_true c38
                            try have c38b2 : (9223372036854775807 < 1 + a0.size) = False := eq_false (Nat.not_lt.2 c38)
                            replace H := Option.bind_eq_some_iff.mp H
                            obtain ⟨t204, A390, H⟩ := H
                            replace H : (some (!t204)) = some r := H
                            have A39 := Aside0.mk A390
                            clear A390
                            obtain rfl := Option.some.inj H
                            go_wp2_with (first | ((with_reducible refine gate_callee (f := 8) rfl ?_); refine goesL_ (some 32) rfl rfl Try.func8 (by kernel_rfl) rfl #[.string ((a0 ++ (⟨#[47]⟩ : ByteArray)) ++ a1)] rfl (by (try simp only [List.map_toArray, List.map_cons, List.map_nil]); first | done | rfl | (simp only [List.length_drop, List.length_take]; rfl)) ?_; (with_reducible refine (names_Split.calls kj5 ((a0 ++ (⟨#[47]⟩ : ByteArray)) ++ a1) t195 t196 _ A16.out).mono ?_); rintro e w' ⟨rfl, ⟨nd, rfl⟩⟩; refine ⟨_, rfl, ?_⟩) | ((with_reducible refine gate_callee (f := 11) rfl ?_); refine goesL_ (some 39) rfl rfl Try.func11 (by kernel_rfl) rfl #[.string ((a0 ++ (⟨#[47]⟩ : ByteArray)) ++ a1)] rfl (by (try simp only [List.map_toArray, List.map_cons, List.map_nil]); first | done | rfl | (simp only [List.length_drop, List.length_take]; rfl)) ?_; (with_reducible refine (names_May.calls kj5 ((a0 ++ (⟨#[47]⟩ : ByteArray)) ++ a1) t197 _ A17.out).mono ?_); rintro e w' ⟨rfl, ⟨nd, rfl⟩⟩; refine ⟨_, rfl, ?_⟩) | (go_at_call 11; (with_reducible refine (names_May.calls kj5 ((((a0 ++ (⟨#[47]⟩ : ByteArray)) ++ a1) ++ (⟨#[47]⟩ : ByteArray)) ++ a2) false _ A34.out).mono ?_); rintro e w' ⟨rfl, ⟨nd, rfl⟩⟩) | (go_at_call 11; (with_reducible refine (names_May.calls kj5 (((a0 ++ (⟨#[47]⟩ : ByteArray)) ++ a1) ++ (⟨#[47]⟩ : ByteArray)) false _ A36.out).mono ?_); rintro e w' ⟨rfl, ⟨nd, rfl⟩⟩) | (go_at_call 11; (with_reducible refine (names_May.calls kj5 ((⟨#[47]⟩ : ByteArray) ++ a0) t204 _ A39.out).mono ?_); rintro e w' ⟨rfl, ⟨nd, rfl⟩⟩))
                            go_ret
                            exact ⟨by first | rfl | (simp [errW_none, errW_some] <;> rfl) | (simp [*, errW_none, errW_some] <;> rfl), by repeat (first | (with_reducible first | exact HB.out | apply below_alloc | apply pw_below_drewN | apply below_drew1) | exact HB.out)⟩
                          · rw [if_neg c38] at H
                            exact absurd H (by simp)
                    · rw [if_neg c33] at H
                      exact absurd H (by simp)
                  · rw [if_neg c32] at H
                    exact absurd H (by simp)
              · rw [if_neg c18] at H
                exact absurd H (by simp)
            · rw [if_neg c15] at H
              exact absurd H (by simp)
          · rw [if_neg c14] at H
            exact absurd H (by simp)
  · replace c5 := Bool.eq_false_iff.mpr c5
    subst c5
    have H1 : (none) = some r := by rw [if_neg (show ¬ (false = true) by decide)] at H; exact H
    clear H
    have H := H1
    clear H1
    exact absurd H (by simp)

/-- THE ONE PURE STATEMENT of crossroadslaw12_NamesJoin. -/
def crossroadslaw12_NamesJoin.Pure : Prop := ∀ (a0 : ByteArray) (a1 : ByteArray) (a2 : ByteArray), a0.size ≤ 140737488351232 → a1.size ≤ 140737488351232 → a2.size ≤ 140737488351232 → ∃ k, crossroadslaw12_NamesJoin.f k a0 a1 a2 = some true

end Go.Proofs.Ytpkdmnjonfophaa.P
