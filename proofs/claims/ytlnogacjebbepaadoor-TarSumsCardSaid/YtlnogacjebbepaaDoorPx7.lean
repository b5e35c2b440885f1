-- Laid by a program of this session (the kit's print, changed): Lean checks it.
import Derived.Test.YtlnogacjebbepaaDoorPx0
import Derived.Test.YtlnogacjebbepaaDoorPx3
import Derived.Test.YtlnogacjebbepaaDoorPx4
import Derived.Test.YtlnogacjebbepaaDoorPx5
namespace Go.Proofs.YtlnogacjebbepaaDoor.G
end Go.Proofs.YtlnogacjebbepaaDoor.G
namespace Go.Proofs.YtlnogacjebbepaaDoor.P
open Go.Proofs.YtlnogacjebbepaaDoor.G
open Go.RowKit Go.Proofs.YtlnogacjebbepaaDoorW.PrintWords Go.Proofs.YtlnogacjebbepaaDoorW.PrintLast Go.Proofs.YtlnogacjebbepaaDoorW.PrintMore
attribute [local go_sem] max2_int min2_int max_two min_two max_three min_three max_four min_four   -- for this text's walks alone
set_option linter.unusedVariables false
set_option linter.unusedSimpArgs false

/-! ### crossroadslaw22_TarSums: function 5 -/
def crossroadslaw22_TarSums.j0 : Nat → List (S37) → Int → Int → Bool → Option (Bool)
  | 0, _, _, _, _ => none
  | k + 1, x0, x1, x2, x25 => if x25 = true then (some true) else ((crossroadsref22_Write.f k x0).bind fun bt252 => (if bt252.2 = 0 then (if 0 ≤ (Int.tmod (wrap64 (x1)) 512) then (if (Int.tmod (wrap64 (x1)) 512) < (bt252.1.length : Int) then ((tar_Read.f k (bt252.1.set ((Int.tmod (wrap64 (x1)) 512) : Int).toNat (Go.bits .xor .u8 (rd bt252.1 (Int.tmod (wrap64 (x1)) 512)) x2))).bind fun bt258 => (if bt258.2 = 0 then (none) else (if (Int.tmod (wrap64 (x1)) 512) ≥ 148 then (if (Int.tmod (wrap64 (x1)) 512) < 156 then (some true) else (some (bt258.2 == 14))) else (some (bt258.2 == 14))))) else (none)) else (none)) else (some true)))
def crossroadslaw22_TarSums.f (k : Nat) (l0 : List (S37)) (a1 : Int) (a2 : Int) : Option (Bool) := (crossroadslaw22_awake.f k).bind fun t250 => (if t250 = true then ((crossroadslaw22_Small.f k l0).bind fun t251 => (if t251 = true then (if (l0.length : Int) = 0 then (crossroadslaw22_TarSums.j0 k l0 a1 a2 true) else (crossroadslaw22_TarSums.j0 k l0 a1 a2 (a2 == 0))) else (crossroadslaw22_TarSums.j0 k l0 a1 a2 true))) else (none))
theorem crossroadslaw22_TarSums.mono_l : ∀ k, (∀ y0 y1 y2 y3, LeO (crossroadslaw22_TarSums.j0 k y0 y1 y2 y3) (crossroadslaw22_TarSums.j0 (k + 1) y0 y1 y2 y3))
  | 0 => fun _ _ _ _ r h => by simp [crossroadslaw22_TarSums.j0] at h
  | k + 1 => by
    have ih0 := crossroadslaw22_TarSums.mono_l k
    · intro y0 y1 y2 y3
      unfold crossroadslaw22_TarSums.j0
      repeat' first
      | (with_reducible exact ih0 _ _ _ _)
      | (with_reducible exact crossroadslaw22_Small.mono _ _)
      | (with_reducible exact crossroadslaw22_awake.mono _)
      | (with_reducible exact crossroadsref22_Write.mono _ _)
      | (with_reducible exact tar_Read.mono _ _)
      | (with_reducible exact LeO.refl _)
      | (with_reducible exact LeO.none _)
      | (with_reducible refine LeO.ite ?_ ?_)
      | (with_reducible refine LeO.bind ?_ (fun _ => ?_))
      | exact ih0 _ _ _ _
      | exact crossroadslaw22_Small.mono _ _
      | exact crossroadslaw22_awake.mono _
      | exact crossroadsref22_Write.mono _ _
      | exact tar_Read.mono _ _
      | exact LeO.none _
      | refine LeO.ite ?_ ?_
      | refine LeO.bind ?_ (fun _ => ?_)
theorem crossroadslaw22_TarSums.mono : ∀ a0 a1 a2 k, LeO (crossroadslaw22_TarSums.f k a0 a1 a2) (crossroadslaw22_TarSums.f (k + 1) a0 a1 a2) := by
  intro a0 a1 a2 k
  have ih0 := crossroadslaw22_TarSums.mono_l k
  unfold crossroadslaw22_TarSums.f
  repeat' first
      | (with_reducible exact ih0 _ _ _ _)
      | (with_reducible exact crossroadslaw22_Small.mono _ _)
      | (with_reducible exact crossroadslaw22_awake.mono _)
      | (with_reducible exact crossroadsref22_Write.mono _ _)
      | (with_reducible exact tar_Read.mono _ _)
      | (with_reducible exact LeO.refl _)
      | (with_reducible exact LeO.none _)
      | (with_reducible refine LeO.ite ?_ ?_)
      | (with_reducible refine LeO.bind ?_ (fun _ => ?_))
      | exact ih0 _ _ _ _
      | exact crossroadslaw22_Small.mono _ _
      | exact crossroadslaw22_awake.mono _
      | exact crossroadsref22_Write.mono _ _
      | exact tar_Read.mono _ _
      | exact LeO.none _
      | refine LeO.ite ?_ ?_
      | refine LeO.bind ?_ (fun _ => ?_)
set_option maxHeartbeats 8000000 in
set_option maxRecDepth 100000 in
theorem crossroadslaw22_TarSums.calls (k : Nat) (A0 : Option Addr) (c0 : Nat) (l0 : List (S37)) (a1 : Int) (a2 : Int) (r : Bool) (w : World) (hr0 : Kd.C k37 w A0 l0.length l0) (hc0 : l0.length ≤ c0) (h : crossroadslaw22_TarSums.f k l0 a1 a2 = some r) :
    Calls Tryd.prog 5 #[.slice A0 l0.length c0, .int .u16 a1, .int .u8 a2] w fun e w' => e = .returned (.bool r) ∧ Below w.heap.size w w' := by
  have HR0 := Aside0.mk hr0
  have HC0 := Aside0.mk hc0
  clear hr0 hc0
  have HB := Aside0.mk (Below.refl w.heap.size w)
  have H : ((crossroadslaw22_awake.f k).bind fun t250 => (if t250 = true then ((crossroadslaw22_Small.f k l0).bind fun t251 => (if t251 = true then (if (l0.length : Int) = 0 then (crossroadslaw22_TarSums.j0 k l0 a1 a2 true) else (crossroadslaw22_TarSums.j0 k l0 a1 a2 (a2 == 0))) else (crossroadslaw22_TarSums.j0 k l0 a1 a2 true))) else (none))) = some r := h
  clear h
  replace H := Option.bind_eq_some_iff.mp H
  obtain ⟨t250, A40, H⟩ := H
  replace H : (if t250 = true then ((crossroadslaw22_Small.f k l0).bind fun t251 => (if t251 = true then (if (l0.length : Int) = 0 then (crossroadslaw22_TarSums.j0 k l0 a1 a2 true) else (crossroadslaw22_TarSums.j0 k l0 a1 a2 (a2 == 0))) else (crossroadslaw22_TarSums.j0 k l0 a1 a2 true))) else (none)) = some r := H
  have A4 := Aside0.mk A40
  clear A40
  by_cases c5 : t250 = true
  · subst c5
    have H1 : ((crossroadslaw22_Small.f k l0).bind fun t251 => (if t251 = true then (if (l0.length : Int) = 0 then (crossroadslaw22_TarSums.j0 k l0 a1 a2 true) else (crossroadslaw22_TarSums.j0 k l0 a1 a2 (a2 == 0))) else (crossroadslaw22_TarSums.j0 k l0 a1 a2 true))) = some r := by rw [if_pos rfl] at H; exact H
    clear H
    have H := H1
    clear H1
    have HC6 := Aside0.mk H
    clear H
    go_enter Tryd.func5, Tryd.ntmps5
    go_upto_region 3 with (first | ((with_reducible refine gate_callee (f := 8) rfl ?_); refine goesL_ (some 12) rfl rfl Tryd.func8 (by kernel_rfl) rfl #[] rfl (by (try simp only [List.map_toArray, List.map_cons, List.map_nil]); first | done | rfl | (simp only [List.length_drop, List.length_take]; rfl)) ?_; (with_reducible refine (crossroadslaw22_awake.calls k  true _ A4.out).mono ?_); rintro e w7 ⟨rfl, hb⟩; refine ⟨_, rfl, ?_⟩; have n0_ := Aside0.mk (below_step (by repeat (first | (with_reducible first | exact HB.out | apply below_alloc | apply pw_below_drewN | apply below_drew1) | exact HB.out)) hb); clear HB; have HB := n0_; clear n0_; (try clear hb); (try clear hb2); (try clear hk); (try clear hi)))
    (try simp only [Act.put, List.setIfInBounds_toArray, List.set_cons_zero, List.set_cons_succ])
    go_cut [25] (fun v25 wc => ∃ (kq : Nat) (x25_5 : Bool), v25 = .bool x25_5 ∧ Aside0 (crossroadslaw22_TarSums.j0 kq l0 a1 a2 x25_5 = some r) ∧ Aside0 (kq ≤ k) ∧ Aside0 (Below w.heap.size w wc))
    case first =>
      have H := HC6.out
      clear HC6
      replace H := Option.bind_eq_some_iff.mp H
      obtain ⟨t251, A80, H⟩ := H
      replace H : (if t251 = true then (if (l0.length : Int) = 0 then (crossroadslaw22_TarSums.j0 k l0 a1 a2 true) else (crossroadslaw22_TarSums.j0 k l0 a1 a2 (a2 == 0))) else (crossroadslaw22_TarSums.j0 k l0 a1 a2 true)) = some r := H
      have A8 := Aside0.mk A80
      clear A80
      by_cases c9 : t251 = true
      · subst c9
        have H1 : (if (l0.length : Int) = 0 then (crossroadslaw22_TarSums.j0 k l0 a1 a2 true) else (crossroadslaw22_TarSums.j0 k l0 a1 a2 (a2 == 0))) = some r := by rw [if_pos rfl] at H; exact H
        clear H
        have H := H1
        clear H1
        by_cases c10 : (l0.length : Int) = 0
        · rw [if_pos c10] at H
          have c10b0 : ((l0.length : Int) == 0) = true := beq_iff_eq.mpr c10
          have c10b1 : ((l0.length : Int) != 0) = false := bne_eq_false_iff_eq.mpr c10
          clear c10
          (first | rw [c10b0] | (simp only [i64_w, i32_w]; rw [c10b0]) | (rw [c10b2]; (try simp only [Bool.not_true, Bool.not_false])) | skip)
          have H' := Aside0.mk H
          clear H
          go_wp2_with (first | ((with_reducible refine gate_callee (f := 9) rfl ?_); refine goesL_ (some 15) rfl rfl Tryd.func9 (by kernel_rfl) rfl #[.slice A0 l0.length c0] rfl (by (try simp only [List.map_toArray, List.map_cons, List.map_nil]); first | done | rfl | (simp only [List.length_drop, List.length_take]; rfl)) ?_; (with_reducible refine (crossroadslaw22_Small.calls k _ _ l0 true _ ?side1 ?side2 A8.out).mono ?_); (case side1 => repeat (first | exact (Kd.C_below HR0.out HB.out) | (with_reducible refine Kd.C_alloc ?_ _) | (with_reducible refine Kd.C_drewN ?_ _) | (with_reducible refine Kd.C_drew ?_))); (case side2 => exact HC0.out); rintro e w' ⟨rfl, ⟨nd, rfl⟩⟩; refine ⟨_, rfl, ?_⟩))
          go_meet
          case rel => exact ⟨_, (true), (by first | rfl | (simp; done) | (simp [*]; done)), H', ⟨by first | omega | exact Nat.le_refl _⟩, ⟨by repeat (first | (with_reducible first | exact HB.out | apply below_alloc | apply pw_below_drewN | apply below_drew1) | exact HB.out)⟩⟩
        · rw [if_neg c10] at H
          have c10b0 : ((l0.length : Int) == 0) = false := beq_eq_false_iff_ne.mpr c10
          have c10b1 : ((l0.length : Int) != 0) = true := bne_iff_ne.mpr c10
          have c10b2 : ¬ (l0 = []) := fun h_ => c10 (by rw [h_]; rfl)
          (first | rw [c10b0] | (simp only [i64_w, i32_w]; rw [c10b0]) | (rw [c10b2]; (try simp only [Bool.not_true, Bool.not_false])) | skip)
          have H' := Aside0.mk H
          clear H
          go_wp2_with (first | ((with_reducible refine gate_callee (f := 9) rfl ?_); refine goesL_ (some 15) rfl rfl Tryd.func9 (by kernel_rfl) rfl #[.slice A0 l0.length c0] rfl (by (try simp only [List.map_toArray, List.map_cons, List.map_nil]); first | done | rfl | (simp only [List.length_drop, List.length_take]; rfl)) ?_; (with_reducible refine (crossroadslaw22_Small.calls k _ _ l0 true _ ?side1 ?side2 A8.out).mono ?_); (case side1 => repeat (first | exact (Kd.C_below HR0.out HB.out) | (with_reducible refine Kd.C_alloc ?_ _) | (with_reducible refine Kd.C_drewN ?_ _) | (with_reducible refine Kd.C_drew ?_))); (case side2 => exact HC0.out); rintro e w' ⟨rfl, ⟨nd, rfl⟩⟩; refine ⟨_, rfl, ?_⟩))
          go_meet
          case rel => exact ⟨_, ((a2 == 0)), (by first | rfl | (simp; done) | (simp [*]; done)), H', ⟨by first | omega | exact Nat.le_refl _⟩, ⟨by repeat (first | (with_reducible first | exact HB.out | apply below_alloc | apply pw_below_drewN | apply below_drew1) | exact HB.out)⟩⟩
      · replace c9 := Bool.eq_false_iff.mpr c9
        subst c9
        have H1 : (crossroadslaw22_TarSums.j0 k l0 a1 a2 true) = some r := by rw [if_neg (show ¬ (false = true) by decide)] at H; exact H
        clear H
        have H := H1
        clear H1
        have H' := Aside0.mk H
        clear H
        go_wp2_with (first | ((with_reducible refine gate_callee (f := 9) rfl ?_); refine goesL_ (some 15) rfl rfl Tryd.func9 (by kernel_rfl) rfl #[.slice A0 l0.length c0] rfl (by (try simp only [List.map_toArray, List.map_cons, List.map_nil]); first | done | rfl | (simp only [List.length_drop, List.length_take]; rfl)) ?_; (with_reducible refine (crossroadslaw22_Small.calls k _ _ l0 false _ ?side1 ?side2 A8.out).mono ?_); (case side1 => repeat (first | exact (Kd.C_below HR0.out HB.out) | (with_reducible refine Kd.C_alloc ?_ _) | (with_reducible refine Kd.C_drewN ?_ _) | (with_reducible refine Kd.C_drew ?_))); (case side2 => exact HC0.out); rintro e w' ⟨rfl, ⟨nd, rfl⟩⟩; refine ⟨_, rfl, ?_⟩))
        go_meet
        case rel => exact ⟨_, (true), (by first | rfl | (simp; done) | (simp [*]; done)), H', ⟨by first | omega | exact Nat.le_refl _⟩, ⟨by repeat (first | (with_reducible first | exact HB.out | apply below_alloc | apply pw_below_drewN | apply below_drew1) | exact HB.out)⟩⟩
    case rest =>
      clear HC6
      try clear c1
      try clear p2
      try clear c5
      try clear c8
      try clear c9
      try clear c10
      try clear c10b0
      try clear c10b1
      try clear c10b2
      obtain ⟨kq, x25_5, rfl, HA, HJ5, HB⟩ := hcut
      cases kq with
      | zero => exact absurd HA.out (by simp [crossroadslaw22_TarSums.j0])
      | succ kj5 =>
        have H := HA.out
        clear HA
        simp only [crossroadslaw22_TarSums.j0] at H
        by_cases c11 : x25_5 = true
        · subst c11
          have H1 : (some true) = some r := by rw [if_pos rfl] at H; exact H
          clear H
          have H := H1
          clear H1
          obtain rfl := Option.some.inj H
          go_wp2
          go_ret
          exact ⟨by first | rfl | (simp [errW_none, errW_some] <;> rfl) | (simp [*, errW_none, errW_some] <;> rfl), by repeat (first | (with_reducible first | exact HB.out | apply below_alloc | apply pw_below_drewN | apply below_drew1) | exact HB.out)⟩
        · replace c11 := Bool.eq_false_iff.mpr c11
          subst c11
          have H1 : ((crossroadsref22_Write.f kj5 l0).bind fun bt252 => (if bt252.2 = 0 then (if 0 ≤ (Int.tmod (wrap64 (a1)) 512) then (if (Int.tmod (wrap64 (a1)) 512) < (bt252.1.length : Int) then ((tar_Read.f kj5 (bt252.1.set ((Int.tmod (wrap64 (a1)) 512) : Int).toNat (Go.bits .xor .u8 (rd bt252.1 (Int.tmod (wrap64 (a1)) 512)) a2))).bind fun bt258 => (if bt258.2 = 0 then (none) else (if (Int.tmod (wrap64 (a1)) 512) ≥ 148 then (if (Int.tmod (wrap64 (a1)) 512) < 156 then (some true) else (some (bt258.2 == 14))) else (some (bt258.2 == 14))))) else (none)) else (none)) else (some true))) = some r := by rw [if_neg (show ¬ (false = true) by decide)] at H; exact H
          clear H
          have H := H1
          clear H1
          replace H := Option.bind_eq_some_iff.mp H
          obtain ⟨⟨t252, t253⟩, A120, H⟩ := H
          replace H : (if t253 = 0 then (if 0 ≤ (Int.tmod (wrap64 (a1)) 512) then (if (Int.tmod (wrap64 (a1)) 512) < (t252.length : Int) then ((tar_Read.f kj5 (t252.set ((Int.tmod (wrap64 (a1)) 512) : Int).toNat (Go.bits .xor .u8 (rd t252 (Int.tmod (wrap64 (a1)) 512)) a2))).bind fun bt258 => (if bt258.2 = 0 then (none) else (if (Int.tmod (wrap64 (a1)) 512) ≥ 148 then (if (Int.tmod (wrap64 (a1)) 512) < 156 then (some true) else (some (bt258.2 == 14))) else (some (bt258.2 == 14))))) else (none)) else (none)) else (some true)) = some r := H
          have A12 := Aside0.mk A120
          clear A120
          by_cases c13 : t253 = 0
          · rw [if_pos c13] at H
            have c13b0 : (t253 == 0) = true := beq_iff_eq.mpr c13
            have c13b1 : (t253 != 0) = false := bne_eq_false_iff_eq.mpr c13
            clear c13
            obtain ⟨ji14, hji14⟩ : ∃ j_ : Int, (Int.tmod (wrap64 (a1)) 512) = j_ := ⟨_, rfl⟩
            replace H : (if 0 ≤ (ji14) then (if (ji14) < (t252.length : Int) then ((tar_Read.f kj5 (t252.set ((ji14) : Int).toNat (Go.bits .xor .u8 (rd t252 (ji14)) a2))).bind fun bt258 => (if bt258.2 = 0 then (none) else (if (ji14) ≥ 148 then (if (ji14) < 156 then (some true) else (some (bt258.2 == 14))) else (some (bt258.2 == 14))))) else (none)) else (none)) = some r := by first | (rw [hji14] at H; exact H) | (simp only [hji14] at H ⊢; exact H)
            (try rw [hji14] at A12)
            by_cases c15 : 0 ≤ (ji14)
            · rw [if_pos c15] at H
              have c15b0 : decide (0 ≤ (ji14)) = true := decide_eq_true c15
              clear c15
              by_cases c16 : (ji14) < (t252.length : Int)
              · rw [if_pos c16] at H
                have c16b0 : decide ((ji14) < (t252.length : Int)) = true := decide_eq_true c16
                clear c16
                obtain ⟨y257, hy257⟩ : ∃ y_ : List Int, y_ = (t252.set ((ji14) : Int).toNat (Go.bits .xor .u8 (rd t252 (ji14)) a2)) := ⟨_, rfl⟩
                replace H : ((tar_Read.f kj5 y257).bind fun bt258 => (if bt258.2 = 0 then (none) else (if (ji14) ≥ 148 then (if (ji14) < 156 then (some true) else (some (bt258.2 == 14))) else (some (bt258.2 == 14))))) = some r := by first | (rw [hy257]; with_reducible exact H) | (have H2_ := (Option.bind_some _ _).symm.trans H; rw [hy257]; with_reducible exact H2_) | (have H2_ := (Option.bind_some _ _).symm.trans H; with_reducible exact H2_) | with_reducible exact H | (rw [hy257]; exact H) | exact H
                have Ny257 := Aside0.mk hy257
                clear hy257
                replace H := Option.bind_eq_some_iff.mp H
                obtain ⟨⟨t258, t261⟩, A180, H⟩ := H
                replace H : (if t261 = 0 then (none) else (if (ji14) ≥ 148 then (if (ji14) < 156 then (some true) else (some (t261 == 14))) else (some (t261 == 14)))) = some r := H
                have A18 := Aside0.mk A180
                clear A180
                by_cases c19 : t261 = 0
                · rw [if_pos c19] at H
                  exact absurd H (by simp)
                · rw [if_neg c19] at H
                  have c19b0 : (t261 == 0) = false := beq_eq_false_iff_ne.mpr c19
                  have c19b1 : (t261 != 0) = true := bne_iff_ne.mpr c19
                  by_cases c20 : (ji14) ≥ 148
                  · rw [if_pos c20] at H
                    have c20b0 : decide (148 ≤ (ji14)) = true := decide_eq_true c20
                    clear c20
                    by_cases c21 : (ji14) < 156
                    · rw [if_pos c21] at H
                      have c21b0 : decide ((ji14) < 156) = true := decide_eq_true c21
                      clear c21
                      obtain rfl := Option.some.inj H
                      go_wp2_with (first | ((with_reducible refine gate_callee (f := 12) rfl ?_); refine goesL_ (some 28) rfl rfl Tryd.func12 (by kernel_rfl) rfl #[.slice A0 l0.length c0] rfl (by (try simp only [List.map_toArray, List.map_cons, List.map_nil]); first | done | rfl | (simp only [List.length_drop, List.length_take]; rfl)) ?_; (with_reducible refine (crossroadsref22_Write.calls kj5 _ _ l0 t252 t253 _ ?side1 ?side2 A12.out).mono ?_); (case side1 => repeat (first | exact (Kd.C_below HR0.out HB.out) | (with_reducible refine Kd.C_alloc ?_ _) | (with_reducible refine Kd.C_drewN ?_ _) | (with_reducible refine Kd.C_drew ?_))); (case side2 => exact HC0.out); rintro e w22 ⟨v254, rfl, ho0, hb⟩; refine ⟨_, rfl, ?_⟩; have n0_ := Aside0.mk (Kd.R_lower ho0 (below_size (by repeat (first | (with_reducible first | exact HB.out | apply below_alloc | apply pw_below_drewN | apply below_drew1) | exact HB.out)))); have n1_ := Aside0.mk (below_step (by repeat (first | (with_reducible first | exact HB.out | apply below_alloc | apply pw_below_drewN | apply below_drew1) | exact HB.out)) hb); clear HB; have HO255 := n0_; have HB := n1_; clear n0_ n1_; (try clear hb); (try clear hb2); (try clear hk); (try clear hi); (try clear ho0); obtain ⟨Ao23, co23, eo23⟩ := Kd.R_slice HO255.out; subst eo23; have p256 : 0 ≤ ((ji14) : Int) := of_decide_eq_true (by first | (with_reducible assumption) | assumption); have q256 : (ji14) < (t252.length : Int) := of_decide_eq_true (by first | (with_reducible assumption) | assumption); (try (obtain ⟨Aoo256, coo256, eoo256⟩ := Kd.R_slice HO255.out; subst eoo256)); obtain ⟨ad256, e256, hx256_0⟩ := Kd.at_int (Kd.R_reads' HO255.out).2.2 (ji14) p256 q256; cases e256; replace p256 := eq_true p256; replace q256 := eq_true q256; have p17 : 0 ≤ ((ji14) : Int) := of_decide_eq_true (by first | (with_reducible assumption) | assumption); have q17 : ((ji14) : Int) < ((t252.length : Int) : Int) := of_decide_eq_true (by first | (with_reducible assumption) | assumption); obtain ⟨go17, co17, eo17, gb17, gl17, cl17, HG17⟩ := Kd.R_form HO255.out (by omega); (first | cases eo17 | (injection eo17 with ea_ en_ ec_; (first | subst ea_ | (injection ea_ with ea_; subst ea_)); subst ec_; clear en_)); have GB17 := Aside0.mk gb17; have GG17 := Aside0.mk HG17; clear gb17 gl17 HG17; (first | simp only [add_plain] at hx256_0 | skip); obtain ⟨hx17_0, hf17_0⟩ := Kd.R_celln 0 HO255.out ((ji14) : Int) p17 q17; replace p17 := eq_true p17; replace q17 := eq_true q17; obtain ⟨hy24_, hz24_⟩ := Kd.R_celln 0 HO255.out ((ji14) : Int) (of_decide_eq_true (by first | (with_reducible assumption) | assumption)) (of_decide_eq_true (by first | (with_reducible assumption) | assumption)); have HP24 := Kd.R_putg HO255.out ((ji14) : Int) (Go.bits .xor .u8 (rd t252 (ji14)) a2)) | ((with_reducible refine gate_store (t := 5) (p := 42) rfl ?_); refine store_event (t := 5) (p := 42) (v := ?vo_w25) (w1 := (w22.setCell ⟨go17, ((ji14) : Int).toNat, none⟩ (.int .u8 (Go.bits .xor .u8 (rd t252 (ji14)) a2)))) ?hg ?ho ?hn ?hr ?_; (case ho => rfl); (case hg => rfl); (case hn => rfl); (case hr => first | (go_simp; done) | (go_simp; rfl)); intro w25 hw; have hg : w22.grownBy w25 (some go17) := (by rw [hw]; exact HP24.2); have hp_ : Kd.R (Kd.int .u8) 5 w25 w.heap.size (fun _ => True) (.slice (some ⟨go17, 0, none⟩) t252.length co23) y257 := (by rw [hw, Ny257.out]; exact HP24.1); clear HP24; have n0_ := Aside0.mk (hp_); have n1_ := Aside0.mk ((by rw [hw]; exact below_set (HB.out) GB17.out : Below w.heap.size w w25)); clear HO255; clear HB; have HO255 := n0_; have HB := n1_; clear n0_ n1_; clear hg hw hp_) | ((with_reducible refine gate_callee (f := 13) rfl ?_); refine goesL_ (some 45) rfl rfl Tryd.func13 (by kernel_rfl) rfl #[.slice (some ⟨go17, 0, none⟩) y257.length co23] rfl (by (try simp only [List.map_toArray, List.map_cons, List.map_nil]); first | done | (rw [show y257.length = t252.length from (Kd.R_reads' HO255.out).1.symm] <;> rfl) | rfl | (simp only [List.length_drop, List.length_take]; rfl)) ?_; (with_reducible refine (tar_Read.calls kj5 (fun k_ => some k_ = (.slice (some ⟨go17, 0, none⟩) t252.length co23 : Value).ownBlock) _ _ y257 t258 t261 _ ?side1 A18.out).mono ?_); (case side1 => rw [show y257.length = t252.length from (Kd.R_reads' HO255.out).1.symm]; exact Kd.R_V (Kd.R_tight rfl (HO255.out))); rintro e w26 ⟨v259, rfl, ho0, hb⟩; refine ⟨_, rfl, ?_⟩; have n0_ := Aside0.mk (Kd.R_below (by (with_reducible repeat (first | apply Kd.R_alloc | apply Kd.R_drewN | apply Kd.R_drew)); exact HO255.out) hb); have n1_ := Aside0.mk (Kd.S_lower (Kd.S_new' (Kd.S_mono (ok' := fun k_ => True) ho0 (fun _ hk_ => trivial)) (Kd.R_lt (by (with_reducible repeat (first | apply Kd.R_alloc | apply Kd.R_drewN | apply Kd.R_drew)); exact HO255.out))) (below_size (by repeat (first | (with_reducible first | exact HB.out | apply below_alloc | apply pw_below_drewN | apply below_drew1) | exact HB.out)))); have n2_ := Aside0.mk (below_step (by repeat (first | (with_reducible first | exact HB.out | apply below_alloc | apply pw_below_drewN | apply below_drew1) | exact HB.out)) hb); clear HO255; clear HB; have HO255 := n0_; have HO260 := n1_; have HB := n2_; clear n0_ n1_ n2_; (try clear hb); (try clear hb2); (try clear hk); (try clear hi); (try clear ho0)))
                      go_ret
                      exact ⟨by first | rfl | (simp [errW_none, errW_some] <;> rfl) | (simp only [← hji14]; first | rfl | (simp [errW_none, errW_some] <;> rfl)) | (simp [*, errW_none, errW_some] <;> rfl), by repeat (first | (with_reducible first | exact HB.out | apply below_alloc | apply pw_below_drewN | apply below_drew1) | exact HB.out)⟩
                    · rw [if_neg c21] at H
                      have c21b0 : decide ((ji14) < 156) = false := decide_eq_false c21
                      clear c21
                      obtain rfl := Option.some.inj H
                      go_wp2_with (first | ((with_reducible refine gate_callee (f := 12) rfl ?_); refine goesL_ (some 28) rfl rfl Tryd.func12 (by kernel_rfl) rfl #[.slice A0 l0.length c0] rfl (by (try simp only [List.map_toArray, List.map_cons, List.map_nil]); first | done | rfl | (simp only [List.length_drop, List.length_take]; rfl)) ?_; (with_reducible refine (crossroadsref22_Write.calls kj5 _ _ l0 t252 t253 _ ?side1 ?side2 A12.out).mono ?_); (case side1 => repeat (first | exact (Kd.C_below HR0.out HB.out) | (with_reducible refine Kd.C_alloc ?_ _) | (with_reducible refine Kd.C_drewN ?_ _) | (with_reducible refine Kd.C_drew ?_))); (case side2 => exact HC0.out); rintro e w27 ⟨v254, rfl, ho0, hb⟩; refine ⟨_, rfl, ?_⟩; have n0_ := Aside0.mk (Kd.R_lower ho0 (below_size (by repeat (first | (with_reducible first | exact HB.out | apply below_alloc | apply pw_below_drewN | apply below_drew1) | exact HB.out)))); have n1_ := Aside0.mk (below_step (by repeat (first | (with_reducible first | exact HB.out | apply below_alloc | apply pw_below_drewN | apply below_drew1) | exact HB.out)) hb); clear HB; have HO255 := n0_; have HB := n1_; clear n0_ n1_; (try clear hb); (try clear hb2); (try clear hk); (try clear hi); (try clear ho0); obtain ⟨Ao28, co28, eo28⟩ := Kd.R_slice HO255.out; subst eo28; have p256 : 0 ≤ ((ji14) : Int) := of_decide_eq_true (by first | (with_reducible assumption) | assumption); have q256 : (ji14) < (t252.length : Int) := of_decide_eq_true (by first | (with_reducible assumption) | assumption); (try (obtain ⟨Aoo256, coo256, eoo256⟩ := Kd.R_slice HO255.out; subst eoo256)); obtain ⟨ad256, e256, hx256_0⟩ := Kd.at_int (Kd.R_reads' HO255.out).2.2 (ji14) p256 q256; cases e256; replace p256 := eq_true p256; replace q256 := eq_true q256; have p17 : 0 ≤ ((ji14) : Int) := of_decide_eq_true (by first | (with_reducible assumption) | assumption); have q17 : ((ji14) : Int) < ((t252.length : Int) : Int) := of_decide_eq_true (by first | (with_reducible assumption) | assumption); obtain ⟨go17, co17, eo17, gb17, gl17, cl17, HG17⟩ := Kd.R_form HO255.out (by omega); (first | cases eo17 | (injection eo17 with ea_ en_ ec_; (first | subst ea_ | (injection ea_ with ea_; subst ea_)); subst ec_; clear en_)); have GB17 := Aside0.mk gb17; have GG17 := Aside0.mk HG17; clear gb17 gl17 HG17; (first | simp only [add_plain] at hx256_0 | skip); obtain ⟨hx17_0, hf17_0⟩ := Kd.R_celln 0 HO255.out ((ji14) : Int) p17 q17; replace p17 := eq_true p17; replace q17 := eq_true q17; obtain ⟨hy29_, hz29_⟩ := Kd.R_celln 0 HO255.out ((ji14) : Int) (of_decide_eq_true (by first | (with_reducible assumption) | assumption)) (of_decide_eq_true (by first | (with_reducible assumption) | assumption)); have HP29 := Kd.R_putg HO255.out ((ji14) : Int) (Go.bits .xor .u8 (rd t252 (ji14)) a2)) | ((with_reducible refine gate_store (t := 5) (p := 42) rfl ?_); refine store_event (t := 5) (p := 42) (v := ?vo_w30) (w1 := (w27.setCell ⟨go17, ((ji14) : Int).toNat, none⟩ (.int .u8 (Go.bits .xor .u8 (rd t252 (ji14)) a2)))) ?hg ?ho ?hn ?hr ?_; (case ho => rfl); (case hg => rfl); (case hn => rfl); (case hr => first | (go_simp; done) | (go_simp; rfl)); intro w30 hw; have hg : w27.grownBy w30 (some go17) := (by rw [hw]; exact HP29.2); have hp_ : Kd.R (Kd.int .u8) 5 w30 w.heap.size (fun _ => True) (.slice (some ⟨go17, 0, none⟩) t252.length co28) y257 := (by rw [hw, Ny257.out]; exact HP29.1); clear HP29; have n0_ := Aside0.mk (hp_); have n1_ := Aside0.mk ((by rw [hw]; exact below_set (HB.out) GB17.out : Below w.heap.size w w30)); clear HO255; clear HB; have HO255 := n0_; have HB := n1_; clear n0_ n1_; clear hg hw hp_) | ((with_reducible refine gate_callee (f := 13) rfl ?_); refine goesL_ (some 45) rfl rfl Tryd.func13 (by kernel_rfl) rfl #[.slice (some ⟨go17, 0, none⟩) y257.length co28] rfl (by (try simp only [List.map_toArray, List.map_cons, List.map_nil]); first | done | (rw [show y257.length = t252.length from (Kd.R_reads' HO255.out).1.symm] <;> rfl) | rfl | (simp only [List.length_drop, List.length_take]; rfl)) ?_; (with_reducible refine (tar_Read.calls kj5 (fun k_ => some k_ = (.slice (some ⟨go17, 0, none⟩) t252.length co28 : Value).ownBlock) _ _ y257 t258 t261 _ ?side1 A18.out).mono ?_); (case side1 => rw [show y257.length = t252.length from (Kd.R_reads' HO255.out).1.symm]; exact Kd.R_V (Kd.R_tight rfl (HO255.out))); rintro e w31 ⟨v259, rfl, ho0, hb⟩; refine ⟨_, rfl, ?_⟩; have n0_ := Aside0.mk (Kd.R_below (by (with_reducible repeat (first | apply Kd.R_alloc | apply Kd.R_drewN | apply Kd.R_drew)); exact HO255.out) hb); have n1_ := Aside0.mk (Kd.S_lower (Kd.S_new' (Kd.S_mono (ok' := fun k_ => True) ho0 (fun _ hk_ => trivial)) (Kd.R_lt (by (with_reducible repeat (first | apply Kd.R_alloc | apply Kd.R_drewN | apply Kd.R_drew)); exact HO255.out))) (below_size (by repeat (first | (with_reducible first | exact HB.out | apply below_alloc | apply pw_below_drewN | apply below_drew1) | exact HB.out)))); have n2_ := Aside0.mk (below_step (by repeat (first | (with_reducible first | exact HB.out | apply below_alloc | apply pw_below_drewN | apply below_drew1) | exact HB.out)) hb); clear HO255; clear HB; have HO255 := n0_; have HO260 := n1_; have HB := n2_; clear n0_ n1_ n2_; (try clear hb); (try clear hb2); (try clear hk); (try clear hi); (try clear ho0)))
                      go_ret
                      exact ⟨by first | rfl | (simp [errW_none, errW_some] <;> rfl) | (simp only [← hji14]; first | rfl | (simp [errW_none, errW_some] <;> rfl)) | (simp [*, errW_none, errW_some] <;> rfl), by repeat (first | (with_reducible first | exact HB.out | apply below_alloc | apply pw_below_drewN | apply below_drew1) | exact HB.out)⟩
                  · rw [if_neg c20] at H
                    have c20b0 : decide (148 ≤ (ji14)) = false := decide_eq_false c20
                    clear c20
                    obtain rfl := Option.some.inj H
                    go_wp2_with (first | ((with_reducible refine gate_callee (f := 12) rfl ?_); refine goesL_ (some 28) rfl rfl Tryd.func12 (by kernel_rfl) rfl #[.slice A0 l0.length c0] rfl (by (try simp only [List.map_toArray, List.map_cons, List.map_nil]); first | done | rfl | (simp only [List.length_drop, List.length_take]; rfl)) ?_; (with_reducible refine (crossroadsref22_Write.calls kj5 _ _ l0 t252 t253 _ ?side1 ?side2 A12.out).mono ?_); (case side1 => repeat (first | exact (Kd.C_below HR0.out HB.out) | (with_reducible refine Kd.C_alloc ?_ _) | (with_reducible refine Kd.C_drewN ?_ _) | (with_reducible refine Kd.C_drew ?_))); (case side2 => exact HC0.out); rintro e w32 ⟨v254, rfl, ho0, hb⟩; refine ⟨_, rfl, ?_⟩; have n0_ := Aside0.mk (Kd.R_lower ho0 (below_size (by repeat (first | (with_reducible first | exact HB.out | apply below_alloc | apply pw_below_drewN | apply below_drew1) | exact HB.out)))); have n1_ := Aside0.mk (below_step (by repeat (first | (with_reducible first | exact HB.out | apply below_alloc | apply pw_below_drewN | apply below_drew1) | exact HB.out)) hb); clear HB; have HO255 := n0_; have HB := n1_; clear n0_ n1_; (try clear hb); (try clear hb2); (try clear hk); (try clear hi); (try clear ho0); obtain ⟨Ao33, co33, eo33⟩ := Kd.R_slice HO255.out; subst eo33; have p256 : 0 ≤ ((ji14) : Int) := of_decide_eq_true (by first | (with_reducible assumption) | assumption); have q256 : (ji14) < (t252.length : Int) := of_decide_eq_true (by first | (with_reducible assumption) | assumption); (try (obtain ⟨Aoo256, coo256, eoo256⟩ := Kd.R_slice HO255.out; subst eoo256)); obtain ⟨ad256, e256, hx256_0⟩ := Kd.at_int (Kd.R_reads' HO255.out).2.2 (ji14) p256 q256; cases e256; replace p256 := eq_true p256; replace q256 := eq_true q256; have p17 : 0 ≤ ((ji14) : Int) := of_decide_eq_true (by first | (with_reducible assumption) | assumption); have q17 : ((ji14) : Int) < ((t252.length : Int) : Int) := of_decide_eq_true (by first | (with_reducible assumption) | assumption); obtain ⟨go17, co17, eo17, gb17, gl17, cl17, HG17⟩ := Kd.R_form HO255.out (by omega); (first | cases eo17 | (injection eo17 with ea_ en_ ec_; (first | subst ea_ | (injection ea_ with ea_; subst ea_)); subst ec_; clear en_)); have GB17 := Aside0.mk gb17; have GG17 := Aside0.mk HG17; clear gb17 gl17 HG17; (first | simp only [add_plain] at hx256_0 | skip); obtain ⟨hx17_0, hf17_0⟩ := Kd.R_celln 0 HO255.out ((ji14) : Int) p17 q17; replace p17 := eq_true p17; replace q17 := eq_true q17; obtain ⟨hy34_, hz34_⟩ := Kd.R_celln 0 HO255.out ((ji14) : Int) (of_decide_eq_true (by first | (with_reducible assumption) | assumption)) (of_decide_eq_true (by first | (with_reducible assumption) | assumption)); have HP34 := Kd.R_putg HO255.out ((ji14) : Int) (Go.bits .xor .u8 (rd t252 (ji14)) a2)) | ((with_reducible refine gate_store (t := 5) (p := 42) rfl ?_); refine store_event (t := 5) (p := 42) (v := ?vo_w35) (w1 := (w32.setCell ⟨go17, ((ji14) : Int).toNat, none⟩ (.int .u8 (Go.bits .xor .u8 (rd t252 (ji14)) a2)))) ?hg ?ho ?hn ?hr ?_; (case ho => rfl); (case hg => rfl); (case hn => rfl); (case hr => first | (go_simp; done) | (go_simp; rfl)); intro w35 hw; have hg : w32.grownBy w35 (some go17) := (by rw [hw]; exact HP34.2); have hp_ : Kd.R (Kd.int .u8) 5 w35 w.heap.size (fun _ => True) (.slice (some ⟨go17, 0, none⟩) t252.length co33) y257 := (by rw [hw, Ny257.out]; exact HP34.1); clear HP34; have n0_ := Aside0.mk (hp_); have n1_ := Aside0.mk ((by rw [hw]; exact below_set (HB.out) GB17.out : Below w.heap.size w w35)); clear HO255; clear HB; have HO255 := n0_; have HB := n1_; clear n0_ n1_; clear hg hw hp_) | ((with_reducible refine gate_callee (f := 13) rfl ?_); refine goesL_ (some 45) rfl rfl Tryd.func13 (by kernel_rfl) rfl #[.slice (some ⟨go17, 0, none⟩) y257.length co33] rfl (by (try simp only [List.map_toArray, List.map_cons, List.map_nil]); first | done | (rw [show y257.length = t252.length from (Kd.R_reads' HO255.out).1.symm] <;> rfl) | rfl | (simp only [List.length_drop, List.length_take]; rfl)) ?_; (with_reducible refine (tar_Read.calls kj5 (fun k_ => some k_ = (.slice (some ⟨go17, 0, none⟩) t252.length co33 : Value).ownBlock) _ _ y257 t258 t261 _ ?side1 A18.out).mono ?_); (case side1 => rw [show y257.length = t252.length from (Kd.R_reads' HO255.out).1.symm]; exact Kd.R_V (Kd.R_tight rfl (HO255.out))); rintro e w36 ⟨v259, rfl, ho0, hb⟩; refine ⟨_, rfl, ?_⟩; have n0_ := Aside0.mk (Kd.R_below (by (with_reducible repeat (first | apply Kd.R_alloc | apply Kd.R_drewN | apply Kd.R_drew)); exact HO255.out) hb); have n1_ := Aside0.mk (Kd.S_lower (Kd.S_new' (Kd.S_mono (ok' := fun k_ => True) ho0 (fun _ hk_ => trivial)) (Kd.R_lt (by (with_reducible repeat (first | apply Kd.R_alloc | apply Kd.R_drewN | apply Kd.R_drew)); exact HO255.out))) (below_size (by repeat (first | (with_reducible first | exact HB.out | apply below_alloc | apply pw_below_drewN | apply below_drew1) | exact HB.out)))); have n2_ := Aside0.mk (below_step (by repeat (first | (with_reducible first | exact HB.out | apply below_alloc | apply pw_below_drewN | apply below_drew1) | exact HB.out)) hb); clear HO255; clear HB; have HO255 := n0_; have HO260 := n1_; have HB := n2_; clear n0_ n1_ n2_; (try clear hb); (try clear hb2); (try clear hk); (try clear hi); (try clear ho0)))
                    go_ret
                    exact ⟨by first | rfl | (simp [errW_none, errW_some] <;> rfl) | (simp only [← hji14]; first | rfl | (simp [errW_none, errW_some] <;> rfl)) | (simp [*, errW_none, errW_some] <;> rfl), by repeat (first | (with_reducible first | exact HB.out | apply below_alloc | apply pw_below_drewN | apply below_drew1) | exact HB.out)⟩
              · rw [if_neg c16] at H
                exact absurd H (by simp)
            · rw [if_neg c15] at H
              exact absurd H (by simp)
          · rw [if_neg c13] at H
            have c13b0 : (t253 == 0) = false := beq_eq_false_iff_ne.mpr c13
            have c13b1 : (t253 != 0) = true := bne_iff_ne.mpr c13
            obtain rfl := Option.some.inj H
            go_wp2_with (first | ((with_reducible refine gate_callee (f := 12) rfl ?_); refine goesL_ (some 28) rfl rfl Tryd.func12 (by kernel_rfl) rfl #[.slice A0 l0.length c0] rfl (by (try simp only [List.map_toArray, List.map_cons, List.map_nil]); first | done | rfl | (simp only [List.length_drop, List.length_take]; rfl)) ?_; (with_reducible refine (crossroadsref22_Write.calls kj5 _ _ l0 t252 t253 _ ?side1 ?side2 A12.out).mono ?_); (case side1 => repeat (first | exact (Kd.C_below HR0.out HB.out) | (with_reducible refine Kd.C_alloc ?_ _) | (with_reducible refine Kd.C_drewN ?_ _) | (with_reducible refine Kd.C_drew ?_))); (case side2 => exact HC0.out); rintro e w37 ⟨v254, rfl, ho0, hb⟩; refine ⟨_, rfl, ?_⟩; have n0_ := Aside0.mk (Kd.R_lower ho0 (below_size (by repeat (first | (with_reducible first | exact HB.out | apply below_alloc | apply pw_below_drewN | apply below_drew1) | exact HB.out)))); have n1_ := Aside0.mk (below_step (by repeat (first | (with_reducible first | exact HB.out | apply below_alloc | apply pw_below_drewN | apply below_drew1) | exact HB.out)) hb); clear HB; have HO255 := n0_; have HB := n1_; clear n0_ n1_; (try clear hb); (try clear hb2); (try clear hk); (try clear hi); (try clear ho0)))
            go_ret
            exact ⟨by first | rfl | (simp [errW_none, errW_some] <;> rfl) | (simp [*, errW_none, errW_some] <;> rfl), by repeat (first | (with_reducible first | exact HB.out | apply below_alloc | apply pw_below_drewN | apply below_drew1) | exact HB.out)⟩
  · replace c5 := Bool.eq_false_iff.mpr c5
    subst c5
    have H1 : (none) = some r := by rw [if_neg (show ¬ (false = true) by decide)] at H; exact H
    clear H
    have H := H1
    clear H1
    exact absurd H (by simp)

/-- THE ONE PURE STATEMENT of crossroadslaw22_TarSums. -/
def crossroadslaw22_TarSums.Pure : Prop := ∀ (l0 : List (S37)) (a1 : Int) (a2 : Int), (l0.length * 48 ≤ 140737488351232 ∧ l0.length ≤ 9223372036854775807 ∧ ∀ y1_ ∈ l0, (y1_.f0.size ≤ 140737488351232 ∧ (True ∧ (y1_.f2.length * 1 ≤ 140737488351232 ∧ y1_.f2.length ≤ 9223372036854775807 ∧ ∀ y2_ ∈ y1_.f2, (Lit.int .u8 y2_).wf = true)))) → (Lit.int .u16 a1).wf = true → (Lit.int .u8 a2).wf = true → ∃ k, crossroadslaw22_TarSums.f k l0 a1 a2 = some true

-- NOT PRINTED: function 6 (crossroadslaw22_TarJoins)

-- NOT PRINTED: function 7 (crossroadslaw22_TarBytes)

end Go.Proofs.YtlnogacjebbepaaDoor.P
