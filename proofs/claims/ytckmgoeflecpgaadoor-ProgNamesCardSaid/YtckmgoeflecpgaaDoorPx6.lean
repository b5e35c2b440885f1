-- Laid by a program of this session (the kit's print, changed): Lean checks it.
import Derived.Test.YtckmgoeflecpgaaDoorPx0
import Derived.Test.YtckmgoeflecpgaaDoorPx2
import Derived.Test.YtckmgoeflecpgaaDoorPx3
import Derived.Test.YtckmgoeflecpgaaDoorGAwake
import Derived.Test.YtckmgoeflecpgaaDoorGReadC
namespace Go.Proofs.YtckmgoeflecpgaaDoor.G
end Go.Proofs.YtckmgoeflecpgaaDoor.G
namespace Go.Proofs.YtckmgoeflecpgaaDoor.P
open Go.Proofs.YtckmgoeflecpgaaDoor.G
open Go.RowKit Go.Proofs.YtckmgoeflecpgaaDoorW.PrintWords Go.Proofs.YtckmgoeflecpgaaDoorW.PrintLast Go.Proofs.YtckmgoeflecpgaaDoorW.PrintMore
attribute [local go_sem] max2_int min2_int max_two min_two max_three min_three max_four min_four   -- for this text's walks alone
set_option linter.unusedVariables false
set_option linter.unusedSimpArgs false

/-! ### crossroadslaw10_ProgNames: function 9 -/
mutual
def crossroadslaw10_ProgNames.l0 : Nat → List ByteArray → Int → Int → Option (Bool)
  | 0, _, _, _ => none
  | k + 1, x0, x3, x4 => if x4 < (x0.length : Int) then (if 0 ≤ x4 then (crossroadslaw10_ProgNames.l0 k x0 (wrap64 (x3 + ((rdOf ByteArray.empty x0 x4).size : Int))) (wrap64 (x4 + 1))) else (none)) else (if (x0.length : Int) > 30 then (crossroadslaw10_ProgNames.j1 k x0 x3 true) else (crossroadslaw10_ProgNames.j1 k x0 x3 (decide (x3 > 10000))))
def crossroadslaw10_ProgNames.j1 : Nat → List ByteArray → Int → Bool → Option (Bool)
  | 0, _, _, _ => none
  | k + 1, x0, x3, x32 => if x32 = true then (some true) else ((prog_Bytes.f k ([] : List (S41)) x0).bind fun bt282 => (crossroadslaw10_ProgNames.l1 k x0 x3 bt282.1 bt282.2 false 0))
def crossroadslaw10_ProgNames.l1 : Nat → List ByteArray → Int → List Int → Int → Bool → Int → Option (Bool)
  | 0, _, _, _, _, _, _ => none
  | k + 1, x0, x3, x5, x6, x7, x8 => if x8 < (x0.length : Int) then (if x7 = true then (crossroadslaw10_ProgNames.l1 k x0 x3 x5 x6 true (wrap64 (x8 + 1))) else (if 0 ≤ x8 then (crossroadslaw10_ProgNames.l1 k x0 x3 x5 x6 (decide (((rdOf ByteArray.empty x0 x8).size : Int) > 255)) (wrap64 (x8 + 1))) else (none))) else (if (x0.length : Int) > 8 then (if x6 = 3 then (some ((x5.length : Int) == 0)) else (none)) else (if x7 = true then (if x6 = 10 then (some ((x5.length : Int) == 0)) else (none)) else ((prog_Read.f x5).bind fun bt287 => (if x6 = 0 then (if bt287.2.2 = 0 then (if (x5.length : Int) = (wrap64 ((wrap64 (4 + (x0.length : Int))) + x3)) then ((crossroadslaw10_Same.f k bt287.1 bt287.2.1 ([] : List (S41)) x0).bind fun t295 => (some t295)) else (none)) else (none)) else (none)))))
end
def crossroadslaw10_ProgNames.f (k : Nat) (l0 : List ByteArray) : Option (Bool) := (crossroadslaw10_awake.f).bind fun t280 => (if t280 = true then (crossroadslaw10_ProgNames.l0 k l0 0 0) else (none))
theorem crossroadslaw10_ProgNames.mono_l : ∀ k, (∀ y0 y1 y2, LeO (crossroadslaw10_ProgNames.l0 k y0 y1 y2) (crossroadslaw10_ProgNames.l0 (k + 1) y0 y1 y2)) ∧ (∀ y0 y1 y2, LeO (crossroadslaw10_ProgNames.j1 k y0 y1 y2) (crossroadslaw10_ProgNames.j1 (k + 1) y0 y1 y2)) ∧ (∀ y0 y1 y2 y3 y4 y5, LeO (crossroadslaw10_ProgNames.l1 k y0 y1 y2 y3 y4 y5) (crossroadslaw10_ProgNames.l1 (k + 1) y0 y1 y2 y3 y4 y5))
  | 0 => ⟨fun _ _ _ r h => by simp [crossroadslaw10_ProgNames.l0] at h, fun _ _ _ r h => by simp [crossroadslaw10_ProgNames.j1] at h, fun _ _ _ _ _ _ r h => by simp [crossroadslaw10_ProgNames.l1] at h⟩
  | k + 1 => by
    obtain ⟨ih0, ih1, ih2⟩ := crossroadslaw10_ProgNames.mono_l k
    refine ⟨?_, ?_, ?_⟩
    · intro y0 y1 y2
      unfold crossroadslaw10_ProgNames.l0
      repeat' first
      | (with_reducible exact ih0 _ _ _)
      | (with_reducible exact ih1 _ _ _)
      | (with_reducible exact ih2 _ _ _ _ _ _)
      | (with_reducible exact crossroadslaw10_Same.mono _ _ _ _ _)
      | (with_reducible exact prog_Bytes.mono _ _ _)
      | (with_reducible exact LeO.refl _)
      | (with_reducible exact LeO.none _)
      | (with_reducible refine LeO.ite ?_ ?_)
      | (with_reducible refine LeO.bind ?_ (fun _ => ?_))
      | exact ih0 _ _ _
      | exact ih1 _ _ _
      | exact ih2 _ _ _ _ _ _
      | exact crossroadslaw10_Same.mono _ _ _ _ _
      | exact prog_Bytes.mono _ _ _
      | exact LeO.none _
      | refine LeO.ite ?_ ?_
      | refine LeO.bind ?_ (fun _ => ?_)
    · intro y0 y1 y2
      unfold crossroadslaw10_ProgNames.j1
      repeat' first
      | (with_reducible exact ih0 _ _ _)
      | (with_reducible exact ih1 _ _ _)
      | (with_reducible exact ih2 _ _ _ _ _ _)
      | (with_reducible exact crossroadslaw10_Same.mono _ _ _ _ _)
      | (with_reducible exact prog_Bytes.mono _ _ _)
      | (with_reducible exact LeO.refl _)
      | (with_reducible exact LeO.none _)
      | (with_reducible refine LeO.ite ?_ ?_)
      | (with_reducible refine LeO.bind ?_ (fun _ => ?_))
      | exact ih0 _ _ _
      | exact ih1 _ _ _
      | exact ih2 _ _ _ _ _ _
      | exact crossroadslaw10_Same.mono _ _ _ _ _
      | exact prog_Bytes.mono _ _ _
      | exact LeO.none _
      | refine LeO.ite ?_ ?_
      | refine LeO.bind ?_ (fun _ => ?_)
    · intro y0 y1 y2 y3 y4 y5
      unfold crossroadslaw10_ProgNames.l1
      repeat' first
      | (with_reducible exact ih0 _ _ _)
      | (with_reducible exact ih1 _ _ _)
      | (with_reducible exact ih2 _ _ _ _ _ _)
      | (with_reducible exact crossroadslaw10_Same.mono _ _ _ _ _)
      | (with_reducible exact prog_Bytes.mono _ _ _)
      | (with_reducible exact LeO.refl _)
      | (with_reducible exact LeO.none _)
      | (with_reducible refine LeO.ite ?_ ?_)
      | (with_reducible refine LeO.bind ?_ (fun _ => ?_))
      | exact ih0 _ _ _
      | exact ih1 _ _ _
      | exact ih2 _ _ _ _ _ _
      | exact crossroadslaw10_Same.mono _ _ _ _ _
      | exact prog_Bytes.mono _ _ _
      | exact LeO.none _
      | refine LeO.ite ?_ ?_
      | refine LeO.bind ?_ (fun _ => ?_)
theorem crossroadslaw10_ProgNames.mono : ∀ a0 k, LeO (crossroadslaw10_ProgNames.f k a0) (crossroadslaw10_ProgNames.f (k + 1) a0) := by
  intro a0 k
  obtain ⟨ih0, ih1, ih2⟩ := crossroadslaw10_ProgNames.mono_l k
  unfold crossroadslaw10_ProgNames.f
  repeat' first
      | (with_reducible exact ih0 _ _ _)
      | (with_reducible exact ih1 _ _ _)
      | (with_reducible exact ih2 _ _ _ _ _ _)
      | (with_reducible exact crossroadslaw10_Same.mono _ _ _ _ _)
      | (with_reducible exact prog_Bytes.mono _ _ _)
      | (with_reducible exact LeO.refl _)
      | (with_reducible exact LeO.none _)
      | (with_reducible refine LeO.ite ?_ ?_)
      | (with_reducible refine LeO.bind ?_ (fun _ => ?_))
      | exact ih0 _ _ _
      | exact ih1 _ _ _
      | exact ih2 _ _ _ _ _ _
      | exact crossroadslaw10_Same.mono _ _ _ _ _
      | exact prog_Bytes.mono _ _ _
      | exact LeO.none _
      | refine LeO.ite ?_ ?_
      | refine LeO.bind ?_ (fun _ => ?_)
set_option maxHeartbeats 8000000 in
set_option maxRecDepth 100000 in
theorem crossroadslaw10_ProgNames.calls (k : Nat) (A0 : Option Addr) (c0 : Nat) (l0 : List ByteArray) (r : Bool) (w : World) (hLW : LW w) (hr0 : Kd.C Kd.string w A0 l0.length l0) (hc0 : l0.length ≤ c0) (h : crossroadslaw10_ProgNames.f k l0 = some r) :
    Calls Tryd.prog 9 #[.slice A0 l0.length c0] w fun e w' => e = .returned (.bool r) ∧ Below w.heap.size w w' := by
  have hu25 := Tryd.underlying25
  have HR0 := Aside0.mk hr0
  have HC0 := Aside0.mk hc0
  clear hr0 hc0
  have HB := Aside0.mk (Below.refl w.heap.size w)
  have H : ((crossroadslaw10_awake.f).bind fun t280 => (if t280 = true then (crossroadslaw10_ProgNames.l0 k l0 0 0) else (none))) = some r := h
  clear h
  replace H := Option.bind_eq_some_iff.mp H
  obtain ⟨t280, A20, H⟩ := H
  replace H : (if t280 = true then (crossroadslaw10_ProgNames.l0 k l0 0 0) else (none)) = some r := H
  have A2 := Aside0.mk A20
  clear A20
  by_cases c3 : t280 = true
  · subst c3
    have H1 : (crossroadslaw10_ProgNames.l0 k l0 0 0) = some r := by rw [if_pos rfl] at H; exact H
    clear H
    have H := H1
    clear H1
    have H' := Aside0.mk H
    clear H
    go_enter Tryd.func9, Tryd.ntmps9
    go_wp2_with (first | ((with_reducible refine gate_callee (f := 10) rfl ?_); refine goesL_ (some 11) rfl rfl Tryd.func10 (by kernel_rfl) rfl #[] rfl (by (try simp only [List.map_toArray, List.map_cons, List.map_nil]); first | done | rfl | (simp only [List.length_drop, List.length_take]; rfl)) ?_; (with_reducible refine (crossroadslaw10_awake.calls true _ (hLW.below (by repeat (first | (with_reducible first | exact HB.out | apply below_alloc | apply pw_below_drewN | apply below_drew1) | exact HB.out))) A2.out).mono ?_); rintro e w4 ⟨rfl, hb⟩; refine ⟨_, rfl, ?_⟩; have n0_ := Aside0.mk (below_step (by repeat (first | (with_reducible first | exact HB.out | apply below_alloc | apply pw_below_drewN | apply below_drew1) | exact HB.out)) hb); clear HB; have HB := n0_; clear n0_; (try clear hb); (try clear hb2); (try clear hk); (try clear hi)))
    go_loopg [3, 4] k (fun kq v3 v4 w' => ∃ (x3_1 : Int) (x4_1 : Int), v3 = .int .i64 x3_1 ∧ v4 = .int .i64 x4_1 ∧ Aside0 (crossroadslaw10_ProgNames.l0 kq l0 x3_1 x4_1 = some r) ∧ Aside0 (kq ≤ k) ∧ Aside0 (Below w.heap.size w w'))
    case atStart => exact ⟨(0), (0), (by first | rfl | (simp; done) | (simp [*]; done)), (by first | rfl | (simp; done) | (simp [*]; done)), H', ⟨Nat.le_refl _⟩, ⟨by repeat (first | (with_reducible first | exact HB.out | apply below_alloc | apply pw_below_drewN | apply below_drew1) | exact HB.out)⟩⟩
    case round =>
      clear H'
      try clear c1
      try clear p2
      try clear c3
      obtain ⟨x3_1, x4_1, rfl, rfl, HA, HK1, HB⟩ := hrel
      cases gk with
      | zero => exact absurd HA.out (by simp [crossroadslaw10_ProgNames.l0])
      | succ k1 =>
        have H := HA.out
        clear HA
        simp only [crossroadslaw10_ProgNames.l0] at H
        by_cases c5 : x4_1 < (l0.length : Int)
        · rw [if_pos c5] at H
          have c5b0 : decide (x4_1 < (l0.length : Int)) = true := decide_eq_true c5
          clear c5
          by_cases c6 : 0 ≤ x4_1
          · rw [if_pos c6] at H
            have c6b0 : decide (0 ≤ x4_1) = true := decide_eq_true c6
            clear c6
            have H' := Aside0.mk H
            clear H
            have p281 : 0 ≤ (x4_1 : Int) := of_decide_eq_true (by first | (with_reducible assumption) | assumption)
            have q281 : x4_1 < (l0.length : Int) := of_decide_eq_true (by first | (with_reducible assumption) | assumption)
            obtain ⟨ad281, e281, hx281_0⟩ := Kd.at_string HR0.out x4_1 p281 q281
            cases e281
            replace hx281_0 := (HB.out.cell (World.block_lt_of_cell? w _ hx281_0)).trans hx281_0
            replace p281 := eq_true p281
            replace q281 := eq_true q281
            go_wp2
            go_roundg k1
            case measure => have := HK1.out; omega
            case rel => exact ⟨(wrap64 (x3_1 + ((rdOf ByteArray.empty l0 x4_1).size : Int))), (wrap64 (x4_1 + 1)), (by first | rfl | (simp; done) | (simp [*]; done)), (by first | rfl | (simp; done) | (simp [*]; done)), H', ⟨by have := HK1.out; omega⟩, ⟨by repeat (first | (with_reducible first | exact HB.out | apply below_alloc | apply pw_below_drewN | apply below_drew1) | exact HB.out)⟩⟩
          · rw [if_neg c6] at H
            exact absurd H (by simp)
        · rw [if_neg c5] at H
          have c5b0 : decide (x4_1 < (l0.length : Int)) = false := decide_eq_false c5
          clear c5
          have HC7 := Aside0.mk H
          clear H
          go_upto_region 8 with (fail)
          go_cut [32] (fun v32 wc => ∃ (kq : Nat) (x32_6 : Bool), v32 = .bool x32_6 ∧ Aside0 (crossroadslaw10_ProgNames.j1 kq l0 x3_1 x32_6 = some r) ∧ Aside0 (kq ≤ k1) ∧ Aside0 (Below w.heap.size w wc))
          case first =>
            have H := HC7.out
            clear HC7
            by_cases c8 : (l0.length : Int) > 30
            · rw [if_pos c8] at H
              have c8b0 : decide (30 < (l0.length : Int)) = true := decide_eq_true c8
              have c8b1 : decide (30 < l0.length) = true := decide_eq_true (by omega)
              clear c8
              (first | rw [c8b0] | (simp only [i64_w, i32_w]; rw [c8b0]) | (rw [c8b2]; (try simp only [Bool.not_true, Bool.not_false])) | skip)
              have H' := Aside0.mk H
              clear H
              go_wp2
              go_meet
              case rel => exact ⟨_, (true), (by first | rfl | (simp; done) | (simp [*]; done)), H', ⟨by have := HK1.out; first | omega | exact Nat.le_refl _⟩, ⟨by repeat (first | (with_reducible first | exact HB.out | apply below_alloc | apply pw_below_drewN | apply below_drew1) | exact HB.out)⟩⟩
            · rw [if_neg c8] at H
              have c8b0 : decide (30 < (l0.length : Int)) = false := decide_eq_false c8
              have c8b1 : decide (30 < l0.length) = false := decide_eq_false (by omega)
              clear c8
              (first | rw [c8b0] | (simp only [i64_w, i32_w]; rw [c8b0]) | (rw [c8b2]; (try simp only [Bool.not_true, Bool.not_false])) | skip)
              have H' := Aside0.mk H
              clear H
              go_wp2
              go_meet
              case rel => exact ⟨_, (decide (x3_1 > 10000)), (by first | rfl | (simp; done) | (simp [*]; done)), H', ⟨by have := HK1.out; first | omega | exact Nat.le_refl _⟩, ⟨by repeat (first | (with_reducible first | exact HB.out | apply below_alloc | apply pw_below_drewN | apply below_drew1) | exact HB.out)⟩⟩
          case rest =>
            clear HC7
            try clear c1
            try clear p2
            try clear q2
            try clear hx2
            try clear c3
            try clear c5
            try clear c5b0
            try clear c6
            try clear c6b0
            try clear p6
            try clear c8
            try clear c8b0
            try clear c8b1
            try clear c8b2
            try clear hx281_0
            try clear p2
            try clear p281
            try clear q281
            obtain ⟨kq, x32_6, rfl, HA, HJ6, HB⟩ := hcut
            cases kq with
            | zero => exact absurd HA.out (by simp [crossroadslaw10_ProgNames.j1])
            | succ kj6 =>
              have H := HA.out
              clear HA
              simp only [crossroadslaw10_ProgNames.j1] at H
              by_cases c9 : x32_6 = true
              · subst c9
                have H1 : (some true) = some r := by rw [if_pos rfl] at H; exact H
                clear H
                have H := H1
                clear H1
                obtain rfl := Option.some.inj H
                go_wp2
                go_ret
                exact ⟨by first | rfl | (simp [errW_none, errW_some] <;> rfl) | (simp [*, errW_none, errW_some] <;> rfl), by repeat (first | (with_reducible first | exact HB.out | apply below_alloc | apply pw_below_drewN | apply below_drew1) | exact HB.out)⟩
              · replace c9 := Bool.eq_false_iff.mpr c9
                subst c9
                have H1 : ((prog_Bytes.f kj6 ([] : List (S41)) l0).bind fun bt282 => (crossroadslaw10_ProgNames.l1 kj6 l0 x3_1 bt282.1 bt282.2 false 0)) = some r := by rw [if_neg (show ¬ (false = true) by decide)] at H; exact H
                clear H
                have H := H1
                clear H1
                replace H := Option.bind_eq_some_iff.mp H
                obtain ⟨⟨t282, t285⟩, A100, H⟩ := H
                replace H : (crossroadslaw10_ProgNames.l1 kj6 l0 x3_1 t282 t285 false 0) = some r := H
                have A10 := Aside0.mk A100
                clear A100
                have H' := Aside0.mk H
                clear H
                go_wp2_with (first | ((with_reducible refine gate_callee (f := 12) rfl ?_); refine goesL_ (some 36) rfl rfl Tryd.func12 (by kernel_rfl) rfl #[.agg #[.slice none 0 0, .slice A0 l0.length c0]] rfl (by (try simp only [List.map_toArray, List.map_cons, List.map_nil]); first | done | rfl | (simp only [List.length_drop, List.length_take]; rfl)) ?_; (refine (prog_Bytes.calls kj6 _ _ ([] : List (S41)) _ _ l0 t282 t285 _ ?side1 ?side2 ?side3 ?side4 A10.out).mono ?_); (case side1 => exact Kd.C_nil _ _); (case side2 => exact Nat.le_refl _); (case side3 => repeat (first | exact (Kd.C_below HR0.out HB.out) | (with_reducible refine Kd.C_alloc ?_ _) | (with_reducible refine Kd.C_drewN ?_ _) | (with_reducible refine Kd.C_drew ?_))); (case side4 => exact HC0.out); rintro e w11 ⟨v283, rfl, ho0, hb⟩; refine ⟨_, rfl, ?_⟩; have n0_ := Aside0.mk (Kd.R_lower ho0 (below_size (by repeat (first | (with_reducible first | exact HB.out | apply below_alloc | apply pw_below_drewN | apply below_drew1) | exact HB.out)))); have n1_ := Aside0.mk (below_step (by repeat (first | (with_reducible first | exact HB.out | apply below_alloc | apply pw_below_drewN | apply below_drew1) | exact HB.out)) hb); clear HB; have HO284 := n0_; have HB := n1_; clear n0_ n1_; (try clear hb); (try clear hb2); (try clear hk); (try clear hi); (try clear ho0)))
                go_loopg [7, 8] kj6 (fun kq v7 v8 w' => ∃ (x7_3 : Bool) (x8_3 : Int), v7 = .bool x7_3 ∧ v8 = .int .i64 x8_3 ∧ Aside0 (crossroadslaw10_ProgNames.l1 kq l0 x3_1 t282 t285 x7_3 x8_3 = some r) ∧ Aside0 (kq ≤ kj6) ∧ Aside0 (Kd.R (Kd.int .u8) 5 w' w.heap.size (fun _ => True) v283 t282) ∧ Aside0 (Below w.heap.size w w'))
                case atStart => exact ⟨(false), (0), (by first | rfl | (simp; done) | (simp [*]; done)), (by first | rfl | (simp; done) | (simp [*]; done)), H', ⟨Nat.le_refl _⟩, ⟨by (with_reducible repeat (first | apply Kd.R_alloc | apply Kd.R_drewN | apply Kd.R_drew)); exact HO284.out⟩, ⟨by repeat (first | (with_reducible first | exact HB.out | apply below_alloc | apply pw_below_drewN | apply below_drew1) | exact HB.out)⟩⟩
                case round =>
                  clear H'
                  try clear c1
                  try clear p2
                  try clear q2
                  try clear hx2
                  try clear c3
                  try clear c5
                  try clear c5b0
                  try clear c6
                  try clear c6b0
                  try clear p6
                  try clear c8
                  try clear c8b0
                  try clear c8b1
                  try clear c8b2
                  try clear c9
                  try clear c10
                  try clear hx281_0
                  try clear p2
                  try clear p281
                  try clear p6
                  try clear q2
                  try clear q281
                  obtain ⟨x7_3, x8_3, rfl, rfl, HA, HK3, HO_5, HB⟩ := hrel
                  cases gk with
                  | zero => exact absurd HA.out (by simp [crossroadslaw10_ProgNames.l1])
                  | succ k3 =>
                    have H := HA.out
                    clear HA
                    simp only [crossroadslaw10_ProgNames.l1] at H
                    by_cases c12 : x8_3 < (l0.length : Int)
                    · rw [if_pos c12] at H
                      have c12b0 : decide (x8_3 < (l0.length : Int)) = true := decide_eq_true c12
                      clear c12
                      by_cases c13 : x7_3 = true
                      · subst c13
                        have H1 : (crossroadslaw10_ProgNames.l1 k3 l0 x3_1 t282 t285 true (wrap64 (x8_3 + 1))) = some r := by rw [if_pos rfl] at H; exact H
                        clear H
                        have H := H1
                        clear H1
                        have H' := Aside0.mk H
                        clear H
                        go_wp2
                        go_roundg k3
                        case measure => have := HK1.out; have := HJ6.out; have := HK3.out; omega
                        case rel => exact ⟨(true), (wrap64 (x8_3 + 1)), (by first | rfl | (simp; done) | (simp [*]; done)), (by first | rfl | (simp; done) | (simp [*]; done)), H', ⟨by have := HK1.out; have := HJ6.out; have := HK3.out; omega⟩, ⟨by (with_reducible repeat (first | apply Kd.R_alloc | apply Kd.R_drewN | apply Kd.R_drew)); exact HO_5.out⟩, ⟨by repeat (first | (with_reducible first | exact HB.out | apply below_alloc | apply pw_below_drewN | apply below_drew1) | exact HB.out)⟩⟩
                      · replace c13 := Bool.eq_false_iff.mpr c13
                        subst c13
                        have H1 : (if 0 ≤ x8_3 then (crossroadslaw10_ProgNames.l1 k3 l0 x3_1 t282 t285 (decide (((rdOf ByteArray.empty l0 x8_3).size : Int) > 255)) (wrap64 (x8_3 + 1))) else (none)) = some r := by rw [if_neg (show ¬ (false = true) by decide)] at H; exact H
                        clear H
                        have H := H1
                        clear H1
                        by_cases c14 : 0 ≤ x8_3
                        · rw [if_pos c14] at H
                          have c14b0 : decide (0 ≤ x8_3) = true := decide_eq_true c14
                          clear c14
                          have H' := Aside0.mk H
                          clear H
                          have p286 : 0 ≤ (x8_3 : Int) := of_decide_eq_true (by first | (with_reducible assumption) | assumption)
                          have q286 : x8_3 < (l0.length : Int) := of_decide_eq_true (by first | (with_reducible assumption) | assumption)
                          obtain ⟨ad286, e286, hx286_0⟩ := Kd.at_string HR0.out x8_3 p286 q286
                          cases e286
                          replace hx286_0 := (HB.out.cell (World.block_lt_of_cell? w _ hx286_0)).trans hx286_0
                          replace p286 := eq_true p286
                          replace q286 := eq_true q286
                          go_wp2
                          go_roundg k3
                          case measure => have := HK1.out; have := HJ6.out; have := HK3.out; omega
                          case rel => exact ⟨(decide (((rdOf ByteArray.empty l0 x8_3).size : Int) > 255)), (wrap64 (x8_3 + 1)), (by first | rfl | (simp; done) | (simp [*]; done)), (by first | rfl | (simp; done) | (simp [*]; done)), H', ⟨by have := HK1.out; have := HJ6.out; have := HK3.out; omega⟩, ⟨by (with_reducible repeat (first | apply Kd.R_alloc | apply Kd.R_drewN | apply Kd.R_drew)); exact HO_5.out⟩, ⟨by repeat (first | (with_reducible first | exact HB.out | apply below_alloc | apply pw_below_drewN | apply below_drew1) | exact HB.out)⟩⟩
                        · rw [if_neg c14] at H
                          exact absurd H (by simp)
                    · rw [if_neg c12] at H
                      have c12b0 : decide (x8_3 < (l0.length : Int)) = false := decide_eq_false c12
                      clear c12
                      by_cases c15 : (l0.length : Int) > 8
                      · rw [if_pos c15] at H
                        have c15b0 : decide (8 < (l0.length : Int)) = true := decide_eq_true c15
                        have c15b1 : decide (8 < l0.length) = true := decide_eq_true (by omega)
                        clear c15
                        by_cases c16 : t285 = 3
                        · rw [if_pos c16] at H
                          have c16b0 : (t285 == 3) = true := beq_iff_eq.mpr c16
                          have c16b1 : (t285 != 3) = false := bne_eq_false_iff_eq.mpr c16
                          clear c16
                          obtain rfl := Option.some.inj H
                          obtain ⟨Ao17, co17, eo17⟩ := Kd.R_slice HO_5.out
                          subst eo17
                          go_wp2
                          go_ret
                          exact ⟨by first | rfl | (simp [errW_none, errW_some] <;> rfl) | (simp [*, errW_none, errW_some] <;> rfl), by repeat (first | (with_reducible first | exact HB.out | apply below_alloc | apply pw_below_drewN | apply below_drew1) | exact HB.out)⟩
                        · rw [if_neg c16] at H
                          exact absurd H (by simp)
                      · rw [if_neg c15] at H
                        have c15b0 : decide (8 < (l0.length : Int)) = false := decide_eq_false c15
                        have c15b1 : decide (8 < l0.length) = false := decide_eq_false (by omega)
                        clear c15
                        by_cases c18 : x7_3 = true
                        · subst c18
                          have H1 : (if t285 = 10 then (some ((t282.length : Int) == 0)) else (none)) = some r := by rw [if_pos rfl] at H; exact H
                          clear H
                          have H := H1
                          clear H1
                          by_cases c19 : t285 = 10
                          · rw [if_pos c19] at H
                            have c19b0 : (t285 == 10) = true := beq_iff_eq.mpr c19
                            have c19b1 : (t285 != 10) = false := bne_eq_false_iff_eq.mpr c19
                            clear c19
                            obtain rfl := Option.some.inj H
                            obtain ⟨Ao20, co20, eo20⟩ := Kd.R_slice HO_5.out
                            subst eo20
                            go_wp2
                            go_ret
                            exact ⟨by first | rfl | (simp [errW_none, errW_some] <;> rfl) | (simp [*, errW_none, errW_some] <;> rfl), by repeat (first | (with_reducible first | exact HB.out | apply below_alloc | apply pw_below_drewN | apply below_drew1) | exact HB.out)⟩
                          · rw [if_neg c19] at H
                            exact absurd H (by simp)
                        · replace c18 := Bool.eq_false_iff.mpr c18
                          subst c18
                          have H1 : ((prog_Read.f t282).bind fun bt287 => (if t285 = 0 then (if bt287.2.2 = 0 then (if (t282.length : Int) = (wrap64 ((wrap64 (4 + (l0.length : Int))) + x3_1)) then ((crossroadslaw10_Same.f k3 bt287.1 bt287.2.1 ([] : List (S41)) l0).bind fun t295 => (some t295)) else (none)) else (none)) else (none))) = some r := by rw [if_neg (show ¬ (false = true) by decide)] at H; exact H
                          clear H
                          have H := H1
                          clear H1
                          replace H := Option.bind_eq_some_iff.mp H
                          obtain ⟨⟨t287, t290, t293⟩, A210, H⟩ := H
                          replace H : (if t285 = 0 then (if t293 = 0 then (if (t282.length : Int) = (wrap64 ((wrap64 (4 + (l0.length : Int))) + x3_1)) then ((crossroadslaw10_Same.f k3 t287 t290 ([] : List (S41)) l0).bind fun t295 => (some t295)) else (none)) else (none)) else (none)) = some r := H
                          have A21 := Aside0.mk A210
                          clear A210
                          by_cases c22 : t285 = 0
                          · rw [if_pos c22] at H
                            have c22b0 : (t285 == 0) = true := beq_iff_eq.mpr c22
                            have c22b1 : (t285 != 0) = false := bne_eq_false_iff_eq.mpr c22
                            clear c22
                            by_cases c23 : t293 = 0
                            · rw [if_pos c23] at H
                              have c23b0 : (t293 == 0) = true := beq_iff_eq.mpr c23
                              have c23b1 : (t293 != 0) = false := bne_eq_false_iff_eq.mpr c23
                              clear c23
                              by_cases c24 : (t282.length : Int) = (wrap64 ((wrap64 (4 + (l0.length : Int))) + x3_1))
                              · rw [if_pos c24] at H
                                have c24b0 : ((t282.length : Int) == (wrap64 ((wrap64 (4 + (l0.length : Int))) + x3_1))) = true := beq_iff_eq.mpr c24
                                have c24b1 : ((t282.length : Int) != (wrap64 ((wrap64 (4 + (l0.length : Int))) + x3_1))) = false := bne_eq_false_iff_eq.mpr c24
                                clear c24
                                replace H := Option.bind_eq_some_iff.mp H
                                obtain ⟨t295, A250, H⟩ := H
                                replace H : (some t295) = some r := H
                                have A25 := Aside0.mk A250
                                clear A250
                                obtain rfl := Option.some.inj H
                                obtain ⟨Ao26, co26, eo26⟩ := Kd.R_slice HO_5.out
                                subst eo26
                                go_wp2_with (first | ((with_reducible refine gate_callee (f := 14) rfl ?_); refine goesL_ (some 76) rfl rfl Tryd.func14 (by kernel_rfl) rfl #[.slice Ao26 t282.length co26] rfl (by (try simp only [List.map_toArray, List.map_cons, List.map_nil]); first | done | rfl | (simp only [List.length_drop, List.length_take]; rfl)) ?_; (with_reducible refine (prog_Read.calls _ _ t282 t287 t290 t293 _ ?side1 ?side2 A21.out).mono ?_); (case side1 => repeat (first | exact (Kd.R_reads' HO_5.out).2.2 | (with_reducible refine Kd.C_alloc ?_ _) | (with_reducible refine Kd.C_drewN ?_ _) | (with_reducible refine Kd.C_drew ?_))); (case side2 => exact (Kd.R_reads' HO_5.out).2.1); rintro e w27 ⟨v288, v291, rfl, ho0, ho1, hb⟩; refine ⟨_, rfl, ?_⟩; have n0_ := Aside0.mk (Kd.R_below (by (with_reducible repeat (first | apply Kd.R_alloc | apply Kd.R_drewN | apply Kd.R_drew)); exact HO_5.out) hb); have n1_ := Aside0.mk (Kd.R_lower ho0 (below_size (by repeat (first | (with_reducible first | exact HB.out | apply below_alloc | apply pw_below_drewN | apply below_drew1) | exact HB.out)))); have n2_ := Aside0.mk (Kd.R_lower ho1 (below_size (by repeat (first | (with_reducible first | exact HB.out | apply below_alloc | apply pw_below_drewN | apply below_drew1) | exact HB.out)))); have n3_ := Aside0.mk (below_step (by repeat (first | (with_reducible first | exact HB.out | apply below_alloc | apply pw_below_drewN | apply below_drew1) | exact HB.out)) hb); clear HO_5; clear HB; have HO_5 := n0_; have HO289 := n1_; have HO292 := n2_; have HB := n3_; clear n0_ n1_ n2_ n3_; (try clear hb); (try clear hb2); (try clear hk); (try clear hi); (try clear ho0); (try clear ho1)) | ((with_reducible refine gate_dst (N := 9) rfl ?_); (try (refine gate_guard (by rfl) ?_; dsimp only)); refine box_event ?hg (N := 9) ?hd (cs := #[.slice none 0 0, .slice none 0 0]) (t := 25) ?hr ?_; (case hd => rfl); (case hg => rfl); (case hr => first | (go_simp; done) | (go_simp; rfl)); intro gb294 hg w28 hbox hb; have n0_ := Aside0.mk (Kd.R_below (by (with_reducible repeat (first | apply Kd.R_alloc | apply Kd.R_drewN | apply Kd.R_drew)); exact HO_5.out) hb); have n1_ := Aside0.mk (Kd.R_below (by (with_reducible repeat (first | apply Kd.R_alloc | apply Kd.R_drewN | apply Kd.R_drew)); exact HO289.out) hb); have n2_ := Aside0.mk (Kd.R_below (by (with_reducible repeat (first | apply Kd.R_alloc | apply Kd.R_drewN | apply Kd.R_drew)); exact HO292.out) hb); have n3_ := Aside0.mk (below_step (by repeat (first | (with_reducible first | exact HB.out | apply below_alloc | apply pw_below_drewN | apply below_drew1) | exact HB.out)) hb); have n4_ := Aside0.mk (hbox); have n5_ := Aside0.mk ((by rw [hg]; exact (below_size (by repeat (first | (with_reducible first | exact HB.out | apply below_alloc | apply pw_below_drewN | apply below_drew1) | exact HB.out))) : w.heap.size ≤ gb294)); have n6_ := Aside0.mk ((by rw [hg]; exact (below_size (by repeat (first | (with_reducible first | exact HB.out | apply below_alloc | apply pw_below_drewN | apply below_drew1) | exact HB.out))) : w.heap.size ≤ gb294)); clear HO_5; clear HO289; clear HO292; clear HB; have HO_5 := n0_; have HO289 := n1_; have HO292 := n2_; have HB := n3_; have BK294 := n4_; have GW294 := n5_; have GE294 := n6_; clear n0_ n1_ n2_ n3_ n4_ n5_ n6_; clear hb hbox hg; obtain ⟨Ao29, co29, eo29⟩ := Kd.R_slice HO289.out; subst eo29; have hcz30_0 : w28.cell? ⟨gb294, 0, none⟩ = some (.slice none 0 0) := (blk_cell BK294.out 0).trans rfl; have hcz30_1 : w28.cell? ⟨gb294, 1, none⟩ = some (.slice none 0 0) := (blk_cell BK294.out 1).trans rfl; have hfz30_0 := blk_frozen BK294.out 0; have hfz30_1 := blk_frozen BK294.out 1; obtain ⟨Ao31, co31, eo31⟩ := Kd.R_slice HO292.out; subst eo31) | (go_at_call 15; (refine (crossroadslaw10_Same.calls k3 _ _ t287 _ _ t290 _ _ ([] : List (S41)) _ _ l0 t295 _ ?side1 ?side2 ?side3 ?side4 ?side5 ?side6 ?side7 ?side8 A25.out).mono ?_); (case side1 => refine (Kd.R_reads' (e := 41) (base := w.heap.size) (ok := fun k_ => True) (n := t287.length) (c := co29) ?_).2.2; exact (by (with_reducible repeat (first | apply Kd.R_alloc | apply Kd.R_drewN | apply Kd.R_drew)); exact (Kd.R_mono (Kd.R_far (p := ⟨gb294, 1, none⟩) (Kd.R_far (p := ⟨gb294, 0, none⟩) (Kd.R_types HO289.out BK294.out (by decide)) (fun _ hk => hk.2) (.slice Ao29 t287.length co29)) (fun _ hk => hk.2) (.slice Ao31 t290.length co31)) (fun _ h_ => h_.1)))); (case side2 => exact (Kd.R_reads' HO289.out).2.1); (case side3 => refine (Kd.R_reads' (e := 9) (base := w.heap.size) (ok := fun k_ => True) (n := t290.length) (c := co31) ?_).2.2; exact (by (with_reducible repeat (first | apply Kd.R_alloc | apply Kd.R_drewN | apply Kd.R_drew)); exact (Kd.R_mono (Kd.R_far (p := ⟨gb294, 1, none⟩) (Kd.R_far (p := ⟨gb294, 0, none⟩) (Kd.R_types HO292.out BK294.out (by decide)) (fun _ hk => hk.2) (.slice Ao29 t287.length co29)) (fun _ hk => hk.2) (.slice Ao31 t290.length co31)) (fun _ h_ => h_.1)))); (case side4 => exact (Kd.R_reads' HO292.out).2.1); (case side5 => exact Kd.C_nil _ _); (case side6 => exact Nat.le_refl _); (case side7 => exact Kd.C_below HR0.out (by repeat (first | (with_reducible first | exact HB.out | apply below_alloc | apply pw_below_drewN | apply below_drew1 | refine below_set ?_ GE294.out) | exact HB.out))); (case side8 => exact HC0.out); rintro e w32 ⟨rfl, hb⟩; have n0_ := Aside0.mk (Kd.R_below (by (with_reducible repeat (first | apply Kd.R_alloc | apply Kd.R_drewN | apply Kd.R_drew)); exact (Kd.R_mono (Kd.R_far (p := ⟨gb294, 1, none⟩) (Kd.R_far (p := ⟨gb294, 0, none⟩) (Kd.R_types HO_5.out BK294.out (by decide)) (fun _ hk => hk.2) (.slice Ao29 t287.length co29)) (fun _ hk => hk.2) (.slice Ao31 t290.length co31)) (fun _ h_ => h_.1))) hb); have n1_ := Aside0.mk (Kd.R_below (by (with_reducible repeat (first | apply Kd.R_alloc | apply Kd.R_drewN | apply Kd.R_drew)); exact (Kd.R_mono (Kd.R_far (p := ⟨gb294, 1, none⟩) (Kd.R_far (p := ⟨gb294, 0, none⟩) (Kd.R_types HO289.out BK294.out (by decide)) (fun _ hk => hk.2) (.slice Ao29 t287.length co29)) (fun _ hk => hk.2) (.slice Ao31 t290.length co31)) (fun _ h_ => h_.1))) hb); have n2_ := Aside0.mk (Kd.R_below (by (with_reducible repeat (first | apply Kd.R_alloc | apply Kd.R_drewN | apply Kd.R_drew)); exact (Kd.R_mono (Kd.R_far (p := ⟨gb294, 1, none⟩) (Kd.R_far (p := ⟨gb294, 0, none⟩) (Kd.R_types HO292.out BK294.out (by decide)) (fun _ hk => hk.2) (.slice Ao29 t287.length co29)) (fun _ hk => hk.2) (.slice Ao31 t290.length co31)) (fun _ h_ => h_.1))) hb); have n3_ := Aside0.mk (blk_below (g := gb294) (o := .cells #[.slice Ao29 t287.length co29, .slice Ao31 t290.length co31] 25 (0, 0)) (by (with_reducible repeat (first | refine blk_drewN ?_ _ | refine blk_drew ?_ | refine blk_alloc ?_ _)); refine blk_put (cs := #[.slice Ao29 t287.length co29, .slice none 0 0]) ?_ 1 _ rfl; (with_reducible repeat (first | refine blk_drewN ?_ _ | refine blk_drew ?_ | refine blk_alloc ?_ _)); refine blk_put (cs := #[.slice none 0 0, .slice none 0 0]) ?_ 0 _ rfl; (with_reducible repeat (first | refine blk_drewN ?_ _ | refine blk_drew ?_ | refine blk_alloc ?_ _)); exact BK294.out) hb); have n4_ := Aside0.mk (below_step (by repeat (first | (with_reducible first | exact HB.out | apply below_alloc | apply pw_below_drewN | apply below_drew1 | refine below_set ?_ GE294.out) | exact HB.out)) hb); clear HO_5; clear HO289; clear HO292; clear BK294; clear HB; have HO_5 := n0_; have HO289 := n1_; have HO292 := n2_; have BK294 := n3_; have HB := n4_; clear n0_ n1_ n2_ n3_ n4_; (try clear hb); (try clear hb2); (try clear hk); (try clear hi)))
                                go_ret
                                exact ⟨by first | rfl | (simp [errW_none, errW_some] <;> rfl) | (simp [*, errW_none, errW_some] <;> rfl), by repeat (first | (with_reducible first | exact HB.out | apply below_alloc | apply pw_below_drewN | apply below_drew1 | refine below_set ?_ GE294.out) | exact HB.out)⟩
                              · rw [if_neg c24] at H
                                exact absurd H (by simp)
                            · rw [if_neg c23] at H
                              exact absurd H (by simp)
                          · rw [if_neg c22] at H
                            exact absurd H (by simp)
  · replace c3 := Bool.eq_false_iff.mpr c3
    subst c3
    have H1 : (none) = some r := by rw [if_neg (show ¬ (false = true) by decide)] at H; exact H
    clear H
    have H := H1
    clear H1
    exact absurd H (by simp)

/-- THE ONE PURE STATEMENT of crossroadslaw10_ProgNames. -/
def crossroadslaw10_ProgNames.Pure : Prop := ∀ (l0 : List ByteArray), (l0.length * 16 ≤ 140737488351232 ∧ l0.length ≤ 9223372036854775807 ∧ ∀ y1_ ∈ l0, y1_.size ≤ 140737488351232) → ∃ k, crossroadslaw10_ProgNames.f k l0 = some true

end Go.Proofs.YtckmgoeflecpgaaDoor.P
