-- Laid by a program of this session (the kit's print, changed): Lean checks it.
import Derived.Test.YtcjoblnfbopaeaaPx0
import Derived.Test.YtcjoblnfbopaeaaPx1
import Derived.Test.YtcjoblnfbopaeaaPx3
namespace Go.Proofs.Ytcjoblnfbopaeaa.P
open Go.RowKit Go.Proofs.YtcjoblnfbopaeaaW.PrintWords Go.Proofs.YtcjoblnfbopaeaaW.PrintLast Go.Proofs.YtcjoblnfbopaeaaW.PrintMore
attribute [local go_sem] max2_int min2_int max_two min_two max_three min_three max_four min_four   -- for this text's walks alone
set_option linter.unusedVariables false
set_option linter.unusedSimpArgs false

/-! ### crossroadslaw1_WideDoes: function 3 -/
mutual
def crossroadslaw1_WideDoes.j0 : Nat → Int → Int → Int → Int → Int → Int → Int → Bool → Option (Bool)
  | 0, _, _, _, _, _, _, _, _ => none
  | k + 1, x0, x1, x7, x8, x9, x10, x11, x40 => if x40 = true then (crossroadslaw1_WideDoes.j1 k x0 x1 x7 x8 x9 x10 1) else (crossroadslaw1_WideDoes.j1 k x0 x1 x7 x8 x9 x10 x11)
def crossroadslaw1_WideDoes.j1 : Nat → Int → Int → Int → Int → Int → Int → Int → Option (Bool)
  | 0, _, _, _, _, _, _, _ => none
  | k + 1, x0, x1, x7, x8, x9, x10, x11 => if x10 = 0 then (crossroadslaw1_WideDoes.j2 k x0 x1 x7 x8 x9 x10 x11) else (crossroadslaw1_WideDoes.j2 k x0 x1 x7 x8 x9 x10 0)
def crossroadslaw1_WideDoes.j2 : Nat → Int → Int → Int → Int → Int → Int → Int → Option (Bool)
  | 0, _, _, _, _, _, _, _ => none
  | k + 1, x0, x1, x7, x8, x9, x10, x11 => if x7 = x9 then (if x8 = x10 then ((wide_Out.f x0 x1).bind fun t187 => (if t187 = x11 then ((wide_May.f x1).bind fun t188 => ((crossroadsref1_May.f x1).bind fun t189 => (if (t188 == t189) = true then ((wide_Mask.f x1).bind fun t190 => ((crossroadsref1_Mask.f x1).bind fun t191 => (some (t190 == t191)))) else (some false)))) else (some false))) else (some false)) else (some false)
end
def crossroadslaw1_WideDoes.f (k : Nat) (a0 : Int) (a1 : Int) (a2_0 : Int) (a2_1 : Int) : Option (Bool) := (crossroadslaw1_awake.f).bind fun t182 => (if t182 = true then ((wide_Do.f a0 a1 a2_0 a2_1).bind fun bt183 => ((crossroadsref1_Do.f a0 a1 a2_0 a2_1).bind fun bt185 => (if a0 = 14 then (crossroadslaw1_WideDoes.j0 k a0 a1 bt183.1 bt183.2 bt185.1 bt185.2 a1 true) else (crossroadslaw1_WideDoes.j0 k a0 a1 bt183.1 bt183.2 bt185.1 bt185.2 a1 (a0 == 15))))) else (some false))
theorem crossroadslaw1_WideDoes.mono_l : ∀ k, (∀ y0 y1 y2 y3 y4 y5 y6 y7, LeO (crossroadslaw1_WideDoes.j0 k y0 y1 y2 y3 y4 y5 y6 y7) (crossroadslaw1_WideDoes.j0 (k + 1) y0 y1 y2 y3 y4 y5 y6 y7)) ∧ (∀ y0 y1 y2 y3 y4 y5 y6, LeO (crossroadslaw1_WideDoes.j1 k y0 y1 y2 y3 y4 y5 y6) (crossroadslaw1_WideDoes.j1 (k + 1) y0 y1 y2 y3 y4 y5 y6)) ∧ (∀ y0 y1 y2 y3 y4 y5 y6, LeO (crossroadslaw1_WideDoes.j2 k y0 y1 y2 y3 y4 y5 y6) (crossroadslaw1_WideDoes.j2 (k + 1) y0 y1 y2 y3 y4 y5 y6))
  | 0 => ⟨fun _ _ _ _ _ _ _ _ r h => by simp [crossroadslaw1_WideDoes.j0] at h, fun _ _ _ _ _ _ _ r h => by simp [crossroadslaw1_WideDoes.j1] at h, fun _ _ _ _ _ _ _ r h => by simp [crossroadslaw1_WideDoes.j2] at h⟩
  | k + 1 => by
    obtain ⟨ih0, ih1, ih2⟩ := crossroadslaw1_WideDoes.mono_l k
    refine ⟨?_, ?_, ?_⟩
    · intro y0 y1 y2 y3 y4 y5 y6 y7
      unfold crossroadslaw1_WideDoes.j0
      repeat' first
      | (with_reducible exact ih0 _ _ _ _ _ _ _ _)
      | (with_reducible exact ih1 _ _ _ _ _ _ _)
      | (with_reducible exact ih2 _ _ _ _ _ _ _)
      | (with_reducible exact LeO.refl _)
      | (with_reducible exact LeO.none _)
      | (with_reducible refine LeO.ite ?_ ?_)
      | (with_reducible refine LeO.bind ?_ (fun _ => ?_))
      | exact ih0 _ _ _ _ _ _ _ _
      | exact ih1 _ _ _ _ _ _ _
      | exact ih2 _ _ _ _ _ _ _
      | exact LeO.none _
      | refine LeO.ite ?_ ?_
      | refine LeO.bind ?_ (fun _ => ?_)
    · intro y0 y1 y2 y3 y4 y5 y6
      unfold crossroadslaw1_WideDoes.j1
      repeat' first
      | (with_reducible exact ih0 _ _ _ _ _ _ _ _)
      | (with_reducible exact ih1 _ _ _ _ _ _ _)
      | (with_reducible exact ih2 _ _ _ _ _ _ _)
      | (with_reducible exact LeO.refl _)
      | (with_reducible exact LeO.none _)
      | (with_reducible refine LeO.ite ?_ ?_)
      | (with_reducible refine LeO.bind ?_ (fun _ => ?_))
      | exact ih0 _ _ _ _ _ _ _ _
      | exact ih1 _ _ _ _ _ _ _
      | exact ih2 _ _ _ _ _ _ _
      | exact LeO.none _
      | refine LeO.ite ?_ ?_
      | refine LeO.bind ?_ (fun _ => ?_)
    · intro y0 y1 y2 y3 y4 y5 y6
      unfold crossroadslaw1_WideDoes.j2
      repeat' first
      | (with_reducible exact ih0 _ _ _ _ _ _ _ _)
      | (with_reducible exact ih1 _ _ _ _ _ _ _)
      | (with_reducible exact ih2 _ _ _ _ _ _ _)
      | (with_reducible exact LeO.refl _)
      | (with_reducible exact LeO.none _)
      | (with_reducible refine LeO.ite ?_ ?_)
      | (with_reducible refine LeO.bind ?_ (fun _ => ?_))
      | exact ih0 _ _ _ _ _ _ _ _
      | exact ih1 _ _ _ _ _ _ _
      | exact ih2 _ _ _ _ _ _ _
      | exact LeO.none _
      | refine LeO.ite ?_ ?_
      | refine LeO.bind ?_ (fun _ => ?_)
theorem crossroadslaw1_WideDoes.mono : ∀ a0 a1 a2 a3 k, LeO (crossroadslaw1_WideDoes.f k a0 a1 a2 a3) (crossroadslaw1_WideDoes.f (k + 1) a0 a1 a2 a3) := by
  intro a0 a1 a2 a3 k
  obtain ⟨ih0, ih1, ih2⟩ := crossroadslaw1_WideDoes.mono_l k
  unfold crossroadslaw1_WideDoes.f
  repeat' first
      | (with_reducible exact ih0 _ _ _ _ _ _ _ _)
      | (with_reducible exact ih1 _ _ _ _ _ _ _)
      | (with_reducible exact ih2 _ _ _ _ _ _ _)
      | (with_reducible exact LeO.refl _)
      | (with_reducible exact LeO.none _)
      | (with_reducible refine LeO.ite ?_ ?_)
      | (with_reducible refine LeO.bind ?_ (fun _ => ?_))
      | exact ih0 _ _ _ _ _ _ _ _
      | exact ih1 _ _ _ _ _ _ _
      | exact ih2 _ _ _ _ _ _ _
      | exact LeO.none _
      | refine LeO.ite ?_ ?_
      | refine LeO.bind ?_ (fun _ => ?_)
set_option maxHeartbeats 8000000 in
set_option maxRecDepth 100000 in
theorem crossroadslaw1_WideDoes.calls (k : Nat) (a0 : Int) (a1 : Int) (a2_0 : Int) (a2_1 : Int) (r : Bool) (w : World) (h : crossroadslaw1_WideDoes.f k a0 a1 a2_0 a2_1 = some r) :
    Calls Try.prog 3 #[.int .i64 a0, .int .i64 a1, .agg #[.int .u16 a2_0, .int .u16 a2_1]] w fun e w' => e = .returned (.bool r) ∧ Below w.heap.size w w' := by
  have hu23 := Try.underlying23
  have HB := Aside0.mk (Below.refl w.heap.size w)
  have H : ((crossroadslaw1_awake.f).bind fun t182 => (if t182 = true then ((wide_Do.f a0 a1 a2_0 a2_1).bind fun bt183 => ((crossroadsref1_Do.f a0 a1 a2_0 a2_1).bind fun bt185 => (if a0 = 14 then (crossroadslaw1_WideDoes.j0 k a0 a1 bt183.1 bt183.2 bt185.1 bt185.2 a1 true) else (crossroadslaw1_WideDoes.j0 k a0 a1 bt183.1 bt183.2 bt185.1 bt185.2 a1 (a0 == 15))))) else (some false))) = some r := h
  clear h
  replace H := Option.bind_eq_some_iff.mp H
  obtain ⟨t182, A40, H⟩ := H
  replace H : (if t182 = true then ((wide_Do.f a0 a1 a2_0 a2_1).bind fun bt183 => ((crossroadsref1_Do.f a0 a1 a2_0 a2_1).bind fun bt185 => (if a0 = 14 then (crossroadslaw1_WideDoes.j0 k a0 a1 bt183.1 bt183.2 bt185.1 bt185.2 a1 true) else (crossroadslaw1_WideDoes.j0 k a0 a1 bt183.1 bt183.2 bt185.1 bt185.2 a1 (a0 == 15))))) else (some false)) = some r := H
  have A4 := Aside0.mk A40
  clear A40
  by_cases c5 : t182 = true
  · subst c5
    have H1 : ((wide_Do.f a0 a1 a2_0 a2_1).bind fun bt183 => ((crossroadsref1_Do.f a0 a1 a2_0 a2_1).bind fun bt185 => (if a0 = 14 then (crossroadslaw1_WideDoes.j0 k a0 a1 bt183.1 bt183.2 bt185.1 bt185.2 a1 true) else (crossroadslaw1_WideDoes.j0 k a0 a1 bt183.1 bt183.2 bt185.1 bt185.2 a1 (a0 == 15))))) = some r := by rw [if_pos rfl] at H; exact H
    clear H
    have H := H1
    clear H1
    replace H := Option.bind_eq_some_iff.mp H
    obtain ⟨⟨t183, t184⟩, A60, H⟩ := H
    replace H : ((crossroadsref1_Do.f a0 a1 a2_0 a2_1).bind fun bt185 => (if a0 = 14 then (crossroadslaw1_WideDoes.j0 k a0 a1 t183 t184 bt185.1 bt185.2 a1 true) else (crossroadslaw1_WideDoes.j0 k a0 a1 t183 t184 bt185.1 bt185.2 a1 (a0 == 15)))) = some r := H
    have A6 := Aside0.mk A60
    clear A60
    replace H := Option.bind_eq_some_iff.mp H
    obtain ⟨⟨t185, t186⟩, A70, H⟩ := H
    replace H : (if a0 = 14 then (crossroadslaw1_WideDoes.j0 k a0 a1 t183 t184 t185 t186 a1 true) else (crossroadslaw1_WideDoes.j0 k a0 a1 t183 t184 t185 t186 a1 (a0 == 15))) = some r := H
    have A7 := Aside0.mk A70
    clear A70
    have HC8 := Aside0.mk H
    clear H
    go_enter Try.func3, Try.ntmps3
    go_upto_region 6 with (first | ((with_reducible refine gate_dst (N := 5) rfl ?_); refine box_event ?hg (N := 5) ?hd (cs := #[.int .u16 a2_0, .int .u16 a2_1]) (t := 23) ?hr ?_; (case hd => rfl); (case hg => rfl); (case hr => first | (go_simp; done) | (go_simp; rfl)); intro gb181 hg w9 hbox hb; have n0_ := Aside0.mk (below_step (by repeat (first | (with_reducible first | exact HB.out | apply below_alloc | apply pw_below_drewN | apply below_drew1) | exact HB.out)) hb); have n1_ := Aside0.mk (hbox); have n2_ := Aside0.mk ((by rw [hg]; exact (below_size (by repeat (first | (with_reducible first | exact HB.out | apply below_alloc | apply pw_below_drewN | apply below_drew1) | exact HB.out))) : w.heap.size ≤ gb181)); have n3_ := Aside0.mk ((by rw [hg]; exact (below_size (by repeat (first | (with_reducible first | exact HB.out | apply below_alloc | apply pw_below_drewN | apply below_drew1) | exact HB.out))) : w.heap.size ≤ gb181)); clear HB; have HB := n0_; have BK181 := n1_; have GW181 := n2_; have GE181 := n3_; clear n0_ n1_ n2_ n3_; clear hb hbox hg) | ((with_reducible refine gate_callee (f := 9) rfl ?_); refine goesL_ (some 12) rfl rfl Try.func9 (by kernel_rfl) rfl #[] rfl (by (try simp only [List.map_toArray, List.map_cons, List.map_nil]); first | done | rfl | (simp only [List.length_drop, List.length_take]; rfl)) ?_; (with_reducible refine (crossroadslaw1_awake.calls  true _ A4.out).mono ?_); rintro e w' ⟨rfl, ⟨nd, rfl⟩⟩; refine ⟨_, rfl, ?_⟩; have hcz10_0 : w9.cell? ⟨gb181, 0, none⟩ = some (.int .u16 a2_0) := (blk_cell BK181.out 0).trans rfl; have hcz10_1 : w9.cell? ⟨gb181, 1, none⟩ = some (.int .u16 a2_1) := (blk_cell BK181.out 1).trans rfl; have hfz10_0 := blk_frozen BK181.out 0; have hfz10_1 := blk_frozen BK181.out 1) | ((with_reducible refine gate_callee (f := 10) rfl ?_); refine goesL_ (some 21) rfl rfl Try.func10 (by kernel_rfl) rfl #[.int .i64 a0, .int .i64 a1, .int .u16 a2_0, .int .u16 a2_1] rfl (by (try simp only [List.map_toArray, List.map_cons, List.map_nil]); first | done | rfl | (simp only [List.length_drop, List.length_take]; rfl)) ?_; (with_reducible refine (wide_Do.calls a0 a1 a2_0 a2_1 t183 t184 _ A6.out).mono ?_); rintro e w' ⟨rfl, ⟨nd, rfl⟩⟩; refine ⟨_, rfl, ?_⟩) | ((with_reducible refine gate_callee (f := 11) rfl ?_); refine goesL_ (some 31) rfl rfl Try.func11 (by kernel_rfl) rfl #[.int .i64 a0, .int .i64 a1, .int .u16 a2_0, .int .u16 a2_1] rfl (by (try simp only [List.map_toArray, List.map_cons, List.map_nil]); first | done | rfl | (simp only [List.length_drop, List.length_take]; rfl)) ?_; (with_reducible refine (crossroadsref1_Do.calls a0 a1 a2_0 a2_1 t185 t186 _ A7.out).mono ?_); rintro e w' ⟨rfl, ⟨nd, rfl⟩⟩; refine ⟨_, rfl, ?_⟩))
    (try simp only [Act.put, List.setIfInBounds_toArray, List.set_cons_zero, List.set_cons_succ])
    go_cut [40] (fun v40 wc => ∃ (kq : Nat) (x40_7 : Bool), v40 = .bool x40_7 ∧ Aside0 (crossroadslaw1_WideDoes.j0 kq a0 a1 t183 t184 t185 t186 a1 x40_7 = some r) ∧ Aside0 (kq ≤ k) ∧ Aside0 (wc.heap[gb181]? = some (.cells #[.int .u16 a2_0, .int .u16 a2_1] 23 (0, 0))) ∧ Aside0 (Below w.heap.size w wc))
    case first =>
      have H := HC8.out
      clear HC8
      by_cases c11 : a0 = 14
      · rw [if_pos c11] at H
        have c11b0 : (a0 == 14) = true := beq_iff_eq.mpr c11
        have c11b1 : (a0 != 14) = false := bne_eq_false_iff_eq.mpr c11
        clear c11
        (first | rw [c11b0] | (simp only [i64_w, i32_w]; rw [c11b0]) | skip)
        have H' := Aside0.mk H
        clear H
        go_wp2
        go_meet
        case rel => exact ⟨_, (true), (by first | rfl | (simp; done) | (simp [*]; done)), H', ⟨by first | omega | exact Nat.le_refl _⟩, ⟨by (with_reducible repeat (first | refine blk_drewN ?_ _ | refine blk_drew ?_ | refine blk_alloc ?_ _)); exact BK181.out⟩, ⟨by repeat (first | (with_reducible first | exact HB.out | apply below_alloc | apply pw_below_drewN | apply below_drew1 | refine below_set ?_ GE181.out) | exact HB.out)⟩⟩
      · rw [if_neg c11] at H
        have c11b0 : (a0 == 14) = false := beq_eq_false_iff_ne.mpr c11
        have c11b1 : (a0 != 14) = true := bne_iff_ne.mpr c11
        (first | rw [c11b0] | (simp only [i64_w, i32_w]; rw [c11b0]) | skip)
        have H' := Aside0.mk H
        clear H
        go_wp2
        go_meet
        case rel => exact ⟨_, ((a0 == 15)), (by first | rfl | (simp; done) | (simp [*]; done)), H', ⟨by first | omega | exact Nat.le_refl _⟩, ⟨by (with_reducible repeat (first | refine blk_drewN ?_ _ | refine blk_drew ?_ | refine blk_alloc ?_ _)); exact BK181.out⟩, ⟨by repeat (first | (with_reducible first | exact HB.out | apply below_alloc | apply pw_below_drewN | apply below_drew1 | refine below_set ?_ GE181.out) | exact HB.out)⟩⟩
    case rest =>
      clear HC8
      try clear c1
      try clear p2
      try clear c3
      try clear c5
      try clear c9
      try clear c10
      try clear c11
      try clear c11b0
      try clear c11b1
      try clear hcz10_0
      try clear hcz10_1
      try clear hfz10_0
      try clear hfz10_1
      obtain ⟨kq, x40_7, rfl, HA, HJ7, BK181, HB⟩ := hcut
      cases kq with
      | zero => exact absurd HA.out (by simp [crossroadslaw1_WideDoes.j0])
      | succ kj7 =>
        have H := HA.out
        clear HA
        simp only [crossroadslaw1_WideDoes.j0] at H
        have HC12 := Aside0.mk H
        clear H
        go_upto_if 40 with (fail)
        go_cut [11] (fun v11 wc => ∃ (kq : Nat) (x11_11 : Int), v11 = .int .i64 x11_11 ∧ Aside0 (crossroadslaw1_WideDoes.j1 kq a0 a1 t183 t184 t185 t186 x11_11 = some r) ∧ Aside0 (kq ≤ kj7) ∧ Aside0 (wc.heap[gb181]? = some (.cells #[.int .u16 a2_0, .int .u16 a2_1] 23 (0, 0))) ∧ Aside0 (Below w.heap.size w wc))
        case first =>
          have H := HC12.out
          clear HC12
          by_cases c13 : x40_7 = true
          · subst c13
            have H1 : (crossroadslaw1_WideDoes.j1 kj7 a0 a1 t183 t184 t185 t186 1) = some r := by rw [if_pos rfl] at H; exact H
            clear H
            have H := H1
            clear H1
            have H' := Aside0.mk H
            clear H
            go_wp2
            go_meet
            case rel => exact ⟨_, (1), (by first | rfl | (simp; done) | (simp [*]; done)), H', ⟨by have := HJ7.out; first | omega | exact Nat.le_refl _⟩, ⟨by (with_reducible repeat (first | refine blk_drewN ?_ _ | refine blk_drew ?_ | refine blk_alloc ?_ _)); exact BK181.out⟩, ⟨by repeat (first | (with_reducible first | exact HB.out | apply below_alloc | apply pw_below_drewN | apply below_drew1 | refine below_set ?_ GE181.out) | exact HB.out)⟩⟩
          · replace c13 := Bool.eq_false_iff.mpr c13
            subst c13
            have H1 : (crossroadslaw1_WideDoes.j1 kj7 a0 a1 t183 t184 t185 t186 a1) = some r := by rw [if_neg (show ¬ (false = true) by decide)] at H; exact H
            clear H
            have H := H1
            clear H1
            have H' := Aside0.mk H
            clear H
            go_wp2
            go_meet
            case rel => exact ⟨_, (a1), (by first | rfl | (simp; done) | (simp [*]; done)), H', ⟨by have := HJ7.out; first | omega | exact Nat.le_refl _⟩, ⟨by (with_reducible repeat (first | refine blk_drewN ?_ _ | refine blk_drew ?_ | refine blk_alloc ?_ _)); exact BK181.out⟩, ⟨by repeat (first | (with_reducible first | exact HB.out | apply below_alloc | apply pw_below_drewN | apply below_drew1 | refine below_set ?_ GE181.out) | exact HB.out)⟩⟩
        case rest =>
          clear HC12
          try clear c1
          try clear p2
          try clear c3
          try clear c5
          try clear c9
          try clear c10
          try clear c11
          try clear c11b0
          try clear c11b1
          try clear c13
          try clear hcz10_0
          try clear hcz10_1
          try clear hfz10_0
          try clear hfz10_1
          try clear p2
          obtain ⟨kq, x11_11, rfl, HA, HJ11, BK181, HB⟩ := hcut
          cases kq with
          | zero => exact absurd HA.out (by simp [crossroadslaw1_WideDoes.j1])
          | succ kj11 =>
            have H := HA.out
            clear HA
            simp only [crossroadslaw1_WideDoes.j1] at H
            have HC14 := Aside0.mk H
            clear H
            go_upto_if 42 with (fail)
            go_cut [11] (fun v11 wc => ∃ (kq : Nat) (x11_13 : Int), v11 = .int .i64 x11_13 ∧ Aside0 (crossroadslaw1_WideDoes.j2 kq a0 a1 t183 t184 t185 t186 x11_13 = some r) ∧ Aside0 (kq ≤ kj11) ∧ Aside0 (wc.heap[gb181]? = some (.cells #[.int .u16 a2_0, .int .u16 a2_1] 23 (0, 0))) ∧ Aside0 (Below w.heap.size w wc))
            case first =>
              have H := HC14.out
              clear HC14
              by_cases c15 : t186 = 0
              · rw [if_pos c15] at H
                have c15b0 : (t186 == 0) = true := beq_iff_eq.mpr c15
                have c15b1 : (t186 != 0) = false := bne_eq_false_iff_eq.mpr c15
                clear c15
                (first | rw [c15b0] | (simp only [i64_w, i32_w]; rw [c15b0]) | skip)
                have H' := Aside0.mk H
                clear H
                go_wp2
                go_meet
                case rel => exact ⟨_, (x11_11), (by first | rfl | (simp; done) | (simp [*]; done)), H', ⟨by have := HJ7.out; have := HJ11.out; first | omega | exact Nat.le_refl _⟩, ⟨by (with_reducible repeat (first | refine blk_drewN ?_ _ | refine blk_drew ?_ | refine blk_alloc ?_ _)); exact BK181.out⟩, ⟨by repeat (first | (with_reducible first | exact HB.out | apply below_alloc | apply pw_below_drewN | apply below_drew1 | refine below_set ?_ GE181.out) | exact HB.out)⟩⟩
              · rw [if_neg c15] at H
                have c15b0 : (t186 == 0) = false := beq_eq_false_iff_ne.mpr c15
                have c15b1 : (t186 != 0) = true := bne_iff_ne.mpr c15
                (first | rw [c15b0] | (simp only [i64_w, i32_w]; rw [c15b0]) | skip)
                have H' := Aside0.mk H
                clear H
                go_wp2
                go_meet
                case rel => exact ⟨_, (0), (by first | rfl | (simp; done) | (simp [*]; done)), H', ⟨by have := HJ7.out; have := HJ11.out; first | omega | exact Nat.le_refl _⟩, ⟨by (with_reducible repeat (first | refine blk_drewN ?_ _ | refine blk_drew ?_ | refine blk_alloc ?_ _)); exact BK181.out⟩, ⟨by repeat (first | (with_reducible first | exact HB.out | apply below_alloc | apply pw_below_drewN | apply below_drew1 | refine below_set ?_ GE181.out) | exact HB.out)⟩⟩
            case rest =>
              clear HC14
              try clear c1
              try clear p2
              try clear c3
              try clear c5
              try clear c9
              try clear c10
              try clear c11
              try clear c11b0
              try clear c11b1
              try clear c13
              try clear c15
              try clear c15b0
              try clear c15b1
              try clear hcz10_0
              try clear hcz10_1
              try clear hfz10_0
              try clear hfz10_1
              try clear p2
              obtain ⟨kq, x11_13, rfl, HA, HJ13, BK181, HB⟩ := hcut
              cases kq with
              | zero => exact absurd HA.out (by simp [crossroadslaw1_WideDoes.j2])
              | succ kj13 =>
                have H := HA.out
                clear HA
                simp only [crossroadslaw1_WideDoes.j2] at H
                by_cases c16 : t183 = t185
                · rw [if_pos c16] at H
                  have c16b0 : (t183 == t185) = true := beq_iff_eq.mpr c16
                  have c16b1 : (t183 != t185) = false := bne_eq_false_iff_eq.mpr c16
                  clear c16
                  by_cases c17 : t184 = t186
                  · rw [if_pos c17] at H
                    have c17b0 : (t184 == t186) = true := beq_iff_eq.mpr c17
                    have c17b1 : (t184 != t186) = false := bne_eq_false_iff_eq.mpr c17
                    clear c17
                    replace H := Option.bind_eq_some_iff.mp H
                    obtain ⟨t187, A180, H⟩ := H
                    replace H : (if t187 = x11_13 then ((wide_May.f a1).bind fun t188 => ((crossroadsref1_May.f a1).bind fun t189 => (if (t188 == t189) = true then ((wide_Mask.f a1).bind fun t190 => ((crossroadsref1_Mask.f a1).bind fun t191 => (some (t190 == t191)))) else (some false)))) else (some false)) = some r := H
                    have A18 := Aside0.mk A180
                    clear A180
                    by_cases c19 : t187 = x11_13
                    · rw [if_pos c19] at H
                      have c19b0 : (t187 == x11_13) = true := beq_iff_eq.mpr c19
                      have c19b1 : (t187 != x11_13) = false := bne_eq_false_iff_eq.mpr c19
                      clear c19
                      replace H := Option.bind_eq_some_iff.mp H
                      obtain ⟨t188, A200, H⟩ := H
                      replace H : ((crossroadsref1_May.f a1).bind fun t189 => (if (t188 == t189) = true then ((wide_Mask.f a1).bind fun t190 => ((crossroadsref1_Mask.f a1).bind fun t191 => (some (t190 == t191)))) else (some false))) = some r := H
                      have A20 := Aside0.mk A200
                      clear A200
                      replace H := Option.bind_eq_some_iff.mp H
                      obtain ⟨t189, A210, H⟩ := H
                      replace H : (if (t188 == t189) = true then ((wide_Mask.f a1).bind fun t190 => ((crossroadsref1_Mask.f a1).bind fun t191 => (some (t190 == t191)))) else (some false)) = some r := H
                      have A21 := Aside0.mk A210
                      clear A210
                      by_cases c22 : (t188 == t189) = true
                      · rw [if_pos c22] at H
                        have c22b0 : (t188 == t189) = true := c22
                        (try (have c22b1 : decide (t188 = t189) = true := by simpa using c22))
                        (try (have c22b2 : (t188 == t189) = true := by simpa using c22))
                        clear c22
                        replace H := Option.bind_eq_some_iff.mp H
                        obtain ⟨t190, A230, H⟩ := H
                        replace H : ((crossroadsref1_Mask.f a1).bind fun t191 => (some (t190 == t191))) = some r := H
                        have A23 := Aside0.mk A230
                        clear A230
                        replace H := Option.bind_eq_some_iff.mp H
                        obtain ⟨t191, A240, H⟩ := H
                        replace H : (some (t190 == t191)) = some r := H
                        have A24 := Aside0.mk A240
                        clear A240
                        obtain rfl := Option.some.inj H
                        go_wp2_with (first | (go_at_call 12; (with_reducible refine (wide_Out.calls a0 a1 t187 _ A18.out).mono ?_); rintro e w' ⟨rfl, ⟨nd, rfl⟩⟩) | (go_at_call 13; (with_reducible refine (wide_May.calls a1 t188 _ A20.out).mono ?_); rintro e w' ⟨rfl, ⟨nd, rfl⟩⟩) | (go_at_call 14; (with_reducible refine (crossroadsref1_May.calls a1 t189 _ A21.out).mono ?_); rintro e w' ⟨rfl, ⟨nd, rfl⟩⟩) | (go_at_call 15; (with_reducible refine (wide_Mask.calls a1 t190 _ A23.out).mono ?_); rintro e w' ⟨rfl, ⟨nd, rfl⟩⟩) | (go_at_call 16; (with_reducible refine (crossroadsref1_Mask.calls a1 t191 _ A24.out).mono ?_); rintro e w' ⟨rfl, ⟨nd, rfl⟩⟩))
                        go_ret
                        exact ⟨by first | rfl | (simp [errW_none, errW_some] <;> rfl) | (simp [*, errW_none, errW_some] <;> rfl), by repeat (first | (with_reducible first | exact HB.out | apply below_alloc | apply pw_below_drewN | apply below_drew1 | refine below_set ?_ GE181.out) | exact HB.out)⟩
                      · rw [if_neg c22] at H
                        have c22b0 : (t188 == t189) = false := by simpa using c22
                        (try (have c22b1 : decide (t188 = t189) = false := by simpa using c22))
                        (try (have c22b2 : (t188 == t189) = false := by simpa using c22))
                        (try (have c22b3 : ¬ (t188 = t189) := by simpa using c22))
                        clear c22
                        obtain rfl := Option.some.inj H
                        go_wp2_with (first | (go_at_call 12; (with_reducible refine (wide_Out.calls a0 a1 t187 _ A18.out).mono ?_); rintro e w' ⟨rfl, ⟨nd, rfl⟩⟩) | (go_at_call 13; (with_reducible refine (wide_May.calls a1 t188 _ A20.out).mono ?_); rintro e w' ⟨rfl, ⟨nd, rfl⟩⟩) | (go_at_call 14; (with_reducible refine (crossroadsref1_May.calls a1 t189 _ A21.out).mono ?_); rintro e w' ⟨rfl, ⟨nd, rfl⟩⟩))
                        go_ret
                        exact ⟨by first | rfl | (simp [errW_none, errW_some] <;> rfl) | (simp [*, errW_none, errW_some] <;> rfl), by repeat (first | (with_reducible first | exact HB.out | apply below_alloc | apply pw_below_drewN | apply below_drew1 | refine below_set ?_ GE181.out) | exact HB.out)⟩
                    · rw [if_neg c19] at H
                      have c19b0 : (t187 == x11_13) = false := beq_eq_false_iff_ne.mpr c19
                      have c19b1 : (t187 != x11_13) = true := bne_iff_ne.mpr c19
                      obtain rfl := Option.some.inj H
                      go_wp2_with (first | (go_at_call 12; (with_reducible refine (wide_Out.calls a0 a1 t187 _ A18.out).mono ?_); rintro e w' ⟨rfl, ⟨nd, rfl⟩⟩))
                      go_ret
                      exact ⟨by first | rfl | (simp [errW_none, errW_some] <;> rfl) | (simp [*, errW_none, errW_some] <;> rfl), by repeat (first | (with_reducible first | exact HB.out | apply below_alloc | apply pw_below_drewN | apply below_drew1 | refine below_set ?_ GE181.out) | exact HB.out)⟩
                  · rw [if_neg c17] at H
                    have c17b0 : (t184 == t186) = false := beq_eq_false_iff_ne.mpr c17
                    have c17b1 : (t184 != t186) = true := bne_iff_ne.mpr c17
                    obtain rfl := Option.some.inj H
                    go_wp2
                    go_ret
                    exact ⟨by first | rfl | (simp [errW_none, errW_some] <;> rfl) | (simp [*, errW_none, errW_some] <;> rfl), by repeat (first | (with_reducible first | exact HB.out | apply below_alloc | apply pw_below_drewN | apply below_drew1 | refine below_set ?_ GE181.out) | exact HB.out)⟩
                · rw [if_neg c16] at H
                  have c16b0 : (t183 == t185) = false := beq_eq_false_iff_ne.mpr c16
                  have c16b1 : (t183 != t185) = true := bne_iff_ne.mpr c16
                  obtain rfl := Option.some.inj H
                  go_wp2
                  go_ret
                  exact ⟨by first | rfl | (simp [errW_none, errW_some] <;> rfl) | (simp [*, errW_none, errW_some] <;> rfl), by repeat (first | (with_reducible first | exact HB.out | apply below_alloc | apply pw_below_drewN | apply below_drew1 | refine below_set ?_ GE181.out) | exact HB.out)⟩
  · replace c5 := Bool.eq_false_iff.mpr c5
    subst c5
    have H1 : (some false) = some r := by rw [if_neg (show ¬ (false = true) by decide)] at H; exact H
    clear H
    have H := H1
    clear H1
    obtain rfl := Option.some.inj H
    go_enter Try.func3, Try.ntmps3
    go_wp2_with (first | ((with_reducible refine gate_dst (N := 5) rfl ?_); refine box_event ?hg (N := 5) ?hd (cs := #[.int .u16 a2_0, .int .u16 a2_1]) (t := 23) ?hr ?_; (case hd => rfl); (case hg => rfl); (case hr => first | (go_simp; done) | (go_simp; rfl)); intro gb181 hg w25 hbox hb; have n0_ := Aside0.mk (below_step (by repeat (first | (with_reducible first | exact HB.out | apply below_alloc | apply pw_below_drewN | apply below_drew1) | exact HB.out)) hb); have n1_ := Aside0.mk (hbox); have n2_ := Aside0.mk ((by rw [hg]; exact (below_size (by repeat (first | (with_reducible first | exact HB.out | apply below_alloc | apply pw_below_drewN | apply below_drew1) | exact HB.out))) : w.heap.size ≤ gb181)); have n3_ := Aside0.mk ((by rw [hg]; exact (below_size (by repeat (first | (with_reducible first | exact HB.out | apply below_alloc | apply pw_below_drewN | apply below_drew1) | exact HB.out))) : w.heap.size ≤ gb181)); clear HB; have HB := n0_; have BK181 := n1_; have GW181 := n2_; have GE181 := n3_; clear n0_ n1_ n2_ n3_; clear hb hbox hg) | ((with_reducible refine gate_callee (f := 9) rfl ?_); refine goesL_ (some 12) rfl rfl Try.func9 (by kernel_rfl) rfl #[] rfl (by (try simp only [List.map_toArray, List.map_cons, List.map_nil]); first | done | rfl | (simp only [List.length_drop, List.length_take]; rfl)) ?_; (with_reducible refine (crossroadslaw1_awake.calls  false _ A4.out).mono ?_); rintro e w' ⟨rfl, ⟨nd, rfl⟩⟩; refine ⟨_, rfl, ?_⟩))
    go_ret
    exact ⟨by first | rfl | (simp [errW_none, errW_some] <;> rfl) | (simp [*, errW_none, errW_some] <;> rfl), by repeat (first | (with_reducible first | exact HB.out | apply below_alloc | apply pw_below_drewN | apply below_drew1 | refine below_set ?_ GE181.out) | exact HB.out)⟩

/-- THE ONE PURE STATEMENT of crossroadslaw1_WideDoes. -/
def crossroadslaw1_WideDoes.Pure : Prop := ∀ (a0 : Int) (a1 : Int) (a2_0 : Int) (a2_1 : Int), (Lit.int .i64 a0).wf = true → (Lit.int .i64 a1).wf = true → (Lit.int .u16 a2_0).wf = true → (Lit.int .u16 a2_1).wf = true → ∃ k, crossroadslaw1_WideDoes.f k a0 a1 a2_0 a2_1 = some true

end Go.Proofs.Ytcjoblnfbopaeaa.P
