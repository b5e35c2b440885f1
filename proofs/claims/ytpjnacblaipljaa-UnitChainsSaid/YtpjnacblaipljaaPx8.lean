-- Laid by a program of this session (the kit's print, changed): Lean checks it.
import Derived.Test.YtpjnacblaipljaaPx0
import Derived.Test.YtpjnacblaipljaaPx2
import Derived.Test.YtpjnacblaipljaaPx3
namespace Go.Proofs.Ytpjnacblaipljaa.G
end Go.Proofs.Ytpjnacblaipljaa.G
namespace Go.Proofs.Ytpjnacblaipljaa.P
open Go.Proofs.Ytpjnacblaipljaa.G
open Go.RowKit Go.Proofs.YtpjnacblaipljaaW.PrintWords Go.Proofs.YtpjnacblaipljaaW.PrintLast Go.Proofs.YtpjnacblaipljaaW.PrintMore
attribute [local go_sem] max2_int min2_int max_two min_two max_three min_three max_four min_four   -- for this text's walks alone
set_option linter.unusedVariables false
set_option linter.unusedSimpArgs false

/-! ### crossroadslaw5_UnitGoes: function 11 -/
mutual
def crossroadslaw5_UnitGoes.j0 : Nat → List (List Int) → List Int → Int → Bool → Option (Bool)
  | 0, _, _, _, _ => none
  | k + 1, x1, x2, x7, x35 => if x35 = true then (some true) else (crossroadslaw5_UnitGoes.l0 k x1 x2 x7 0)
def crossroadslaw5_UnitGoes.l0 : Nat → List (List Int) → List Int → Int → Int → Option (Bool)
  | 0, _, _, _, _ => none
  | k + 1, x1, x2, x7, x8 => if x8 < x7 then (if 0 ≤ x8 then (if x8 < (x2.length : Int) then (if (rd x2 x8) < (-1) then (some true) else (if (rd x2 x8) > 1 then (some true) else (crossroadslaw5_UnitGoes.l0 k x1 x2 x7 (wrap64 (x8 + 1))))) else (none)) else (none)) else ((unit_Run.f k x7 x1 x2).bind fun bt369 => (if bt369.2.2 = 0 then (crossroadslaw5_UnitGoes.j2 k x1 x2 x7 bt369.1 bt369.2.2 bt369.2.1) else (crossroadslaw5_UnitGoes.j2 k x1 x2 x7 bt369.1 bt369.2.2 true)))
def crossroadslaw5_UnitGoes.j2 : Nat → List (List Int) → List Int → Int → List Int → Int → Bool → Option (Bool)
  | 0, _, _, _, _, _, _ => none
  | k + 1, x1, x2, x7, x9, x11, x65 => if x65 = true then (some (x11 == 0)) else ((unit_Run.f k x7 x1 x9).bind fun bt374 => (crossroadslaw5_UnitGoes.l1 k x2 x7 x9 bt374.1 bt374.2.1 bt374.2.2 0))
def crossroadslaw5_UnitGoes.l1 : Nat → List Int → Int → List Int → List Int → Bool → Int → Int → Option (Bool)
  | 0, _, _, _, _, _, _, _ => none
  | k + 1, x2, x7, x9, x12, x13, x14, x15 => if x15 < x7 then (if 0 ≤ x15 then (if x15 < (x2.length : Int) then (if (rd x2 x15) = 0 then (crossroadslaw5_UnitGoes.l1 k x2 x7 x9 x12 x13 x14 (wrap64 (x15 + 1))) else (if x15 < (x9.length : Int) then (if (rd x9 x15) = (rd x2 x15) then (crossroadslaw5_UnitGoes.l1 k x2 x7 x9 x12 x13 x14 (wrap64 (x15 + 1))) else (none)) else (none))) else (none)) else (none)) else (if x14 = 0 then (if x13 = true then (none) else ((crossroadslaw5_same.f k x9 x12).bind fun t382 => (some t382))) else (none))
end
def crossroadslaw5_UnitGoes.f (k : Nat) (a0 : Int) (l1 : List (List Int)) (l2 : List Int) : Option (Bool) := (crossroadslaw5_awake.f k).bind fun t364 => (if t364 = true then ((crossroadslaw4_Small.f k l1 500).bind fun t365 => (if t365 = true then ((crossroadsref1_FormulaMay.f k (Int.tmod (wrap64 (a0)) 20) l1).bind fun t366 => (if t366 = true then (crossroadslaw5_UnitGoes.j0 k l1 l2 (Int.tmod (wrap64 (a0)) 20) ((l2.length : Int) != (Int.tmod (wrap64 (a0)) 20))) else (crossroadslaw5_UnitGoes.j0 k l1 l2 (Int.tmod (wrap64 (a0)) 20) true))) else (crossroadslaw5_UnitGoes.j0 k l1 l2 (Int.tmod (wrap64 (a0)) 20) true))) else (none))
theorem crossroadslaw5_UnitGoes.mono_l : ∀ k, (∀ y0 y1 y2 y3, LeO (crossroadslaw5_UnitGoes.j0 k y0 y1 y2 y3) (crossroadslaw5_UnitGoes.j0 (k + 1) y0 y1 y2 y3)) ∧ (∀ y0 y1 y2 y3, LeO (crossroadslaw5_UnitGoes.l0 k y0 y1 y2 y3) (crossroadslaw5_UnitGoes.l0 (k + 1) y0 y1 y2 y3)) ∧ (∀ y0 y1 y2 y3 y4 y5, LeO (crossroadslaw5_UnitGoes.j2 k y0 y1 y2 y3 y4 y5) (crossroadslaw5_UnitGoes.j2 (k + 1) y0 y1 y2 y3 y4 y5)) ∧ (∀ y0 y1 y2 y3 y4 y5 y6, LeO (crossroadslaw5_UnitGoes.l1 k y0 y1 y2 y3 y4 y5 y6) (crossroadslaw5_UnitGoes.l1 (k + 1) y0 y1 y2 y3 y4 y5 y6))
  | 0 => ⟨fun _ _ _ _ r h => by simp [crossroadslaw5_UnitGoes.j0] at h, fun _ _ _ _ r h => by simp [crossroadslaw5_UnitGoes.l0] at h, fun _ _ _ _ _ _ r h => by simp [crossroadslaw5_UnitGoes.j2] at h, fun _ _ _ _ _ _ _ r h => by simp [crossroadslaw5_UnitGoes.l1] at h⟩
  | k + 1 => by
    obtain ⟨ih0, ih1, ih2, ih3⟩ := crossroadslaw5_UnitGoes.mono_l k
    refine ⟨?_, ?_, ?_, ?_⟩
    · intro y0 y1 y2 y3
      unfold crossroadslaw5_UnitGoes.j0
      repeat' first
      | (with_reducible exact ih0 _ _ _ _)
      | (with_reducible exact ih1 _ _ _ _)
      | (with_reducible exact ih2 _ _ _ _ _ _)
      | (with_reducible exact ih3 _ _ _ _ _ _ _)
      | (with_reducible exact crossroadslaw4_Small.mono _ _ _)
      | (with_reducible exact crossroadslaw5_awake.mono _)
      | (with_reducible exact crossroadslaw5_same.mono _ _ _)
      | (with_reducible exact crossroadsref1_FormulaMay.mono _ _ _)
      | (with_reducible exact unit_Run.mono _ _ _ _)
      | (with_reducible exact LeO.refl _)
      | (with_reducible exact LeO.none _)
      | (with_reducible refine LeO.ite ?_ ?_)
      | (with_reducible refine LeO.bind ?_ (fun _ => ?_))
      | exact ih0 _ _ _ _
      | exact ih1 _ _ _ _
      | exact ih2 _ _ _ _ _ _
      | exact ih3 _ _ _ _ _ _ _
      | exact crossroadslaw4_Small.mono _ _ _
      | exact crossroadslaw5_awake.mono _
      | exact crossroadslaw5_same.mono _ _ _
      | exact crossroadsref1_FormulaMay.mono _ _ _
      | exact unit_Run.mono _ _ _ _
      | exact LeO.none _
      | refine LeO.ite ?_ ?_
      | refine LeO.bind ?_ (fun _ => ?_)
    · intro y0 y1 y2 y3
      unfold crossroadslaw5_UnitGoes.l0
      repeat' first
      | (with_reducible exact ih0 _ _ _ _)
      | (with_reducible exact ih1 _ _ _ _)
      | (with_reducible exact ih2 _ _ _ _ _ _)
      | (with_reducible exact ih3 _ _ _ _ _ _ _)
      | (with_reducible exact crossroadslaw4_Small.mono _ _ _)
      | (with_reducible exact crossroadslaw5_awake.mono _)
      | (with_reducible exact crossroadslaw5_same.mono _ _ _)
      | (with_reducible exact crossroadsref1_FormulaMay.mono _ _ _)
      | (with_reducible exact unit_Run.mono _ _ _ _)
      | (with_reducible exact LeO.refl _)
      | (with_reducible exact LeO.none _)
      | (with_reducible refine LeO.ite ?_ ?_)
      | (with_reducible refine LeO.bind ?_ (fun _ => ?_))
      | exact ih0 _ _ _ _
      | exact ih1 _ _ _ _
      | exact ih2 _ _ _ _ _ _
      | exact ih3 _ _ _ _ _ _ _
      | exact crossroadslaw4_Small.mono _ _ _
      | exact crossroadslaw5_awake.mono _
      | exact crossroadslaw5_same.mono _ _ _
      | exact crossroadsref1_FormulaMay.mono _ _ _
      | exact unit_Run.mono _ _ _ _
      | exact LeO.none _
      | refine LeO.ite ?_ ?_
      | refine LeO.bind ?_ (fun _ => ?_)
    · intro y0 y1 y2 y3 y4 y5
      unfold crossroadslaw5_UnitGoes.j2
      repeat' first
      | (with_reducible exact ih0 _ _ _ _)
      | (with_reducible exact ih1 _ _ _ _)
      | (with_reducible exact ih2 _ _ _ _ _ _)
      | (with_reducible exact ih3 _ _ _ _ _ _ _)
      | (with_reducible exact crossroadslaw4_Small.mono _ _ _)
      | (with_reducible exact crossroadslaw5_awake.mono _)
      | (with_reducible exact crossroadslaw5_same.mono _ _ _)
      | (with_reducible exact crossroadsref1_FormulaMay.mono _ _ _)
      | (with_reducible exact unit_Run.mono _ _ _ _)
      | (with_reducible exact LeO.refl _)
      | (with_reducible exact LeO.none _)
      | (with_reducible refine LeO.ite ?_ ?_)
      | (with_reducible refine LeO.bind ?_ (fun _ => ?_))
      | exact ih0 _ _ _ _
      | exact ih1 _ _ _ _
      | exact ih2 _ _ _ _ _ _
      | exact ih3 _ _ _ _ _ _ _
      | exact crossroadslaw4_Small.mono _ _ _
      | exact crossroadslaw5_awake.mono _
      | exact crossroadslaw5_same.mono _ _ _
      | exact crossroadsref1_FormulaMay.mono _ _ _
      | exact unit_Run.mono _ _ _ _
      | exact LeO.none _
      | refine LeO.ite ?_ ?_
      | refine LeO.bind ?_ (fun _ => ?_)
    · intro y0 y1 y2 y3 y4 y5 y6
      unfold crossroadslaw5_UnitGoes.l1
      repeat' first
      | (with_reducible exact ih0 _ _ _ _)
      | (with_reducible exact ih1 _ _ _ _)
      | (with_reducible exact ih2 _ _ _ _ _ _)
      | (with_reducible exact ih3 _ _ _ _ _ _ _)
      | (with_reducible exact crossroadslaw4_Small.mono _ _ _)
      | (with_reducible exact crossroadslaw5_awake.mono _)
      | (with_reducible exact crossroadslaw5_same.mono _ _ _)
      | (with_reducible exact crossroadsref1_FormulaMay.mono _ _ _)
      | (with_reducible exact unit_Run.mono _ _ _ _)
      | (with_reducible exact LeO.refl _)
      | (with_reducible exact LeO.none _)
      | (with_reducible refine LeO.ite ?_ ?_)
      | (with_reducible refine LeO.bind ?_ (fun _ => ?_))
      | exact ih0 _ _ _ _
      | exact ih1 _ _ _ _
      | exact ih2 _ _ _ _ _ _
      | exact ih3 _ _ _ _ _ _ _
      | exact crossroadslaw4_Small.mono _ _ _
      | exact crossroadslaw5_awake.mono _
      | exact crossroadslaw5_same.mono _ _ _
      | exact crossroadsref1_FormulaMay.mono _ _ _
      | exact unit_Run.mono _ _ _ _
      | exact LeO.none _
      | refine LeO.ite ?_ ?_
      | refine LeO.bind ?_ (fun _ => ?_)
theorem crossroadslaw5_UnitGoes.mono : ∀ a0 a1 a2 k, LeO (crossroadslaw5_UnitGoes.f k a0 a1 a2) (crossroadslaw5_UnitGoes.f (k + 1) a0 a1 a2) := by
  intro a0 a1 a2 k
  obtain ⟨ih0, ih1, ih2, ih3⟩ := crossroadslaw5_UnitGoes.mono_l k
  unfold crossroadslaw5_UnitGoes.f
  repeat' first
      | (with_reducible exact ih0 _ _ _ _)
      | (with_reducible exact ih1 _ _ _ _)
      | (with_reducible exact ih2 _ _ _ _ _ _)
      | (with_reducible exact ih3 _ _ _ _ _ _ _)
      | (with_reducible exact crossroadslaw4_Small.mono _ _ _)
      | (with_reducible exact crossroadslaw5_awake.mono _)
      | (with_reducible exact crossroadslaw5_same.mono _ _ _)
      | (with_reducible exact crossroadsref1_FormulaMay.mono _ _ _)
      | (with_reducible exact unit_Run.mono _ _ _ _)
      | (with_reducible exact LeO.refl _)
      | (with_reducible exact LeO.none _)
      | (with_reducible refine LeO.ite ?_ ?_)
      | (with_reducible refine LeO.bind ?_ (fun _ => ?_))
      | exact ih0 _ _ _ _
      | exact ih1 _ _ _ _
      | exact ih2 _ _ _ _ _ _
      | exact ih3 _ _ _ _ _ _ _
      | exact crossroadslaw4_Small.mono _ _ _
      | exact crossroadslaw5_awake.mono _
      | exact crossroadslaw5_same.mono _ _ _
      | exact crossroadsref1_FormulaMay.mono _ _ _
      | exact unit_Run.mono _ _ _ _
      | exact LeO.none _
      | refine LeO.ite ?_ ?_
      | refine LeO.bind ?_ (fun _ => ?_)
set_option maxHeartbeats 8000000 in
set_option maxRecDepth 100000 in
theorem crossroadslaw5_UnitGoes.calls (k : Nat) (a0 : Int) (A1 : Option Addr) (c1 : Nat) (l1 : List (List Int)) (A2 : Option Addr) (c2 : Nat) (l2 : List Int) (r : Bool) (w : World) (hr1 : Kd.C (Kd.slice 3 (Kd.int .i64)) w A1 l1.length l1) (hc1 : l1.length ≤ c1) (hr2 : Kd.C (Kd.int .i64) w A2 l2.length l2) (hc2 : l2.length ≤ c2) (h : crossroadslaw5_UnitGoes.f k a0 l1 l2 = some r) :
    Calls Try.prog 11 #[.int .u8 a0, .slice A1 l1.length c1, .slice A2 l2.length c2] w fun e w' => e = .returned (.bool r) ∧ Below w.heap.size w w' := by
  have HR1 := Aside0.mk hr1
  have HC1 := Aside0.mk hc1
  clear hr1 hc1
  have HR2 := Aside0.mk hr2
  have HC2 := Aside0.mk hc2
  clear hr2 hc2
  have HB := Aside0.mk (Below.refl w.heap.size w)
  have H : ((crossroadslaw5_awake.f k).bind fun t364 => (if t364 = true then ((crossroadslaw4_Small.f k l1 500).bind fun t365 => (if t365 = true then ((crossroadsref1_FormulaMay.f k (Int.tmod (wrap64 (a0)) 20) l1).bind fun t366 => (if t366 = true then (crossroadslaw5_UnitGoes.j0 k l1 l2 (Int.tmod (wrap64 (a0)) 20) ((l2.length : Int) != (Int.tmod (wrap64 (a0)) 20))) else (crossroadslaw5_UnitGoes.j0 k l1 l2 (Int.tmod (wrap64 (a0)) 20) true))) else (crossroadslaw5_UnitGoes.j0 k l1 l2 (Int.tmod (wrap64 (a0)) 20) true))) else (none))) = some r := h
  clear h
  replace H := Option.bind_eq_some_iff.mp H
  obtain ⟨t364, A40, H⟩ := H
  replace H : (if t364 = true then ((crossroadslaw4_Small.f k l1 500).bind fun t365 => (if t365 = true then ((crossroadsref1_FormulaMay.f k (Int.tmod (wrap64 (a0)) 20) l1).bind fun t366 => (if t366 = true then (crossroadslaw5_UnitGoes.j0 k l1 l2 (Int.tmod (wrap64 (a0)) 20) ((l2.length : Int) != (Int.tmod (wrap64 (a0)) 20))) else (crossroadslaw5_UnitGoes.j0 k l1 l2 (Int.tmod (wrap64 (a0)) 20) true))) else (crossroadslaw5_UnitGoes.j0 k l1 l2 (Int.tmod (wrap64 (a0)) 20) true))) else (none)) = some r := H
  have A4 := Aside0.mk A40
  clear A40
  by_cases c5 : t364 = true
  · subst c5
    have H1 : ((crossroadslaw4_Small.f k l1 500).bind fun t365 => (if t365 = true then ((crossroadsref1_FormulaMay.f k (Int.tmod (wrap64 (a0)) 20) l1).bind fun t366 => (if t366 = true then (crossroadslaw5_UnitGoes.j0 k l1 l2 (Int.tmod (wrap64 (a0)) 20) ((l2.length : Int) != (Int.tmod (wrap64 (a0)) 20))) else (crossroadslaw5_UnitGoes.j0 k l1 l2 (Int.tmod (wrap64 (a0)) 20) true))) else (crossroadslaw5_UnitGoes.j0 k l1 l2 (Int.tmod (wrap64 (a0)) 20) true))) = some r := by rw [if_pos rfl] at H; exact H
    clear H
    have H := H1
    clear H1
    have HC6 := Aside0.mk H
    clear H
    go_enter Try.func11, Try.ntmps11
    go_upto_region 4 with (first | (go_at_call 17; (with_reducible refine (crossroadslaw5_awake.calls k  true _ A4.out).mono ?_); rintro e w7 ⟨rfl, hb⟩; have n0_ := Aside0.mk (below_step (by repeat (first | (with_reducible first | exact HB.out | apply below_alloc | apply pw_below_drewN | apply below_drew1) | exact HB.out)) hb); clear HB; have HB := n0_; clear n0_; (try clear hb); (try clear hb2); (try clear hk); (try clear hi)))
    repeat (go_quiet (first | (go_at_call 17; (with_reducible refine (crossroadslaw5_awake.calls k  true _ A4.out).mono ?_); rintro e w7 ⟨rfl, hb⟩; have n0_ := Aside0.mk (below_step (by repeat (first | (with_reducible first | exact HB.out | apply below_alloc | apply pw_below_drewN | apply below_drew1) | exact HB.out)) hb); clear HB; have HB := n0_; clear n0_; (try clear hb); (try clear hb2); (try clear hk); (try clear hi))); go_upto_region 4 with (first | (go_at_call 17; (with_reducible refine (crossroadslaw5_awake.calls k  true _ A4.out).mono ?_); rintro e w7 ⟨rfl, hb⟩; have n0_ := Aside0.mk (below_step (by repeat (first | (with_reducible first | exact HB.out | apply below_alloc | apply pw_below_drewN | apply below_drew1) | exact HB.out)) hb); clear HB; have HB := n0_; clear n0_; (try clear hb); (try clear hb2); (try clear hk); (try clear hi))))
    (try simp only [Act.put, List.setIfInBounds_toArray, List.set_cons_zero, List.set_cons_succ])
    go_cut [35] (fun v35 wc => ∃ (kq : Nat) (x35_5 : Bool), v35 = .bool x35_5 ∧ Aside0 (crossroadslaw5_UnitGoes.j0 kq l1 l2 (Int.tmod (wrap64 (a0)) 20) x35_5 = some r) ∧ Aside0 (kq ≤ k) ∧ Aside0 (Below w.heap.size w wc))
    case first =>
      have H := HC6.out
      clear HC6
      replace H := Option.bind_eq_some_iff.mp H
      obtain ⟨t365, A80, H⟩ := H
      replace H : (if t365 = true then ((crossroadsref1_FormulaMay.f k (Int.tmod (wrap64 (a0)) 20) l1).bind fun t366 => (if t366 = true then (crossroadslaw5_UnitGoes.j0 k l1 l2 (Int.tmod (wrap64 (a0)) 20) ((l2.length : Int) != (Int.tmod (wrap64 (a0)) 20))) else (crossroadslaw5_UnitGoes.j0 k l1 l2 (Int.tmod (wrap64 (a0)) 20) true))) else (crossroadslaw5_UnitGoes.j0 k l1 l2 (Int.tmod (wrap64 (a0)) 20) true)) = some r := H
      have A8 := Aside0.mk A80
      clear A80
      by_cases c9 : t365 = true
      · subst c9
        have H1 : ((crossroadsref1_FormulaMay.f k (Int.tmod (wrap64 (a0)) 20) l1).bind fun t366 => (if t366 = true then (crossroadslaw5_UnitGoes.j0 k l1 l2 (Int.tmod (wrap64 (a0)) 20) ((l2.length : Int) != (Int.tmod (wrap64 (a0)) 20))) else (crossroadslaw5_UnitGoes.j0 k l1 l2 (Int.tmod (wrap64 (a0)) 20) true))) = some r := by rw [if_pos rfl] at H; exact H
        clear H
        have H := H1
        clear H1
        replace H := Option.bind_eq_some_iff.mp H
        obtain ⟨t366, A100, H⟩ := H
        replace H : (if t366 = true then (crossroadslaw5_UnitGoes.j0 k l1 l2 (Int.tmod (wrap64 (a0)) 20) ((l2.length : Int) != (Int.tmod (wrap64 (a0)) 20))) else (crossroadslaw5_UnitGoes.j0 k l1 l2 (Int.tmod (wrap64 (a0)) 20) true)) = some r := H
        have A10 := Aside0.mk A100
        clear A100
        by_cases c11 : t366 = true
        · subst c11
          have H1 : (crossroadslaw5_UnitGoes.j0 k l1 l2 (Int.tmod (wrap64 (a0)) 20) ((l2.length : Int) != (Int.tmod (wrap64 (a0)) 20))) = some r := by rw [if_pos rfl] at H; exact H
          clear H
          have H := H1
          clear H1
          have H' := Aside0.mk H
          clear H
          go_wp2_with (first | (go_at_call 18; (with_reducible refine (crossroadslaw4_Small.calls k _ _ l1 500 true _ ?side1 ?side2 A8.out).mono ?_); (case side1 => repeat (first | exact (Kd.C_below HR1.out HB.out) | (with_reducible refine Kd.C_alloc ?_ _) | (with_reducible refine Kd.C_drewN ?_ _) | (with_reducible refine Kd.C_drew ?_))); (case side2 => exact HC1.out); rintro e w' ⟨rfl, ⟨nd, rfl⟩⟩; (try first | exact ⟨rfl, _, World.drewN_drewN _ _ _⟩ | exact ⟨rfl, _, Eq.trans (World.drewN_drewN _ _ _) (congrArg (World.drewN _) (Nat.add_assoc _ _ _))⟩)) | (go_at_call 19; (with_reducible refine (crossroadsref1_FormulaMay.calls k (Int.tmod (wrap64 (a0)) 20) _ _ l1 true _ ?side1 ?side2 A10.out).mono ?_); (case side1 => repeat (first | exact (Kd.C_below HR1.out (by repeat (first | (with_reducible first | exact HB.out | apply below_alloc | apply pw_below_drewN | apply below_drew1) | exact HB.out))) | (with_reducible refine Kd.C_alloc ?_ _) | (with_reducible refine Kd.C_drewN ?_ _) | (with_reducible refine Kd.C_drew ?_))); (case side2 => exact HC1.out); rintro e w' ⟨rfl, ⟨nd, rfl⟩⟩; (try first | exact ⟨rfl, _, World.drewN_drewN _ _ _⟩ | exact ⟨rfl, _, Eq.trans (World.drewN_drewN _ _ _) (congrArg (World.drewN _) (Nat.add_assoc _ _ _))⟩)))
          repeat (go_quiet (first | (go_at_call 18; (with_reducible refine (crossroadslaw4_Small.calls k _ _ l1 500 true _ ?side1 ?side2 A8.out).mono ?_); (case side1 => repeat (first | exact (Kd.C_below HR1.out HB.out) | (with_reducible refine Kd.C_alloc ?_ _) | (with_reducible refine Kd.C_drewN ?_ _) | (with_reducible refine Kd.C_drew ?_))); (case side2 => exact HC1.out); rintro e w' ⟨rfl, ⟨nd, rfl⟩⟩; (try first | exact ⟨rfl, _, World.drewN_drewN _ _ _⟩ | exact ⟨rfl, _, Eq.trans (World.drewN_drewN _ _ _) (congrArg (World.drewN _) (Nat.add_assoc _ _ _))⟩)) | (go_at_call 19; (with_reducible refine (crossroadsref1_FormulaMay.calls k (Int.tmod (wrap64 (a0)) 20) _ _ l1 true _ ?side1 ?side2 A10.out).mono ?_); (case side1 => repeat (first | exact (Kd.C_below HR1.out (by repeat (first | (with_reducible first | exact HB.out | apply below_alloc | apply pw_below_drewN | apply below_drew1) | exact HB.out))) | (with_reducible refine Kd.C_alloc ?_ _) | (with_reducible refine Kd.C_drewN ?_ _) | (with_reducible refine Kd.C_drew ?_))); (case side2 => exact HC1.out); rintro e w' ⟨rfl, ⟨nd, rfl⟩⟩; (try first | exact ⟨rfl, _, World.drewN_drewN _ _ _⟩ | exact ⟨rfl, _, Eq.trans (World.drewN_drewN _ _ _) (congrArg (World.drewN _) (Nat.add_assoc _ _ _))⟩))); try go_wp2_with (first | (go_at_call 18; (with_reducible refine (crossroadslaw4_Small.calls k _ _ l1 500 true _ ?side1 ?side2 A8.out).mono ?_); (case side1 => repeat (first | exact (Kd.C_below HR1.out HB.out) | (with_reducible refine Kd.C_alloc ?_ _) | (with_reducible refine Kd.C_drewN ?_ _) | (with_reducible refine Kd.C_drew ?_))); (case side2 => exact HC1.out); rintro e w' ⟨rfl, ⟨nd, rfl⟩⟩; (try first | exact ⟨rfl, _, World.drewN_drewN _ _ _⟩ | exact ⟨rfl, _, Eq.trans (World.drewN_drewN _ _ _) (congrArg (World.drewN _) (Nat.add_assoc _ _ _))⟩)) | (go_at_call 19; (with_reducible refine (crossroadsref1_FormulaMay.calls k (Int.tmod (wrap64 (a0)) 20) _ _ l1 true _ ?side1 ?side2 A10.out).mono ?_); (case side1 => repeat (first | exact (Kd.C_below HR1.out (by repeat (first | (with_reducible first | exact HB.out | apply below_alloc | apply pw_below_drewN | apply below_drew1) | exact HB.out))) | (with_reducible refine Kd.C_alloc ?_ _) | (with_reducible refine Kd.C_drewN ?_ _) | (with_reducible refine Kd.C_drew ?_))); (case side2 => exact HC1.out); rintro e w' ⟨rfl, ⟨nd, rfl⟩⟩; (try first | exact ⟨rfl, _, World.drewN_drewN _ _ _⟩ | exact ⟨rfl, _, Eq.trans (World.drewN_drewN _ _ _) (congrArg (World.drewN _) (Nat.add_assoc _ _ _))⟩))))
          go_meet
          case rel => exact ⟨_, (((l2.length : Int) != (Int.tmod (wrap64 (a0)) 20))), (by first | rfl | (simp; done) | (simp [*]; done)), H', ⟨by first | omega | exact Nat.le_refl _⟩, ⟨by repeat (first | (with_reducible first | exact HB.out | apply below_alloc | apply pw_below_drewN | apply below_drew1) | exact HB.out)⟩⟩
        · replace c11 := Bool.eq_false_iff.mpr c11
          subst c11
          have H1 : (crossroadslaw5_UnitGoes.j0 k l1 l2 (Int.tmod (wrap64 (a0)) 20) true) = some r := by rw [if_neg (show ¬ (false = true) by decide)] at H; exact H
          clear H
          have H := H1
          clear H1
          have H' := Aside0.mk H
          clear H
          go_wp2_with (first | (go_at_call 18; (with_reducible refine (crossroadslaw4_Small.calls k _ _ l1 500 true _ ?side1 ?side2 A8.out).mono ?_); (case side1 => repeat (first | exact (Kd.C_below HR1.out HB.out) | (with_reducible refine Kd.C_alloc ?_ _) | (with_reducible refine Kd.C_drewN ?_ _) | (with_reducible refine Kd.C_drew ?_))); (case side2 => exact HC1.out); rintro e w' ⟨rfl, ⟨nd, rfl⟩⟩; (try first | exact ⟨rfl, _, World.drewN_drewN _ _ _⟩ | exact ⟨rfl, _, Eq.trans (World.drewN_drewN _ _ _) (congrArg (World.drewN _) (Nat.add_assoc _ _ _))⟩)) | (go_at_call 19; (with_reducible refine (crossroadsref1_FormulaMay.calls k (Int.tmod (wrap64 (a0)) 20) _ _ l1 false _ ?side1 ?side2 A10.out).mono ?_); (case side1 => repeat (first | exact (Kd.C_below HR1.out (by repeat (first | (with_reducible first | exact HB.out | apply below_alloc | apply pw_below_drewN | apply below_drew1) | exact HB.out))) | (with_reducible refine Kd.C_alloc ?_ _) | (with_reducible refine Kd.C_drewN ?_ _) | (with_reducible refine Kd.C_drew ?_))); (case side2 => exact HC1.out); rintro e w' ⟨rfl, ⟨nd, rfl⟩⟩; (try first | exact ⟨rfl, _, World.drewN_drewN _ _ _⟩ | exact ⟨rfl, _, Eq.trans (World.drewN_drewN _ _ _) (congrArg (World.drewN _) (Nat.add_assoc _ _ _))⟩)))
          repeat (go_quiet (first | (go_at_call 18; (with_reducible refine (crossroadslaw4_Small.calls k _ _ l1 500 true _ ?side1 ?side2 A8.out).mono ?_); (case side1 => repeat (first | exact (Kd.C_below HR1.out HB.out) | (with_reducible refine Kd.C_alloc ?_ _) | (with_reducible refine Kd.C_drewN ?_ _) | (with_reducible refine Kd.C_drew ?_))); (case side2 => exact HC1.out); rintro e w' ⟨rfl, ⟨nd, rfl⟩⟩; (try first | exact ⟨rfl, _, World.drewN_drewN _ _ _⟩ | exact ⟨rfl, _, Eq.trans (World.drewN_drewN _ _ _) (congrArg (World.drewN _) (Nat.add_assoc _ _ _))⟩)) | (go_at_call 19; (with_reducible refine (crossroadsref1_FormulaMay.calls k (Int.tmod (wrap64 (a0)) 20) _ _ l1 false _ ?side1 ?side2 A10.out).mono ?_); (case side1 => repeat (first | exact (Kd.C_below HR1.out (by repeat (first | (with_reducible first | exact HB.out | apply below_alloc | apply pw_below_drewN | apply below_drew1) | exact HB.out))) | (with_reducible refine Kd.C_alloc ?_ _) | (with_reducible refine Kd.C_drewN ?_ _) | (with_reducible refine Kd.C_drew ?_))); (case side2 => exact HC1.out); rintro e w' ⟨rfl, ⟨nd, rfl⟩⟩; (try first | exact ⟨rfl, _, World.drewN_drewN _ _ _⟩ | exact ⟨rfl, _, Eq.trans (World.drewN_drewN _ _ _) (congrArg (World.drewN _) (Nat.add_assoc _ _ _))⟩))); try go_wp2_with (first | (go_at_call 18; (with_reducible refine (crossroadslaw4_Small.calls k _ _ l1 500 true _ ?side1 ?side2 A8.out).mono ?_); (case side1 => repeat (first | exact (Kd.C_below HR1.out HB.out) | (with_reducible refine Kd.C_alloc ?_ _) | (with_reducible refine Kd.C_drewN ?_ _) | (with_reducible refine Kd.C_drew ?_))); (case side2 => exact HC1.out); rintro e w' ⟨rfl, ⟨nd, rfl⟩⟩; (try first | exact ⟨rfl, _, World.drewN_drewN _ _ _⟩ | exact ⟨rfl, _, Eq.trans (World.drewN_drewN _ _ _) (congrArg (World.drewN _) (Nat.add_assoc _ _ _))⟩)) | (go_at_call 19; (with_reducible refine (crossroadsref1_FormulaMay.calls k (Int.tmod (wrap64 (a0)) 20) _ _ l1 false _ ?side1 ?side2 A10.out).mono ?_); (case side1 => repeat (first | exact (Kd.C_below HR1.out (by repeat (first | (with_reducible first | exact HB.out | apply below_alloc | apply pw_below_drewN | apply below_drew1) | exact HB.out))) | (with_reducible refine Kd.C_alloc ?_ _) | (with_reducible refine Kd.C_drewN ?_ _) | (with_reducible refine Kd.C_drew ?_))); (case side2 => exact HC1.out); rintro e w' ⟨rfl, ⟨nd, rfl⟩⟩; (try first | exact ⟨rfl, _, World.drewN_drewN _ _ _⟩ | exact ⟨rfl, _, Eq.trans (World.drewN_drewN _ _ _) (congrArg (World.drewN _) (Nat.add_assoc _ _ _))⟩))))
          go_meet
          case rel => exact ⟨_, (true), (by first | rfl | (simp; done) | (simp [*]; done)), H', ⟨by first | omega | exact Nat.le_refl _⟩, ⟨by repeat (first | (with_reducible first | exact HB.out | apply below_alloc | apply pw_below_drewN | apply below_drew1) | exact HB.out)⟩⟩
      · replace c9 := Bool.eq_false_iff.mpr c9
        subst c9
        have H1 : (crossroadslaw5_UnitGoes.j0 k l1 l2 (Int.tmod (wrap64 (a0)) 20) true) = some r := by rw [if_neg (show ¬ (false = true) by decide)] at H; exact H
        clear H
        have H := H1
        clear H1
        have H' := Aside0.mk H
        clear H
        go_wp2_with (first | (go_at_call 18; (with_reducible refine (crossroadslaw4_Small.calls k _ _ l1 500 false _ ?side1 ?side2 A8.out).mono ?_); (case side1 => repeat (first | exact (Kd.C_below HR1.out HB.out) | (with_reducible refine Kd.C_alloc ?_ _) | (with_reducible refine Kd.C_drewN ?_ _) | (with_reducible refine Kd.C_drew ?_))); (case side2 => exact HC1.out); rintro e w' ⟨rfl, ⟨nd, rfl⟩⟩; (try first | exact ⟨rfl, _, World.drewN_drewN _ _ _⟩ | exact ⟨rfl, _, Eq.trans (World.drewN_drewN _ _ _) (congrArg (World.drewN _) (Nat.add_assoc _ _ _))⟩)))
        repeat (go_quiet (first | (go_at_call 18; (with_reducible refine (crossroadslaw4_Small.calls k _ _ l1 500 false _ ?side1 ?side2 A8.out).mono ?_); (case side1 => repeat (first | exact (Kd.C_below HR1.out HB.out) | (with_reducible refine Kd.C_alloc ?_ _) | (with_reducible refine Kd.C_drewN ?_ _) | (with_reducible refine Kd.C_drew ?_))); (case side2 => exact HC1.out); rintro e w' ⟨rfl, ⟨nd, rfl⟩⟩; (try first | exact ⟨rfl, _, World.drewN_drewN _ _ _⟩ | exact ⟨rfl, _, Eq.trans (World.drewN_drewN _ _ _) (congrArg (World.drewN _) (Nat.add_assoc _ _ _))⟩))); try go_wp2_with (first | (go_at_call 18; (with_reducible refine (crossroadslaw4_Small.calls k _ _ l1 500 false _ ?side1 ?side2 A8.out).mono ?_); (case side1 => repeat (first | exact (Kd.C_below HR1.out HB.out) | (with_reducible refine Kd.C_alloc ?_ _) | (with_reducible refine Kd.C_drewN ?_ _) | (with_reducible refine Kd.C_drew ?_))); (case side2 => exact HC1.out); rintro e w' ⟨rfl, ⟨nd, rfl⟩⟩; (try first | exact ⟨rfl, _, World.drewN_drewN _ _ _⟩ | exact ⟨rfl, _, Eq.trans (World.drewN_drewN _ _ _) (congrArg (World.drewN _) (Nat.add_assoc _ _ _))⟩))))
        go_meet
        case rel => exact ⟨_, (true), (by first | rfl | (simp; done) | (simp [*]; done)), H', ⟨by first | omega | exact Nat.le_refl _⟩, ⟨by repeat (first | (with_reducible first | exact HB.out | apply below_alloc | apply pw_below_drewN | apply below_drew1) | exact HB.out)⟩⟩
    case rest =>
      clear HC6
      try clear c1
      try clear c2
      try clear p2
      try clear c5
      try clear p6
      try clear c9
      try clear c11
      obtain ⟨kq, x35_5, rfl, HA, HJ5, HB⟩ := hcut
      cases kq with
      | zero => exact absurd HA.out (by simp [crossroadslaw5_UnitGoes.j0])
      | succ kj5 =>
        have H := HA.out
        clear HA
        simp only [crossroadslaw5_UnitGoes.j0] at H
        by_cases c12 : x35_5 = true
        · subst c12
          have H1 : (some true) = some r := by rw [if_pos rfl] at H; exact H
          clear H
          have H := H1
          clear H1
          obtain rfl := Option.some.inj H
          go_wp2
          repeat (go_quiet (fail); try go_wp2)
          go_ret
          exact ⟨by first | rfl | (simp [errW_none, errW_some] <;> rfl) | (simp [*, errW_none, errW_some] <;> rfl), by repeat (first | (with_reducible first | exact HB.out | apply below_alloc | apply pw_below_drewN | apply below_drew1) | exact HB.out)⟩
        · replace c12 := Bool.eq_false_iff.mpr c12
          subst c12
          have H1 : (crossroadslaw5_UnitGoes.l0 kj5 l1 l2 (Int.tmod (wrap64 (a0)) 20) 0) = some r := by rw [if_neg (show ¬ (false = true) by decide)] at H; exact H
          clear H
          have H := H1
          clear H1
          have H' := Aside0.mk H
          clear H
          go_wp2
          repeat (go_quiet (fail); try go_wp2)
          go_loopg [8] kj5 (fun kq v8 w' => ∃ (x8_2 : Int), v8 = .int .i64 x8_2 ∧ Aside0 (crossroadslaw5_UnitGoes.l0 kq l1 l2 (Int.tmod (wrap64 (a0)) 20) x8_2 = some r) ∧ Aside0 (kq ≤ kj5) ∧ Aside0 (Below w.heap.size w w'))
          case atStart => exact ⟨(0), (by first | rfl | (simp; done) | (simp [*]; done)), H', ⟨Nat.le_refl _⟩, ⟨by repeat (first | (with_reducible first | exact HB.out | apply below_alloc | apply pw_below_drewN | apply below_drew1) | exact HB.out)⟩⟩
          case round =>
            clear H'
            try clear c1
            try clear c2
            try clear p2
            try clear c5
            try clear p6
            try clear c9
            try clear c11
            try clear c12
            try clear p2
            try clear p6
            obtain ⟨x8_2, rfl, HA, HK2, HB⟩ := hrel
            cases gk with
            | zero => exact absurd HA.out (by simp [crossroadslaw5_UnitGoes.l0])
            | succ k2 =>
              have H := HA.out
              clear HA
              simp only [crossroadslaw5_UnitGoes.l0] at H
              by_cases c13 : x8_2 < (Int.tmod (wrap64 (a0)) 20)
              · rw [if_pos c13] at H
                have c13b0 : decide (x8_2 < (Int.tmod (wrap64 (a0)) 20)) = true := decide_eq_true c13
                clear c13
                by_cases c14 : 0 ≤ x8_2
                · rw [if_pos c14] at H
                  have c14b0 : decide (0 ≤ x8_2) = true := decide_eq_true c14
                  clear c14
                  by_cases c15 : x8_2 < (l2.length : Int)
                  · rw [if_pos c15] at H
                    have c15b0 : decide (x8_2 < (l2.length : Int)) = true := decide_eq_true c15
                    clear c15
                    by_cases c16 : (rd l2 x8_2) < (-1)
                    · rw [if_pos c16] at H
                      have c16b0 : decide ((rd l2 x8_2) < (-1)) = true := decide_eq_true c16
                      clear c16
                      obtain rfl := Option.some.inj H
                      have p367 : 0 ≤ (x8_2 : Int) := of_decide_eq_true (by first | (with_reducible assumption) | assumption)
                      have q367 : x8_2 < (l2.length : Int) := of_decide_eq_true (by first | (with_reducible assumption) | assumption)
                      obtain ⟨ad367, e367, hx367_0⟩ := Kd.at_int HR2.out x8_2 p367 q367
                      cases e367
                      replace hx367_0 := (HB.out.cell (World.block_lt_of_cell? w _ hx367_0)).trans hx367_0
                      replace p367 := eq_true p367
                      replace q367 := eq_true q367
                      go_wp2
                      repeat (go_quiet (fail); try go_wp2)
                      go_ret
                      exact ⟨by first | rfl | (simp [errW_none, errW_some] <;> rfl) | (simp [*, errW_none, errW_some] <;> rfl), by repeat (first | (with_reducible first | exact HB.out | apply below_alloc | apply pw_below_drewN | apply below_drew1) | exact HB.out)⟩
                    · rw [if_neg c16] at H
                      have c16b0 : decide ((rd l2 x8_2) < (-1)) = false := decide_eq_false c16
                      clear c16
                      by_cases c17 : (rd l2 x8_2) > 1
                      · rw [if_pos c17] at H
                        have c17b0 : decide (1 < (rd l2 x8_2)) = true := decide_eq_true c17
                        clear c17
                        obtain rfl := Option.some.inj H
                        have p367 : 0 ≤ (x8_2 : Int) := of_decide_eq_true (by first | (with_reducible assumption) | assumption)
                        have q367 : x8_2 < (l2.length : Int) := of_decide_eq_true (by first | (with_reducible assumption) | assumption)
                        obtain ⟨ad367, e367, hx367_0⟩ := Kd.at_int HR2.out x8_2 p367 q367
                        cases e367
                        replace hx367_0 := (HB.out.cell (World.block_lt_of_cell? w _ hx367_0)).trans hx367_0
                        replace p367 := eq_true p367
                        replace q367 := eq_true q367
                        have p368 : 0 ≤ (x8_2 : Int) := of_decide_eq_true (by first | (with_reducible assumption) | assumption)
                        have q368 : x8_2 < (l2.length : Int) := of_decide_eq_true (by first | (with_reducible assumption) | assumption)
                        obtain ⟨ad368, e368, hx368_0⟩ := Kd.at_int HR2.out x8_2 p368 q368
                        obtain rfl : ad367 = ad368 := (by injection e368)
                        replace hx368_0 := (HB.out.cell (World.block_lt_of_cell? w _ hx368_0)).trans hx368_0
                        replace p368 := eq_true p368
                        replace q368 := eq_true q368
                        go_wp2
                        repeat (go_quiet (fail); try go_wp2)
                        go_ret
                        exact ⟨by first | rfl | (simp [errW_none, errW_some] <;> rfl) | (simp [*, errW_none, errW_some] <;> rfl), by repeat (first | (with_reducible first | exact HB.out | apply below_alloc | apply pw_below_drewN | apply below_drew1) | exact HB.out)⟩
                      · rw [if_neg c17] at H
                        have c17b0 : decide (1 < (rd l2 x8_2)) = false := decide_eq_false c17
                        clear c17
                        have H' := Aside0.mk H
                        clear H
                        have p367 : 0 ≤ (x8_2 : Int) := of_decide_eq_true (by first | (with_reducible assumption) | assumption)
                        have q367 : x8_2 < (l2.length : Int) := of_decide_eq_true (by first | (with_reducible assumption) | assumption)
                        obtain ⟨ad367, e367, hx367_0⟩ := Kd.at_int HR2.out x8_2 p367 q367
                        cases e367
                        replace hx367_0 := (HB.out.cell (World.block_lt_of_cell? w _ hx367_0)).trans hx367_0
                        replace p367 := eq_true p367
                        replace q367 := eq_true q367
                        have p368 : 0 ≤ (x8_2 : Int) := of_decide_eq_true (by first | (with_reducible assumption) | assumption)
                        have q368 : x8_2 < (l2.length : Int) := of_decide_eq_true (by first | (with_reducible assumption) | assumption)
                        obtain ⟨ad368, e368, hx368_0⟩ := Kd.at_int HR2.out x8_2 p368 q368
                        obtain rfl : ad367 = ad368 := (by injection e368)
                        replace hx368_0 := (HB.out.cell (World.block_lt_of_cell? w _ hx368_0)).trans hx368_0
                        replace p368 := eq_true p368
                        replace q368 := eq_true q368
                        go_wp2
                        repeat (go_quiet (fail); try go_wp2)
                        go_roundg k2
                        case measure => have := HJ5.out; have := HK2.out; omega
                        case rel => exact ⟨(wrap64 (x8_2 + 1)), (by first | rfl | (simp; done) | (simp [*]; done)), H', ⟨by have := HJ5.out; have := HK2.out; omega⟩, ⟨by repeat (first | (with_reducible first | exact HB.out | apply below_alloc | apply pw_below_drewN | apply below_drew1) | exact HB.out)⟩⟩
                  · rw [if_neg c15] at H
                    exact absurd H (by simp)
                · rw [if_neg c14] at H
                  exact absurd H (by simp)
              · rw [if_neg c13] at H
                have c13b0 : decide (x8_2 < (Int.tmod (wrap64 (a0)) 20)) = false := decide_eq_false c13
                clear c13
                replace H := Option.bind_eq_some_iff.mp H
                obtain ⟨⟨t369, t370, t371⟩, A180, H⟩ := H
                replace H : (if t371 = 0 then (crossroadslaw5_UnitGoes.j2 k2 l1 l2 (Int.tmod (wrap64 (a0)) 20) t369 t371 t370) else (crossroadslaw5_UnitGoes.j2 k2 l1 l2 (Int.tmod (wrap64 (a0)) 20) t369 t371 true)) = some r := H
                have A18 := Aside0.mk A180
                clear A180
                have HC19 := Aside0.mk H
                clear H
                go_upto_region 12 with (first | (go_at_call 20; (with_reducible refine (unit_Run.calls k2 (Int.tmod (wrap64 (a0)) 20) _ _ l1 _ _ l2 t369 t370 t371 _ ?side1 ?side2 ?side3 ?side4 A18.out).mono ?_); (case side1 => repeat (first | exact (Kd.C_below HR1.out HB.out) | (with_reducible refine Kd.C_alloc ?_ _) | (with_reducible refine Kd.C_drewN ?_ _) | (with_reducible refine Kd.C_drew ?_))); (case side2 => exact HC1.out); (case side3 => repeat (first | exact (Kd.C_below HR2.out HB.out) | (with_reducible refine Kd.C_alloc ?_ _) | (with_reducible refine Kd.C_drewN ?_ _) | (with_reducible refine Kd.C_drew ?_))); (case side4 => exact HC2.out); rintro e w20 ⟨v372, rfl, ho0, hb⟩; have n0_ := Aside0.mk (Kd.R_lower ho0 (below_size (by repeat (first | (with_reducible first | exact HB.out | apply below_alloc | apply pw_below_drewN | apply below_drew1) | exact HB.out)))); have n1_ := Aside0.mk (below_step (by repeat (first | (with_reducible first | exact HB.out | apply below_alloc | apply pw_below_drewN | apply below_drew1) | exact HB.out)) hb); clear HB; have HO373 := n0_; have HB := n1_; clear n0_ n1_; (try clear hb); (try clear hb2); (try clear hk); (try clear hi); (try clear ho0)))
                repeat (go_quiet (first | (go_at_call 20; (with_reducible refine (unit_Run.calls k2 (Int.tmod (wrap64 (a0)) 20) _ _ l1 _ _ l2 t369 t370 t371 _ ?side1 ?side2 ?side3 ?side4 A18.out).mono ?_); (case side1 => repeat (first | exact (Kd.C_below HR1.out HB.out) | (with_reducible refine Kd.C_alloc ?_ _) | (with_reducible refine Kd.C_drewN ?_ _) | (with_reducible refine Kd.C_drew ?_))); (case side2 => exact HC1.out); (case side3 => repeat (first | exact (Kd.C_below HR2.out HB.out) | (with_reducible refine Kd.C_alloc ?_ _) | (with_reducible refine Kd.C_drewN ?_ _) | (with_reducible refine Kd.C_drew ?_))); (case side4 => exact HC2.out); rintro e w20 ⟨v372, rfl, ho0, hb⟩; have n0_ := Aside0.mk (Kd.R_lower ho0 (below_size (by repeat (first | (with_reducible first | exact HB.out | apply below_alloc | apply pw_below_drewN | apply below_drew1) | exact HB.out)))); have n1_ := Aside0.mk (below_step (by repeat (first | (with_reducible first | exact HB.out | apply below_alloc | apply pw_below_drewN | apply below_drew1) | exact HB.out)) hb); clear HB; have HO373 := n0_; have HB := n1_; clear n0_ n1_; (try clear hb); (try clear hb2); (try clear hk); (try clear hi); (try clear ho0))); go_upto_region 12 with (first | (go_at_call 20; (with_reducible refine (unit_Run.calls k2 (Int.tmod (wrap64 (a0)) 20) _ _ l1 _ _ l2 t369 t370 t371 _ ?side1 ?side2 ?side3 ?side4 A18.out).mono ?_); (case side1 => repeat (first | exact (Kd.C_below HR1.out HB.out) | (with_reducible refine Kd.C_alloc ?_ _) | (with_reducible refine Kd.C_drewN ?_ _) | (with_reducible refine Kd.C_drew ?_))); (case side2 => exact HC1.out); (case side3 => repeat (first | exact (Kd.C_below HR2.out HB.out) | (with_reducible refine Kd.C_alloc ?_ _) | (with_reducible refine Kd.C_drewN ?_ _) | (with_reducible refine Kd.C_drew ?_))); (case side4 => exact HC2.out); rintro e w20 ⟨v372, rfl, ho0, hb⟩; have n0_ := Aside0.mk (Kd.R_lower ho0 (below_size (by repeat (first | (with_reducible first | exact HB.out | apply below_alloc | apply pw_below_drewN | apply below_drew1) | exact HB.out)))); have n1_ := Aside0.mk (below_step (by repeat (first | (with_reducible first | exact HB.out | apply below_alloc | apply pw_below_drewN | apply below_drew1) | exact HB.out)) hb); clear HB; have HO373 := n0_; have HB := n1_; clear n0_ n1_; (try clear hb); (try clear hb2); (try clear hk); (try clear hi); (try clear ho0))))
                (try simp only [Act.put, List.setIfInBounds_toArray, List.set_cons_zero, List.set_cons_succ])
                go_cut [65] (fun v65 wc => ∃ (kq : Nat) (x65_18 : Bool), v65 = .bool x65_18 ∧ Aside0 (crossroadslaw5_UnitGoes.j2 kq l1 l2 (Int.tmod (wrap64 (a0)) 20) t369 t371 x65_18 = some r) ∧ Aside0 (kq ≤ k2) ∧ Aside0 (Kd.R (Kd.int .i64) 3 wc w.heap.size (fun _ => True) v372 t369) ∧ Aside0 (Below w.heap.size w wc))
                case first =>
                  have H := HC19.out
                  clear HC19
                  by_cases c21 : t371 = 0
                  · rw [if_pos c21] at H
                    have c21b0 : (t371 == 0) = true := beq_iff_eq.mpr c21
                    have c21b1 : (t371 != 0) = false := bne_eq_false_iff_eq.mpr c21
                    clear c21
                    (first | rw [c21b0] | (simp only [i64_w, i32_w]; rw [c21b0]) | skip)
                    have H' := Aside0.mk H
                    clear H
                    go_wp2
                    repeat (go_quiet (fail); try go_wp2)
                    go_meet
                    case rel => exact ⟨_, (t370), (by first | rfl | (simp; done) | (simp [*]; done)), H', ⟨by have := HJ5.out; have := HK2.out; first | omega | exact Nat.le_refl _⟩, ⟨by (with_reducible repeat (first | apply Kd.R_alloc | apply Kd.R_drewN | apply Kd.R_drew)); exact HO373.out⟩, ⟨by repeat (first | (with_reducible first | exact HB.out | apply below_alloc | apply pw_below_drewN | apply below_drew1) | exact HB.out)⟩⟩
                  · rw [if_neg c21] at H
                    have c21b0 : (t371 == 0) = false := beq_eq_false_iff_ne.mpr c21
                    have c21b1 : (t371 != 0) = true := bne_iff_ne.mpr c21
                    (first | rw [c21b0] | (simp only [i64_w, i32_w]; rw [c21b0]) | skip)
                    have H' := Aside0.mk H
                    clear H
                    go_wp2
                    repeat (go_quiet (fail); try go_wp2)
                    go_meet
                    case rel => exact ⟨_, (true), (by first | rfl | (simp; done) | (simp [*]; done)), H', ⟨by have := HJ5.out; have := HK2.out; first | omega | exact Nat.le_refl _⟩, ⟨by (with_reducible repeat (first | apply Kd.R_alloc | apply Kd.R_drewN | apply Kd.R_drew)); exact HO373.out⟩, ⟨by repeat (first | (with_reducible first | exact HB.out | apply below_alloc | apply pw_below_drewN | apply below_drew1) | exact HB.out)⟩⟩
                case rest =>
                  clear HC19
                  try clear c1
                  try clear c2
                  try clear p2
                  try clear p3
                  try clear q3
                  try clear hx3
                  try clear c5
                  try clear p6
                  try clear c9
                  try clear c11
                  try clear c12
                  try clear c13
                  try clear c13b0
                  try clear c14
                  try clear c14b0
                  try clear c15
                  try clear c15b0
                  try clear c16
                  try clear c16b0
                  try clear c17
                  try clear c17b0
                  try clear c21
                  try clear c21b0
                  try clear c21b1
                  try clear hx367_0
                  try clear hx368_0
                  try clear p2
                  try clear p367
                  try clear p368
                  try clear p6
                  try clear q367
                  try clear q368
                  obtain ⟨kq, x65_18, rfl, HA, HJ18, HO_9, HB⟩ := hcut
                  cases kq with
                  | zero => exact absurd HA.out (by simp [crossroadslaw5_UnitGoes.j2])
                  | succ kj18 =>
                    have H := HA.out
                    clear HA
                    simp only [crossroadslaw5_UnitGoes.j2] at H
                    by_cases c22 : x65_18 = true
                    · subst c22
                      have H1 : (some (t371 == 0)) = some r := by rw [if_pos rfl] at H; exact H
                      clear H
                      have H := H1
                      clear H1
                      obtain rfl := Option.some.inj H
                      go_wp2
                      repeat (go_quiet (fail); try go_wp2)
                      go_ret
                      exact ⟨by first | rfl | (simp [errW_none, errW_some] <;> rfl) | (simp [*, errW_none, errW_some] <;> rfl), by repeat (first | (with_reducible first | exact HB.out | apply below_alloc | apply pw_below_drewN | apply below_drew1) | exact HB.out)⟩
                    · replace c22 := Bool.eq_false_iff.mpr c22
                      subst c22
                      have H1 : ((unit_Run.f kj18 (Int.tmod (wrap64 (a0)) 20) l1 t369).bind fun bt374 => (crossroadslaw5_UnitGoes.l1 kj18 l2 (Int.tmod (wrap64 (a0)) 20) t369 bt374.1 bt374.2.1 bt374.2.2 0)) = some r := by rw [if_neg (show ¬ (false = true) by decide)] at H; exact H
                      clear H
                      have H := H1
                      clear H1
                      replace H := Option.bind_eq_some_iff.mp H
                      obtain ⟨⟨t374, t375, t376⟩, A230, H⟩ := H
                      replace H : (crossroadslaw5_UnitGoes.l1 kj18 l2 (Int.tmod (wrap64 (a0)) 20) t369 t374 t375 t376 0) = some r := H
                      have A23 := Aside0.mk A230
                      clear A230
                      have H' := Aside0.mk H
                      clear H
                      obtain ⟨Ao24, co24, eo24⟩ := Kd.R_slice HO_9.out
                      subst eo24
                      go_wp2_with (first | (go_at_call 20; (with_reducible refine (unit_Run.calls kj18 (Int.tmod (wrap64 (a0)) 20) _ _ l1 _ _ t369 t374 t375 t376 _ ?side1 ?side2 ?side3 ?side4 A23.out).mono ?_); (case side1 => repeat (first | exact (Kd.C_below HR1.out HB.out) | (with_reducible refine Kd.C_alloc ?_ _) | (with_reducible refine Kd.C_drewN ?_ _) | (with_reducible refine Kd.C_drew ?_))); (case side2 => exact HC1.out); (case side3 => repeat (first | exact (Kd.R_reads' HO_9.out).2.2 | (with_reducible refine Kd.C_alloc ?_ _) | (with_reducible refine Kd.C_drewN ?_ _) | (with_reducible refine Kd.C_drew ?_))); (case side4 => exact (Kd.R_reads' HO_9.out).2.1); rintro e w25 ⟨v377, rfl, ho0, hb⟩; have n0_ := Aside0.mk (Kd.R_elder' (by (with_reducible repeat (first | apply Kd.R_alloc | apply Kd.R_drewN | apply Kd.R_drew)); exact HO_9.out) (Kd.R_base ho0) hb); have n1_ := Aside0.mk (Kd.R_lower (Kd.R_new' ho0 (Kd.R_lt (by (with_reducible repeat (first | apply Kd.R_alloc | apply Kd.R_drewN | apply Kd.R_drew)); exact HO_9.out))) (below_size (by repeat (first | (with_reducible first | exact HB.out | apply below_alloc | apply pw_below_drewN | apply below_drew1) | exact HB.out)))); have n2_ := Aside0.mk (below_step (by repeat (first | (with_reducible first | exact HB.out | apply below_alloc | apply pw_below_drewN | apply below_drew1) | exact HB.out)) hb); clear HO_9; clear HB; have HO_9 := n0_; have HO378 := n1_; have HB := n2_; clear n0_ n1_ n2_; (try clear hb); (try clear hb2); (try clear hk); (try clear hi); (try clear ho0)))
                      repeat (go_quiet (first | (go_at_call 20; (with_reducible refine (unit_Run.calls kj18 (Int.tmod (wrap64 (a0)) 20) _ _ l1 _ _ t369 t374 t375 t376 _ ?side1 ?side2 ?side3 ?side4 A23.out).mono ?_); (case side1 => repeat (first | exact (Kd.C_below HR1.out HB.out) | (with_reducible refine Kd.C_alloc ?_ _) | (with_reducible refine Kd.C_drewN ?_ _) | (with_reducible refine Kd.C_drew ?_))); (case side2 => exact HC1.out); (case side3 => repeat (first | exact (Kd.R_reads' HO_9.out).2.2 | (with_reducible refine Kd.C_alloc ?_ _) | (with_reducible refine Kd.C_drewN ?_ _) | (with_reducible refine Kd.C_drew ?_))); (case side4 => exact (Kd.R_reads' HO_9.out).2.1); rintro e w25 ⟨v377, rfl, ho0, hb⟩; have n0_ := Aside0.mk (Kd.R_elder' (by (with_reducible repeat (first | apply Kd.R_alloc | apply Kd.R_drewN | apply Kd.R_drew)); exact HO_9.out) (Kd.R_base ho0) hb); have n1_ := Aside0.mk (Kd.R_lower (Kd.R_new' ho0 (Kd.R_lt (by (with_reducible repeat (first | apply Kd.R_alloc | apply Kd.R_drewN | apply Kd.R_drew)); exact HO_9.out))) (below_size (by repeat (first | (with_reducible first | exact HB.out | apply below_alloc | apply pw_below_drewN | apply below_drew1) | exact HB.out)))); have n2_ := Aside0.mk (below_step (by repeat (first | (with_reducible first | exact HB.out | apply below_alloc | apply pw_below_drewN | apply below_drew1) | exact HB.out)) hb); clear HO_9; clear HB; have HO_9 := n0_; have HO378 := n1_; have HB := n2_; clear n0_ n1_ n2_; (try clear hb); (try clear hb2); (try clear hk); (try clear hi); (try clear ho0))); try go_wp2_with (first | (go_at_call 20; (with_reducible refine (unit_Run.calls kj18 (Int.tmod (wrap64 (a0)) 20) _ _ l1 _ _ t369 t374 t375 t376 _ ?side1 ?side2 ?side3 ?side4 A23.out).mono ?_); (case side1 => repeat (first | exact (Kd.C_below HR1.out HB.out) | (with_reducible refine Kd.C_alloc ?_ _) | (with_reducible refine Kd.C_drewN ?_ _) | (with_reducible refine Kd.C_drew ?_))); (case side2 => exact HC1.out); (case side3 => repeat (first | exact (Kd.R_reads' HO_9.out).2.2 | (with_reducible refine Kd.C_alloc ?_ _) | (with_reducible refine Kd.C_drewN ?_ _) | (with_reducible refine Kd.C_drew ?_))); (case side4 => exact (Kd.R_reads' HO_9.out).2.1); rintro e w25 ⟨v377, rfl, ho0, hb⟩; have n0_ := Aside0.mk (Kd.R_elder' (by (with_reducible repeat (first | apply Kd.R_alloc | apply Kd.R_drewN | apply Kd.R_drew)); exact HO_9.out) (Kd.R_base ho0) hb); have n1_ := Aside0.mk (Kd.R_lower (Kd.R_new' ho0 (Kd.R_lt (by (with_reducible repeat (first | apply Kd.R_alloc | apply Kd.R_drewN | apply Kd.R_drew)); exact HO_9.out))) (below_size (by repeat (first | (with_reducible first | exact HB.out | apply below_alloc | apply pw_below_drewN | apply below_drew1) | exact HB.out)))); have n2_ := Aside0.mk (below_step (by repeat (first | (with_reducible first | exact HB.out | apply below_alloc | apply pw_below_drewN | apply below_drew1) | exact HB.out)) hb); clear HO_9; clear HB; have HO_9 := n0_; have HO378 := n1_; have HB := n2_; clear n0_ n1_ n2_; (try clear hb); (try clear hb2); (try clear hk); (try clear hi); (try clear ho0))))
                      go_loopg [15] kj18 (fun kq v15 w' => ∃ (x15_4 : Int), v15 = .int .i64 x15_4 ∧ Aside0 (crossroadslaw5_UnitGoes.l1 kq l2 (Int.tmod (wrap64 (a0)) 20) t369 t374 t375 t376 x15_4 = some r) ∧ Aside0 (kq ≤ kj18) ∧ Aside0 (Kd.R (Kd.int .i64) 3 w' w.heap.size (fun k_ => some k_ ≠ (v377 : Value).ownBlock) (.slice Ao24 t369.length co24) t369) ∧ Aside0 (Kd.R (Kd.int .i64) 3 w' w.heap.size (fun k_ => some k_ ≠ ((.slice Ao24 t369.length co24) : Value).ownBlock) v377 t374) ∧ Aside0 (Below w.heap.size w w'))
                      case atStart => exact ⟨(0), (by first | rfl | (simp; done) | (simp [*]; done)), H', ⟨Nat.le_refl _⟩, ⟨by (with_reducible repeat (first | apply Kd.R_alloc | apply Kd.R_drewN | apply Kd.R_drew)); exact Kd.R_mono HO_9.out (fun _ hk => hk.2)⟩, ⟨by (with_reducible repeat (first | apply Kd.R_alloc | apply Kd.R_drewN | apply Kd.R_drew)); exact Kd.R_mono HO378.out (fun _ hk => hk.2)⟩, ⟨by repeat (first | (with_reducible first | exact HB.out | apply below_alloc | apply pw_below_drewN | apply below_drew1) | exact HB.out)⟩⟩
                      case round =>
                        clear H'
                        try clear c1
                        try clear c2
                        try clear p2
                        try clear p3
                        try clear q3
                        try clear hx3
                        try clear c5
                        try clear p6
                        try clear c9
                        try clear c11
                        try clear c12
                        try clear c13
                        try clear c13b0
                        try clear c14
                        try clear c14b0
                        try clear c15
                        try clear c15b0
                        try clear c16
                        try clear c16b0
                        try clear c17
                        try clear c17b0
                        try clear c21
                        try clear c21b0
                        try clear c21b1
                        try clear c22
                        try clear hx367_0
                        try clear hx368_0
                        try clear p2
                        try clear p3
                        try clear p367
                        try clear p368
                        try clear p6
                        try clear q3
                        try clear q367
                        try clear q368
                        obtain ⟨x15_4, rfl, HA, HK4, HO_9, HO_12, HB⟩ := hrel
                        cases gk with
                        | zero => exact absurd HA.out (by simp [crossroadslaw5_UnitGoes.l1])
                        | succ k4 =>
                          have H := HA.out
                          clear HA
                          simp only [crossroadslaw5_UnitGoes.l1] at H
                          by_cases c26 : x15_4 < (Int.tmod (wrap64 (a0)) 20)
                          · rw [if_pos c26] at H
                            have c26b0 : decide (x15_4 < (Int.tmod (wrap64 (a0)) 20)) = true := decide_eq_true c26
                            clear c26
                            by_cases c27 : 0 ≤ x15_4
                            · rw [if_pos c27] at H
                              have c27b0 : decide (0 ≤ x15_4) = true := decide_eq_true c27
                              clear c27
                              by_cases c28 : x15_4 < (l2.length : Int)
                              · rw [if_pos c28] at H
                                have c28b0 : decide (x15_4 < (l2.length : Int)) = true := decide_eq_true c28
                                clear c28
                                by_cases c29 : (rd l2 x15_4) = 0
                                · rw [if_pos c29] at H
                                  have c29b0 : ((rd l2 x15_4) == 0) = true := beq_iff_eq.mpr c29
                                  have c29b1 : ((rd l2 x15_4) != 0) = false := bne_eq_false_iff_eq.mpr c29
                                  clear c29
                                  have H' := Aside0.mk H
                                  clear H
                                  have p379 : 0 ≤ (x15_4 : Int) := of_decide_eq_true (by first | (with_reducible assumption) | assumption)
                                  have q379 : x15_4 < (l2.length : Int) := of_decide_eq_true (by first | (with_reducible assumption) | assumption)
                                  obtain ⟨ad379, e379, hx379_0⟩ := Kd.at_int HR2.out x15_4 p379 q379
                                  cases e379
                                  replace hx379_0 := (HB.out.cell (World.block_lt_of_cell? w _ hx379_0)).trans hx379_0
                                  replace p379 := eq_true p379
                                  replace q379 := eq_true q379
                                  go_wp2
                                  repeat (go_quiet (fail); try go_wp2)
                                  go_roundg k4
                                  case measure => have := HJ5.out; have := HK2.out; have := HJ18.out; have := HK4.out; omega
                                  case rel => exact ⟨(wrap64 (x15_4 + 1)), (by first | rfl | (simp; done) | (simp [*]; done)), H', ⟨by have := HJ5.out; have := HK2.out; have := HJ18.out; have := HK4.out; omega⟩, ⟨by (with_reducible repeat (first | apply Kd.R_alloc | apply Kd.R_drewN | apply Kd.R_drew)); exact HO_9.out⟩, ⟨by (with_reducible repeat (first | apply Kd.R_alloc | apply Kd.R_drewN | apply Kd.R_drew)); exact HO_12.out⟩, ⟨by repeat (first | (with_reducible first | exact HB.out | apply below_alloc | apply pw_below_drewN | apply below_drew1) | exact HB.out)⟩⟩
                                · rw [if_neg c29] at H
                                  have c29b0 : ((rd l2 x15_4) == 0) = false := beq_eq_false_iff_ne.mpr c29
                                  have c29b1 : ((rd l2 x15_4) != 0) = true := bne_iff_ne.mpr c29
                                  by_cases c30 : x15_4 < (t369.length : Int)
                                  · rw [if_pos c30] at H
                                    have c30b0 : decide (x15_4 < (t369.length : Int)) = true := decide_eq_true c30
                                    clear c30
                                    by_cases c31 : (rd t369 x15_4) = (rd l2 x15_4)
                                    · rw [if_pos c31] at H
                                      have c31b0 : ((rd t369 x15_4) == (rd l2 x15_4)) = true := beq_iff_eq.mpr c31
                                      have c31b1 : ((rd t369 x15_4) != (rd l2 x15_4)) = false := bne_eq_false_iff_eq.mpr c31
                                      clear c31
                                      have H' := Aside0.mk H
                                      clear H
                                      have p379 : 0 ≤ (x15_4 : Int) := of_decide_eq_true (by first | (with_reducible assumption) | assumption)
                                      have q379 : x15_4 < (l2.length : Int) := of_decide_eq_true (by first | (with_reducible assumption) | assumption)
                                      obtain ⟨ad379, e379, hx379_0⟩ := Kd.at_int HR2.out x15_4 p379 q379
                                      cases e379
                                      replace hx379_0 := (HB.out.cell (World.block_lt_of_cell? w _ hx379_0)).trans hx379_0
                                      replace p379 := eq_true p379
                                      replace q379 := eq_true q379
                                      have p380 : 0 ≤ (x15_4 : Int) := of_decide_eq_true (by first | (with_reducible assumption) | assumption)
                                      have q380 : x15_4 < (t369.length : Int) := of_decide_eq_true (by first | (with_reducible assumption) | assumption)
                                      (try (obtain ⟨Aoo380, coo380, eoo380⟩ := Kd.R_slice HO_9.out; subst eoo380))
                                      obtain ⟨ad380, e380, hx380_0⟩ := Kd.at_int (Kd.R_reads' HO_9.out).2.2 x15_4 p380 q380
                                      cases e380
                                      replace p380 := eq_true p380
                                      replace q380 := eq_true q380
                                      have p381 : 0 ≤ (x15_4 : Int) := of_decide_eq_true (by first | (with_reducible assumption) | assumption)
                                      have q381 : x15_4 < (l2.length : Int) := of_decide_eq_true (by first | (with_reducible assumption) | assumption)
                                      obtain ⟨ad381, e381, hx381_0⟩ := Kd.at_int HR2.out x15_4 p381 q381
                                      obtain rfl : ad379 = ad381 := (by injection e381)
                                      replace hx381_0 := (HB.out.cell (World.block_lt_of_cell? w _ hx381_0)).trans hx381_0
                                      replace p381 := eq_true p381
                                      replace q381 := eq_true q381
                                      go_wp2
                                      repeat (go_quiet (fail); try go_wp2)
                                      go_roundg k4
                                      case measure => have := HJ5.out; have := HK2.out; have := HJ18.out; have := HK4.out; omega
                                      case rel => exact ⟨(wrap64 (x15_4 + 1)), (by first | rfl | (simp; done) | (simp [*]; done)), H', ⟨by have := HJ5.out; have := HK2.out; have := HJ18.out; have := HK4.out; omega⟩, ⟨by (with_reducible repeat (first | apply Kd.R_alloc | apply Kd.R_drewN | apply Kd.R_drew)); exact HO_9.out⟩, ⟨by (with_reducible repeat (first | apply Kd.R_alloc | apply Kd.R_drewN | apply Kd.R_drew)); exact HO_12.out⟩, ⟨by repeat (first | (with_reducible first | exact HB.out | apply below_alloc | apply pw_below_drewN | apply below_drew1) | exact HB.out)⟩⟩
                                    · rw [if_neg c31] at H
                                      exact absurd H (by simp)
                                  · rw [if_neg c30] at H
                                    exact absurd H (by simp)
                              · rw [if_neg c28] at H
                                exact absurd H (by simp)
                            · rw [if_neg c27] at H
                              exact absurd H (by simp)
                          · rw [if_neg c26] at H
                            have c26b0 : decide (x15_4 < (Int.tmod (wrap64 (a0)) 20)) = false := decide_eq_false c26
                            clear c26
                            by_cases c32 : t376 = 0
                            · rw [if_pos c32] at H
                              have c32b0 : (t376 == 0) = true := beq_iff_eq.mpr c32
                              have c32b1 : (t376 != 0) = false := bne_eq_false_iff_eq.mpr c32
                              clear c32
                              by_cases c33 : t375 = true
                              · subst c33
                                have H1 : (none) = some r := by rw [if_pos rfl] at H; exact H
                                clear H
                                have H := H1
                                clear H1
                                exact absurd H (by simp)
                              · replace c33 := Bool.eq_false_iff.mpr c33
                                subst c33
                                have H1 : ((crossroadslaw5_same.f k4 t369 t374).bind fun t382 => (some t382)) = some r := by rw [if_neg (show ¬ (false = true) by decide)] at H; exact H
                                clear H
                                have H := H1
                                clear H1
                                replace H := Option.bind_eq_some_iff.mp H
                                obtain ⟨t382, A340, H⟩ := H
                                replace H : (some t382) = some r := H
                                have A34 := Aside0.mk A340
                                clear A340
                                obtain rfl := Option.some.inj H
                                obtain ⟨Ao35, co35, eo35⟩ := Kd.R_slice HO_12.out
                                subst eo35
                                go_wp2_with (first | (go_at_call 22; (with_reducible refine (crossroadslaw5_same.calls k4 _ _ t369 _ _ t374 t382 _ ?side1 ?side2 ?side3 ?side4 A34.out).mono ?_); (case side1 => repeat (first | exact (Kd.R_reads' HO_9.out).2.2 | (with_reducible refine Kd.C_alloc ?_ _) | (with_reducible refine Kd.C_drewN ?_ _) | (with_reducible refine Kd.C_drew ?_))); (case side2 => exact (Kd.R_reads' HO_9.out).2.1); (case side3 => repeat (first | exact (Kd.R_reads' HO_12.out).2.2 | (with_reducible refine Kd.C_alloc ?_ _) | (with_reducible refine Kd.C_drewN ?_ _) | (with_reducible refine Kd.C_drew ?_))); (case side4 => exact (Kd.R_reads' HO_12.out).2.1); rintro e w' ⟨rfl, ⟨nd, rfl⟩⟩; (try first | exact ⟨rfl, _, World.drewN_drewN _ _ _⟩ | exact ⟨rfl, _, Eq.trans (World.drewN_drewN _ _ _) (congrArg (World.drewN _) (Nat.add_assoc _ _ _))⟩)))
                                repeat (go_quiet (first | (go_at_call 22; (with_reducible refine (crossroadslaw5_same.calls k4 _ _ t369 _ _ t374 t382 _ ?side1 ?side2 ?side3 ?side4 A34.out).mono ?_); (case side1 => repeat (first | exact (Kd.R_reads' HO_9.out).2.2 | (with_reducible refine Kd.C_alloc ?_ _) | (with_reducible refine Kd.C_drewN ?_ _) | (with_reducible refine Kd.C_drew ?_))); (case side2 => exact (Kd.R_reads' HO_9.out).2.1); (case side3 => repeat (first | exact (Kd.R_reads' HO_12.out).2.2 | (with_reducible refine Kd.C_alloc ?_ _) | (with_reducible refine Kd.C_drewN ?_ _) | (with_reducible refine Kd.C_drew ?_))); (case side4 => exact (Kd.R_reads' HO_12.out).2.1); rintro e w' ⟨rfl, ⟨nd, rfl⟩⟩; (try first | exact ⟨rfl, _, World.drewN_drewN _ _ _⟩ | exact ⟨rfl, _, Eq.trans (World.drewN_drewN _ _ _) (congrArg (World.drewN _) (Nat.add_assoc _ _ _))⟩))); try go_wp2_with (first | (go_at_call 22; (with_reducible refine (crossroadslaw5_same.calls k4 _ _ t369 _ _ t374 t382 _ ?side1 ?side2 ?side3 ?side4 A34.out).mono ?_); (case side1 => repeat (first | exact (Kd.R_reads' HO_9.out).2.2 | (with_reducible refine Kd.C_alloc ?_ _) | (with_reducible refine Kd.C_drewN ?_ _) | (with_reducible refine Kd.C_drew ?_))); (case side2 => exact (Kd.R_reads' HO_9.out).2.1); (case side3 => repeat (first | exact (Kd.R_reads' HO_12.out).2.2 | (with_reducible refine Kd.C_alloc ?_ _) | (with_reducible refine Kd.C_drewN ?_ _) | (with_reducible refine Kd.C_drew ?_))); (case side4 => exact (Kd.R_reads' HO_12.out).2.1); rintro e w' ⟨rfl, ⟨nd, rfl⟩⟩; (try first | exact ⟨rfl, _, World.drewN_drewN _ _ _⟩ | exact ⟨rfl, _, Eq.trans (World.drewN_drewN _ _ _) (congrArg (World.drewN _) (Nat.add_assoc _ _ _))⟩))))
                                go_ret
                                exact ⟨by first | rfl | (simp [errW_none, errW_some] <;> rfl) | (simp [*, errW_none, errW_some] <;> rfl), by repeat (first | (with_reducible first | exact HB.out | apply below_alloc | apply pw_below_drewN | apply below_drew1) | exact HB.out)⟩
                            · rw [if_neg c32] at H
                              exact absurd H (by simp)
  · replace c5 := Bool.eq_false_iff.mpr c5
    subst c5
    have H1 : (none) = some r := by rw [if_neg (show ¬ (false = true) by decide)] at H; exact H
    clear H
    have H := H1
    clear H1
    exact absurd H (by simp)

/-- THE ONE PURE STATEMENT of crossroadslaw5_UnitGoes. -/
def crossroadslaw5_UnitGoes.Pure : Prop := ∀ (a0 : Int) (l1 : List (List Int)) (l2 : List Int), (Lit.int .u8 a0).wf = true → (l1.length * 24 ≤ 140737488351232 ∧ l1.length ≤ 9223372036854775807 ∧ ∀ y1_ ∈ l1, (y1_.length * 8 ≤ 140737488351232 ∧ y1_.length ≤ 9223372036854775807 ∧ ∀ y2_ ∈ y1_, (Lit.int .i64 y2_).wf = true)) → (l2.length * 8 ≤ 140737488351232 ∧ l2.length ≤ 9223372036854775807 ∧ ∀ y3_ ∈ l2, (Lit.int .i64 y3_).wf = true) → ∃ k, crossroadslaw5_UnitGoes.f k a0 l1 l2 = some true

end Go.Proofs.Ytpjnacblaipljaa.P
