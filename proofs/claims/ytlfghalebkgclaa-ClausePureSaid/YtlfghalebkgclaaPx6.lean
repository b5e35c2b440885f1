-- Laid by a program of this session (the kit's print, changed): Lean checks it.
import Derived.Test.YtlfghalebkgclaaPx0
import Derived.Test.YtlfghalebkgclaaPx1
import Derived.Test.YtlfghalebkgclaaPx2
import Derived.Test.YtlfghalebkgclaaGPure
namespace Go.Proofs.Ytlfghalebkgclaa.G
end Go.Proofs.Ytlfghalebkgclaa.G
namespace Go.Proofs.Ytlfghalebkgclaa.P
open Go.Proofs.Ytlfghalebkgclaa.G
open Go.RowKit Go.Proofs.YtlfghalebkgclaaW.PrintWords Go.Proofs.YtlfghalebkgclaaW.PrintLast Go.Proofs.YtlfghalebkgclaaW.PrintMore
attribute [local go_sem] max2_int min2_int max_two min_two max_three min_three max_four min_four   -- for this text's walks alone
set_option linter.unusedVariables false
set_option linter.unusedSimpArgs false

/-! ### crossroadslaw4_ClausePure: function 8 -/
mutual
def crossroadslaw4_ClausePure.j0 : Nat → List (List Int) → List Bool → Int → Bool → Option (Bool)
  | 0, _, _, _, _ => none
  | k + 1, x1, x2, x7, x32 => if x32 = true then (some true) else ((clause_Pure.f x7 x1).bind fun t306 => ((some (([] : List Bool) : List Bool)).bind fun y309 => (if y309.length + x2.length < 140737488355328 then (crossroadslaw4_ClausePure.l0 k x1 x2 x7 t306 (y309 ++ x2) 0) else (none))))
def crossroadslaw4_ClausePure.l0 : Nat → List (List Int) → List Bool → Int → List Int → List Bool → Int → Option (Bool)
  | 0, _, _, _, _, _, _ => none
  | k + 1, x1, x2, x7, x8, x9, x10 => if x10 < (x8.length : Int) then (if 0 ≤ x10 then (if (mx (rd x8 x10) (wrap64 (-(rd x8 x10)))) < 1 then (none) else (if (mx (rd x8 x10) (wrap64 (-(rd x8 x10)))) > x7 then (none) else (if 0 ≤ (wrap64 ((mx (rd x8 x10) (wrap64 (-(rd x8 x10)))) - 1)) then (if (wrap64 ((mx (rd x8 x10) (wrap64 (-(rd x8 x10)))) - 1)) < (x9.length : Int) then (crossroadslaw4_ClausePure.l0 k x1 x2 x7 x8 (x9.set ((wrap64 ((mx (rd x8 x10) (wrap64 (-(rd x8 x10)))) - 1)) : Int).toNat (decide ((rd x8 x10) > 0))) (wrap64 (x10 + 1))) else (none)) else (none)))) else (none)) else (crossroadslaw4_ClausePure.l1 k x1 x2 x9 0)
def crossroadslaw4_ClausePure.l1 : Nat → List (List Int) → List Bool → List Bool → Int → Option (Bool)
  | 0, _, _, _, _ => none
  | k + 1, x1, x2, x9, x12 => if x12 < (x1.length : Int) then (if 0 ≤ x12 then (if x12 ≤ (wrap64 (x12 + 1)) then (if (wrap64 (x12 + 1)) ≤ (x1.length : Int) then ((crossroadsref1_Eval.f k ((x1.take ((wrap64 (x12 + 1)) : Int).toNat).drop (x12 : Int).toNat) x2).bind fun t323 => (if t323 = true then ((crossroadsref1_Eval.f k ((x1.take ((wrap64 (x12 + 1)) : Int).toNat).drop (x12 : Int).toNat) x9).bind fun t328 => (if t328 = true then (crossroadslaw4_ClausePure.l1 k x1 x2 x9 (wrap64 (x12 + 1))) else (none))) else (crossroadslaw4_ClausePure.l1 k x1 x2 x9 (wrap64 (x12 + 1))))) else (none)) else (none)) else (none)) else (some true)
end
def crossroadslaw4_ClausePure.f (k : Nat) (a0 : Int) (l1 : List (List Int)) (l2 : List Bool) : Option (Bool) := (crossroadslaw4_awake.f k).bind fun t303 => (if t303 = true then ((crossroadslaw4_Small.f k l1 500).bind fun t304 => (if t304 = true then ((crossroadsref1_FormulaMay.f k (Int.tmod (wrap64 (a0)) 20) l1).bind fun t305 => (if t305 = true then (crossroadslaw4_ClausePure.j0 k l1 l2 (Int.tmod (wrap64 (a0)) 20) ((l2.length : Int) != (Int.tmod (wrap64 (a0)) 20))) else (crossroadslaw4_ClausePure.j0 k l1 l2 (Int.tmod (wrap64 (a0)) 20) true))) else (crossroadslaw4_ClausePure.j0 k l1 l2 (Int.tmod (wrap64 (a0)) 20) true))) else (none))
theorem crossroadslaw4_ClausePure.mono_l : ∀ k, (∀ y0 y1 y2 y3, LeO (crossroadslaw4_ClausePure.j0 k y0 y1 y2 y3) (crossroadslaw4_ClausePure.j0 (k + 1) y0 y1 y2 y3)) ∧ (∀ y0 y1 y2 y3 y4 y5, LeO (crossroadslaw4_ClausePure.l0 k y0 y1 y2 y3 y4 y5) (crossroadslaw4_ClausePure.l0 (k + 1) y0 y1 y2 y3 y4 y5)) ∧ (∀ y0 y1 y2 y3, LeO (crossroadslaw4_ClausePure.l1 k y0 y1 y2 y3) (crossroadslaw4_ClausePure.l1 (k + 1) y0 y1 y2 y3))
  | 0 => ⟨fun _ _ _ _ r h => by simp [crossroadslaw4_ClausePure.j0] at h, fun _ _ _ _ _ _ r h => by simp [crossroadslaw4_ClausePure.l0] at h, fun _ _ _ _ r h => by simp [crossroadslaw4_ClausePure.l1] at h⟩
  | k + 1 => by
    obtain ⟨ih0, ih1, ih2⟩ := crossroadslaw4_ClausePure.mono_l k
    refine ⟨?_, ?_, ?_⟩
    · intro y0 y1 y2 y3
      unfold crossroadslaw4_ClausePure.j0
      repeat' first
      | (with_reducible exact ih0 _ _ _ _)
      | (with_reducible exact ih1 _ _ _ _ _ _)
      | (with_reducible exact ih2 _ _ _ _)
      | (with_reducible exact crossroadslaw4_Small.mono _ _ _)
      | (with_reducible exact crossroadslaw4_awake.mono _)
      | (with_reducible exact crossroadsref1_Eval.mono _ _ _)
      | (with_reducible exact crossroadsref1_FormulaMay.mono _ _ _)
      | (with_reducible exact LeO.refl _)
      | (with_reducible exact LeO.none _)
      | (with_reducible refine LeO.ite ?_ ?_)
      | (with_reducible refine LeO.bind ?_ (fun _ => ?_))
      | exact ih0 _ _ _ _
      | exact ih1 _ _ _ _ _ _
      | exact ih2 _ _ _ _
      | exact crossroadslaw4_Small.mono _ _ _
      | exact crossroadslaw4_awake.mono _
      | exact crossroadsref1_Eval.mono _ _ _
      | exact crossroadsref1_FormulaMay.mono _ _ _
      | exact LeO.none _
      | refine LeO.ite ?_ ?_
      | refine LeO.bind ?_ (fun _ => ?_)
    · intro y0 y1 y2 y3 y4 y5
      unfold crossroadslaw4_ClausePure.l0
      repeat' first
      | (with_reducible exact ih0 _ _ _ _)
      | (with_reducible exact ih1 _ _ _ _ _ _)
      | (with_reducible exact ih2 _ _ _ _)
      | (with_reducible exact crossroadslaw4_Small.mono _ _ _)
      | (with_reducible exact crossroadslaw4_awake.mono _)
      | (with_reducible exact crossroadsref1_Eval.mono _ _ _)
      | (with_reducible exact crossroadsref1_FormulaMay.mono _ _ _)
      | (with_reducible exact LeO.refl _)
      | (with_reducible exact LeO.none _)
      | (with_reducible refine LeO.ite ?_ ?_)
      | (with_reducible refine LeO.bind ?_ (fun _ => ?_))
      | exact ih0 _ _ _ _
      | exact ih1 _ _ _ _ _ _
      | exact ih2 _ _ _ _
      | exact crossroadslaw4_Small.mono _ _ _
      | exact crossroadslaw4_awake.mono _
      | exact crossroadsref1_Eval.mono _ _ _
      | exact crossroadsref1_FormulaMay.mono _ _ _
      | exact LeO.none _
      | refine LeO.ite ?_ ?_
      | refine LeO.bind ?_ (fun _ => ?_)
    · intro y0 y1 y2 y3
      unfold crossroadslaw4_ClausePure.l1
      repeat' first
      | (with_reducible exact ih0 _ _ _ _)
      | (with_reducible exact ih1 _ _ _ _ _ _)
      | (with_reducible exact ih2 _ _ _ _)
      | (with_reducible exact crossroadslaw4_Small.mono _ _ _)
      | (with_reducible exact crossroadslaw4_awake.mono _)
      | (with_reducible exact crossroadsref1_Eval.mono _ _ _)
      | (with_reducible exact crossroadsref1_FormulaMay.mono _ _ _)
      | (with_reducible exact LeO.refl _)
      | (with_reducible exact LeO.none _)
      | (with_reducible refine LeO.ite ?_ ?_)
      | (with_reducible refine LeO.bind ?_ (fun _ => ?_))
      | exact ih0 _ _ _ _
      | exact ih1 _ _ _ _ _ _
      | exact ih2 _ _ _ _
      | exact crossroadslaw4_Small.mono _ _ _
      | exact crossroadslaw4_awake.mono _
      | exact crossroadsref1_Eval.mono _ _ _
      | exact crossroadsref1_FormulaMay.mono _ _ _
      | exact LeO.none _
      | refine LeO.ite ?_ ?_
      | refine LeO.bind ?_ (fun _ => ?_)
theorem crossroadslaw4_ClausePure.mono : ∀ a0 a1 a2 k, LeO (crossroadslaw4_ClausePure.f k a0 a1 a2) (crossroadslaw4_ClausePure.f (k + 1) a0 a1 a2) := by
  intro a0 a1 a2 k
  obtain ⟨ih0, ih1, ih2⟩ := crossroadslaw4_ClausePure.mono_l k
  unfold crossroadslaw4_ClausePure.f
  repeat' first
      | (with_reducible exact ih0 _ _ _ _)
      | (with_reducible exact ih1 _ _ _ _ _ _)
      | (with_reducible exact ih2 _ _ _ _)
      | (with_reducible exact crossroadslaw4_Small.mono _ _ _)
      | (with_reducible exact crossroadslaw4_awake.mono _)
      | (with_reducible exact crossroadsref1_Eval.mono _ _ _)
      | (with_reducible exact crossroadsref1_FormulaMay.mono _ _ _)
      | (with_reducible exact LeO.refl _)
      | (with_reducible exact LeO.none _)
      | (with_reducible refine LeO.ite ?_ ?_)
      | (with_reducible refine LeO.bind ?_ (fun _ => ?_))
      | exact ih0 _ _ _ _
      | exact ih1 _ _ _ _ _ _
      | exact ih2 _ _ _ _
      | exact crossroadslaw4_Small.mono _ _ _
      | exact crossroadslaw4_awake.mono _
      | exact crossroadsref1_Eval.mono _ _ _
      | exact crossroadsref1_FormulaMay.mono _ _ _
      | exact LeO.none _
      | refine LeO.ite ?_ ?_
      | refine LeO.bind ?_ (fun _ => ?_)
set_option maxHeartbeats 8000000 in
set_option maxRecDepth 100000 in
theorem crossroadslaw4_ClausePure.calls (k : Nat) (a0 : Int) (A1 : Option Addr) (c1 : Nat) (l1 : List (List Int)) (A2 : Option Addr) (c2 : Nat) (l2 : List Bool) (r : Bool) (w : World) (hr1 : Kd.C (Kd.slice 3 (Kd.int .i64)) w A1 l1.length l1) (hc1 : l1.length ≤ c1) (hr2 : Kd.C Kd.bool w A2 l2.length l2) (hc2 : l2.length ≤ c2) (h : crossroadslaw4_ClausePure.f k a0 l1 l2 = some r) :
    Calls Try.prog 8 #[.int .u8 a0, .slice A1 l1.length c1, .slice A2 l2.length c2] w fun e w' => e = .returned (.bool r) ∧ Below w.heap.size w w' := by
  have HR1 := Aside0.mk hr1
  have HC1 := Aside0.mk hc1
  clear hr1 hc1
  have HR2 := Aside0.mk hr2
  have HC2 := Aside0.mk hc2
  clear hr2 hc2
  have HB := Aside0.mk (Below.refl w.heap.size w)
  have H : ((crossroadslaw4_awake.f k).bind fun t303 => (if t303 = true then ((crossroadslaw4_Small.f k l1 500).bind fun t304 => (if t304 = true then ((crossroadsref1_FormulaMay.f k (Int.tmod (wrap64 (a0)) 20) l1).bind fun t305 => (if t305 = true then (crossroadslaw4_ClausePure.j0 k l1 l2 (Int.tmod (wrap64 (a0)) 20) ((l2.length : Int) != (Int.tmod (wrap64 (a0)) 20))) else (crossroadslaw4_ClausePure.j0 k l1 l2 (Int.tmod (wrap64 (a0)) 20) true))) else (crossroadslaw4_ClausePure.j0 k l1 l2 (Int.tmod (wrap64 (a0)) 20) true))) else (none))) = some r := h
  clear h
  replace H := Option.bind_eq_some_iff.mp H
  obtain ⟨t303, A40, H⟩ := H
  replace H : (if t303 = true then ((crossroadslaw4_Small.f k l1 500).bind fun t304 => (if t304 = true then ((crossroadsref1_FormulaMay.f k (Int.tmod (wrap64 (a0)) 20) l1).bind fun t305 => (if t305 = true then (crossroadslaw4_ClausePure.j0 k l1 l2 (Int.tmod (wrap64 (a0)) 20) ((l2.length : Int) != (Int.tmod (wrap64 (a0)) 20))) else (crossroadslaw4_ClausePure.j0 k l1 l2 (Int.tmod (wrap64 (a0)) 20) true))) else (crossroadslaw4_ClausePure.j0 k l1 l2 (Int.tmod (wrap64 (a0)) 20) true))) else (none)) = some r := H
  have A4 := Aside0.mk A40
  clear A40
  by_cases c5 : t303 = true
  · subst c5
    have H1 : ((crossroadslaw4_Small.f k l1 500).bind fun t304 => (if t304 = true then ((crossroadsref1_FormulaMay.f k (Int.tmod (wrap64 (a0)) 20) l1).bind fun t305 => (if t305 = true then (crossroadslaw4_ClausePure.j0 k l1 l2 (Int.tmod (wrap64 (a0)) 20) ((l2.length : Int) != (Int.tmod (wrap64 (a0)) 20))) else (crossroadslaw4_ClausePure.j0 k l1 l2 (Int.tmod (wrap64 (a0)) 20) true))) else (crossroadslaw4_ClausePure.j0 k l1 l2 (Int.tmod (wrap64 (a0)) 20) true))) = some r := by rw [if_pos rfl] at H; exact H
    clear H
    have H := H1
    clear H1
    have HC6 := Aside0.mk H
    clear H
    go_enter Try.func8, Try.ntmps8
    go_upto_region 4 with (first | (go_at_call 9; (with_reducible refine (crossroadslaw4_awake.calls k  true _ A4.out).mono ?_); rintro e w7 ⟨rfl, hb⟩; have n0_ := Aside0.mk (below_step (by repeat (first | (with_reducible first | exact HB.out | apply below_alloc | apply pw_below_drewN | apply below_drew1) | exact HB.out)) hb); clear HB; have HB := n0_; clear n0_; (try clear hb); (try clear hb2); (try clear hk); (try clear hi)))
    repeat (go_quiet (first | (go_at_call 9; (with_reducible refine (crossroadslaw4_awake.calls k  true _ A4.out).mono ?_); rintro e w7 ⟨rfl, hb⟩; have n0_ := Aside0.mk (below_step (by repeat (first | (with_reducible first | exact HB.out | apply below_alloc | apply pw_below_drewN | apply below_drew1) | exact HB.out)) hb); clear HB; have HB := n0_; clear n0_; (try clear hb); (try clear hb2); (try clear hk); (try clear hi))); go_upto_region 4 with (first | (go_at_call 9; (with_reducible refine (crossroadslaw4_awake.calls k  true _ A4.out).mono ?_); rintro e w7 ⟨rfl, hb⟩; have n0_ := Aside0.mk (below_step (by repeat (first | (with_reducible first | exact HB.out | apply below_alloc | apply pw_below_drewN | apply below_drew1) | exact HB.out)) hb); clear HB; have HB := n0_; clear n0_; (try clear hb); (try clear hb2); (try clear hk); (try clear hi))))
    (try simp only [Act.put, List.setIfInBounds_toArray, List.set_cons_zero, List.set_cons_succ])
    go_cut [32] (fun v32 wc => ∃ (kq : Nat) (x32_5 : Bool), v32 = .bool x32_5 ∧ Aside0 (crossroadslaw4_ClausePure.j0 kq l1 l2 (Int.tmod (wrap64 (a0)) 20) x32_5 = some r) ∧ Aside0 (kq ≤ k) ∧ Aside0 (Below w.heap.size w wc))
    case first =>
      have H := HC6.out
      clear HC6
      replace H := Option.bind_eq_some_iff.mp H
      obtain ⟨t304, A80, H⟩ := H
      replace H : (if t304 = true then ((crossroadsref1_FormulaMay.f k (Int.tmod (wrap64 (a0)) 20) l1).bind fun t305 => (if t305 = true then (crossroadslaw4_ClausePure.j0 k l1 l2 (Int.tmod (wrap64 (a0)) 20) ((l2.length : Int) != (Int.tmod (wrap64 (a0)) 20))) else (crossroadslaw4_ClausePure.j0 k l1 l2 (Int.tmod (wrap64 (a0)) 20) true))) else (crossroadslaw4_ClausePure.j0 k l1 l2 (Int.tmod (wrap64 (a0)) 20) true)) = some r := H
      have A8 := Aside0.mk A80
      clear A80
      by_cases c9 : t304 = true
      · subst c9
        have H1 : ((crossroadsref1_FormulaMay.f k (Int.tmod (wrap64 (a0)) 20) l1).bind fun t305 => (if t305 = true then (crossroadslaw4_ClausePure.j0 k l1 l2 (Int.tmod (wrap64 (a0)) 20) ((l2.length : Int) != (Int.tmod (wrap64 (a0)) 20))) else (crossroadslaw4_ClausePure.j0 k l1 l2 (Int.tmod (wrap64 (a0)) 20) true))) = some r := by rw [if_pos rfl] at H; exact H
        clear H
        have H := H1
        clear H1
        replace H := Option.bind_eq_some_iff.mp H
        obtain ⟨t305, A100, H⟩ := H
        replace H : (if t305 = true then (crossroadslaw4_ClausePure.j0 k l1 l2 (Int.tmod (wrap64 (a0)) 20) ((l2.length : Int) != (Int.tmod (wrap64 (a0)) 20))) else (crossroadslaw4_ClausePure.j0 k l1 l2 (Int.tmod (wrap64 (a0)) 20) true)) = some r := H
        have A10 := Aside0.mk A100
        clear A100
        by_cases c11 : t305 = true
        · subst c11
          have H1 : (crossroadslaw4_ClausePure.j0 k l1 l2 (Int.tmod (wrap64 (a0)) 20) ((l2.length : Int) != (Int.tmod (wrap64 (a0)) 20))) = some r := by rw [if_pos rfl] at H; exact H
          clear H
          have H := H1
          clear H1
          have H' := Aside0.mk H
          clear H
          go_wp2_with (first | (go_at_call 14; (with_reducible refine (crossroadslaw4_Small.calls k _ _ l1 500 true _ ?side1 ?side2 A8.out).mono ?_); (case side1 => repeat (first | exact (Kd.C_below HR1.out HB.out) | (with_reducible refine Kd.C_alloc ?_ _) | (with_reducible refine Kd.C_drewN ?_ _) | (with_reducible refine Kd.C_drew ?_))); (case side2 => exact HC1.out); rintro e w' ⟨rfl, ⟨nd, rfl⟩⟩; (try first | exact ⟨rfl, _, World.drewN_drewN _ _ _⟩ | exact ⟨rfl, _, Eq.trans (World.drewN_drewN _ _ _) (congrArg (World.drewN _) (Nat.add_assoc _ _ _))⟩)) | (go_at_call 16; (with_reducible refine (crossroadsref1_FormulaMay.calls k (Int.tmod (wrap64 (a0)) 20) _ _ l1 true _ ?side1 ?side2 A10.out).mono ?_); (case side1 => repeat (first | exact (Kd.C_below HR1.out (by repeat (first | (with_reducible first | exact HB.out | apply below_alloc | apply pw_below_drewN | apply below_drew1) | exact HB.out))) | (with_reducible refine Kd.C_alloc ?_ _) | (with_reducible refine Kd.C_drewN ?_ _) | (with_reducible refine Kd.C_drew ?_))); (case side2 => exact HC1.out); rintro e w' ⟨rfl, ⟨nd, rfl⟩⟩; (try first | exact ⟨rfl, _, World.drewN_drewN _ _ _⟩ | exact ⟨rfl, _, Eq.trans (World.drewN_drewN _ _ _) (congrArg (World.drewN _) (Nat.add_assoc _ _ _))⟩)))
          repeat (go_quiet (first | (go_at_call 14; (with_reducible refine (crossroadslaw4_Small.calls k _ _ l1 500 true _ ?side1 ?side2 A8.out).mono ?_); (case side1 => repeat (first | exact (Kd.C_below HR1.out HB.out) | (with_reducible refine Kd.C_alloc ?_ _) | (with_reducible refine Kd.C_drewN ?_ _) | (with_reducible refine Kd.C_drew ?_))); (case side2 => exact HC1.out); rintro e w' ⟨rfl, ⟨nd, rfl⟩⟩; (try first | exact ⟨rfl, _, World.drewN_drewN _ _ _⟩ | exact ⟨rfl, _, Eq.trans (World.drewN_drewN _ _ _) (congrArg (World.drewN _) (Nat.add_assoc _ _ _))⟩)) | (go_at_call 16; (with_reducible refine (crossroadsref1_FormulaMay.calls k (Int.tmod (wrap64 (a0)) 20) _ _ l1 true _ ?side1 ?side2 A10.out).mono ?_); (case side1 => repeat (first | exact (Kd.C_below HR1.out (by repeat (first | (with_reducible first | exact HB.out | apply below_alloc | apply pw_below_drewN | apply below_drew1) | exact HB.out))) | (with_reducible refine Kd.C_alloc ?_ _) | (with_reducible refine Kd.C_drewN ?_ _) | (with_reducible refine Kd.C_drew ?_))); (case side2 => exact HC1.out); rintro e w' ⟨rfl, ⟨nd, rfl⟩⟩; (try first | exact ⟨rfl, _, World.drewN_drewN _ _ _⟩ | exact ⟨rfl, _, Eq.trans (World.drewN_drewN _ _ _) (congrArg (World.drewN _) (Nat.add_assoc _ _ _))⟩))); try go_wp2_with (first | (go_at_call 14; (with_reducible refine (crossroadslaw4_Small.calls k _ _ l1 500 true _ ?side1 ?side2 A8.out).mono ?_); (case side1 => repeat (first | exact (Kd.C_below HR1.out HB.out) | (with_reducible refine Kd.C_alloc ?_ _) | (with_reducible refine Kd.C_drewN ?_ _) | (with_reducible refine Kd.C_drew ?_))); (case side2 => exact HC1.out); rintro e w' ⟨rfl, ⟨nd, rfl⟩⟩; (try first | exact ⟨rfl, _, World.drewN_drewN _ _ _⟩ | exact ⟨rfl, _, Eq.trans (World.drewN_drewN _ _ _) (congrArg (World.drewN _) (Nat.add_assoc _ _ _))⟩)) | (go_at_call 16; (with_reducible refine (crossroadsref1_FormulaMay.calls k (Int.tmod (wrap64 (a0)) 20) _ _ l1 true _ ?side1 ?side2 A10.out).mono ?_); (case side1 => repeat (first | exact (Kd.C_below HR1.out (by repeat (first | (with_reducible first | exact HB.out | apply below_alloc | apply pw_below_drewN | apply below_drew1) | exact HB.out))) | (with_reducible refine Kd.C_alloc ?_ _) | (with_reducible refine Kd.C_drewN ?_ _) | (with_reducible refine Kd.C_drew ?_))); (case side2 => exact HC1.out); rintro e w' ⟨rfl, ⟨nd, rfl⟩⟩; (try first | exact ⟨rfl, _, World.drewN_drewN _ _ _⟩ | exact ⟨rfl, _, Eq.trans (World.drewN_drewN _ _ _) (congrArg (World.drewN _) (Nat.add_assoc _ _ _))⟩))))
          go_meet
          case rel => exact ⟨_, (((l2.length : Int) != (Int.tmod (wrap64 (a0)) 20))), (by first | rfl | (simp; done) | (simp [*]; done)), H', ⟨by first | omega | exact Nat.le_refl _⟩, ⟨by repeat (first | (with_reducible first | exact HB.out | apply below_alloc | apply pw_below_drewN | apply below_drew1) | exact HB.out)⟩⟩
        · replace c11 := Bool.eq_false_iff.mpr c11
          subst c11
          have H1 : (crossroadslaw4_ClausePure.j0 k l1 l2 (Int.tmod (wrap64 (a0)) 20) true) = some r := by rw [if_neg (show ¬ (false = true) by decide)] at H; exact H
          clear H
          have H := H1
          clear H1
          have H' := Aside0.mk H
          clear H
          go_wp2_with (first | (go_at_call 14; (with_reducible refine (crossroadslaw4_Small.calls k _ _ l1 500 true _ ?side1 ?side2 A8.out).mono ?_); (case side1 => repeat (first | exact (Kd.C_below HR1.out HB.out) | (with_reducible refine Kd.C_alloc ?_ _) | (with_reducible refine Kd.C_drewN ?_ _) | (with_reducible refine Kd.C_drew ?_))); (case side2 => exact HC1.out); rintro e w' ⟨rfl, ⟨nd, rfl⟩⟩; (try first | exact ⟨rfl, _, World.drewN_drewN _ _ _⟩ | exact ⟨rfl, _, Eq.trans (World.drewN_drewN _ _ _) (congrArg (World.drewN _) (Nat.add_assoc _ _ _))⟩)) | (go_at_call 16; (with_reducible refine (crossroadsref1_FormulaMay.calls k (Int.tmod (wrap64 (a0)) 20) _ _ l1 false _ ?side1 ?side2 A10.out).mono ?_); (case side1 => repeat (first | exact (Kd.C_below HR1.out (by repeat (first | (with_reducible first | exact HB.out | apply below_alloc | apply pw_below_drewN | apply below_drew1) | exact HB.out))) | (with_reducible refine Kd.C_alloc ?_ _) | (with_reducible refine Kd.C_drewN ?_ _) | (with_reducible refine Kd.C_drew ?_))); (case side2 => exact HC1.out); rintro e w' ⟨rfl, ⟨nd, rfl⟩⟩; (try first | exact ⟨rfl, _, World.drewN_drewN _ _ _⟩ | exact ⟨rfl, _, Eq.trans (World.drewN_drewN _ _ _) (congrArg (World.drewN _) (Nat.add_assoc _ _ _))⟩)))
          repeat (go_quiet (first | (go_at_call 14; (with_reducible refine (crossroadslaw4_Small.calls k _ _ l1 500 true _ ?side1 ?side2 A8.out).mono ?_); (case side1 => repeat (first | exact (Kd.C_below HR1.out HB.out) | (with_reducible refine Kd.C_alloc ?_ _) | (with_reducible refine Kd.C_drewN ?_ _) | (with_reducible refine Kd.C_drew ?_))); (case side2 => exact HC1.out); rintro e w' ⟨rfl, ⟨nd, rfl⟩⟩; (try first | exact ⟨rfl, _, World.drewN_drewN _ _ _⟩ | exact ⟨rfl, _, Eq.trans (World.drewN_drewN _ _ _) (congrArg (World.drewN _) (Nat.add_assoc _ _ _))⟩)) | (go_at_call 16; (with_reducible refine (crossroadsref1_FormulaMay.calls k (Int.tmod (wrap64 (a0)) 20) _ _ l1 false _ ?side1 ?side2 A10.out).mono ?_); (case side1 => repeat (first | exact (Kd.C_below HR1.out (by repeat (first | (with_reducible first | exact HB.out | apply below_alloc | apply pw_below_drewN | apply below_drew1) | exact HB.out))) | (with_reducible refine Kd.C_alloc ?_ _) | (with_reducible refine Kd.C_drewN ?_ _) | (with_reducible refine Kd.C_drew ?_))); (case side2 => exact HC1.out); rintro e w' ⟨rfl, ⟨nd, rfl⟩⟩; (try first | exact ⟨rfl, _, World.drewN_drewN _ _ _⟩ | exact ⟨rfl, _, Eq.trans (World.drewN_drewN _ _ _) (congrArg (World.drewN _) (Nat.add_assoc _ _ _))⟩))); try go_wp2_with (first | (go_at_call 14; (with_reducible refine (crossroadslaw4_Small.calls k _ _ l1 500 true _ ?side1 ?side2 A8.out).mono ?_); (case side1 => repeat (first | exact (Kd.C_below HR1.out HB.out) | (with_reducible refine Kd.C_alloc ?_ _) | (with_reducible refine Kd.C_drewN ?_ _) | (with_reducible refine Kd.C_drew ?_))); (case side2 => exact HC1.out); rintro e w' ⟨rfl, ⟨nd, rfl⟩⟩; (try first | exact ⟨rfl, _, World.drewN_drewN _ _ _⟩ | exact ⟨rfl, _, Eq.trans (World.drewN_drewN _ _ _) (congrArg (World.drewN _) (Nat.add_assoc _ _ _))⟩)) | (go_at_call 16; (with_reducible refine (crossroadsref1_FormulaMay.calls k (Int.tmod (wrap64 (a0)) 20) _ _ l1 false _ ?side1 ?side2 A10.out).mono ?_); (case side1 => repeat (first | exact (Kd.C_below HR1.out (by repeat (first | (with_reducible first | exact HB.out | apply below_alloc | apply pw_below_drewN | apply below_drew1) | exact HB.out))) | (with_reducible refine Kd.C_alloc ?_ _) | (with_reducible refine Kd.C_drewN ?_ _) | (with_reducible refine Kd.C_drew ?_))); (case side2 => exact HC1.out); rintro e w' ⟨rfl, ⟨nd, rfl⟩⟩; (try first | exact ⟨rfl, _, World.drewN_drewN _ _ _⟩ | exact ⟨rfl, _, Eq.trans (World.drewN_drewN _ _ _) (congrArg (World.drewN _) (Nat.add_assoc _ _ _))⟩))))
          go_meet
          case rel => exact ⟨_, (true), (by first | rfl | (simp; done) | (simp [*]; done)), H', ⟨by first | omega | exact Nat.le_refl _⟩, ⟨by repeat (first | (with_reducible first | exact HB.out | apply below_alloc | apply pw_below_drewN | apply below_drew1) | exact HB.out)⟩⟩
      · replace c9 := Bool.eq_false_iff.mpr c9
        subst c9
        have H1 : (crossroadslaw4_ClausePure.j0 k l1 l2 (Int.tmod (wrap64 (a0)) 20) true) = some r := by rw [if_neg (show ¬ (false = true) by decide)] at H; exact H
        clear H
        have H := H1
        clear H1
        have H' := Aside0.mk H
        clear H
        go_wp2_with (first | (go_at_call 14; (with_reducible refine (crossroadslaw4_Small.calls k _ _ l1 500 false _ ?side1 ?side2 A8.out).mono ?_); (case side1 => repeat (first | exact (Kd.C_below HR1.out HB.out) | (with_reducible refine Kd.C_alloc ?_ _) | (with_reducible refine Kd.C_drewN ?_ _) | (with_reducible refine Kd.C_drew ?_))); (case side2 => exact HC1.out); rintro e w' ⟨rfl, ⟨nd, rfl⟩⟩; (try first | exact ⟨rfl, _, World.drewN_drewN _ _ _⟩ | exact ⟨rfl, _, Eq.trans (World.drewN_drewN _ _ _) (congrArg (World.drewN _) (Nat.add_assoc _ _ _))⟩)))
        repeat (go_quiet (first | (go_at_call 14; (with_reducible refine (crossroadslaw4_Small.calls k _ _ l1 500 false _ ?side1 ?side2 A8.out).mono ?_); (case side1 => repeat (first | exact (Kd.C_below HR1.out HB.out) | (with_reducible refine Kd.C_alloc ?_ _) | (with_reducible refine Kd.C_drewN ?_ _) | (with_reducible refine Kd.C_drew ?_))); (case side2 => exact HC1.out); rintro e w' ⟨rfl, ⟨nd, rfl⟩⟩; (try first | exact ⟨rfl, _, World.drewN_drewN _ _ _⟩ | exact ⟨rfl, _, Eq.trans (World.drewN_drewN _ _ _) (congrArg (World.drewN _) (Nat.add_assoc _ _ _))⟩))); try go_wp2_with (first | (go_at_call 14; (with_reducible refine (crossroadslaw4_Small.calls k _ _ l1 500 false _ ?side1 ?side2 A8.out).mono ?_); (case side1 => repeat (first | exact (Kd.C_below HR1.out HB.out) | (with_reducible refine Kd.C_alloc ?_ _) | (with_reducible refine Kd.C_drewN ?_ _) | (with_reducible refine Kd.C_drew ?_))); (case side2 => exact HC1.out); rintro e w' ⟨rfl, ⟨nd, rfl⟩⟩; (try first | exact ⟨rfl, _, World.drewN_drewN _ _ _⟩ | exact ⟨rfl, _, Eq.trans (World.drewN_drewN _ _ _) (congrArg (World.drewN _) (Nat.add_assoc _ _ _))⟩))))
        go_meet
        case rel => exact ⟨_, (true), (by first | rfl | (simp; done) | (simp [*]; done)), H', ⟨by first | omega | exact Nat.le_refl _⟩, ⟨by repeat (first | (with_reducible first | exact HB.out | apply below_alloc | apply pw_below_drewN | apply below_drew1) | exact HB.out)⟩⟩
    case rest =>
      clear HC6
      try clear c1
      try clear c2
      try clear p2
      try clear c5
      try clear p6
      try clear c8
      try clear c9
      try clear c11
      obtain ⟨kq, x32_5, rfl, HA, HJ5, HB⟩ := hcut
      cases kq with
      | zero => exact absurd HA.out (by simp [crossroadslaw4_ClausePure.j0])
      | succ kj5 =>
        have H := HA.out
        clear HA
        simp only [crossroadslaw4_ClausePure.j0] at H
        by_cases c12 : x32_5 = true
        · subst c12
          have H1 : (some true) = some r := by rw [if_pos rfl] at H; exact H
          clear H
          have H := H1
          clear H1
          obtain rfl := Option.some.inj H
          go_wp2
          repeat (go_quiet (fail); try go_wp2)
          go_ret
          exact ⟨by first | rfl | (simp [errW_none, errW_some] <;> rfl) | (simp [*, errW_none, errW_some] <;> rfl), by repeat (first | (with_reducible first | exact HB.out | apply below_alloc | apply pw_below_drewN | apply below_drew1) | exact HB.out)⟩
        · replace c12 := Bool.eq_false_iff.mpr c12
          subst c12
          have H1 : ((clause_Pure.f (Int.tmod (wrap64 (a0)) 20) l1).bind fun t306 => ((some (([] : List Bool) : List Bool)).bind fun y309 => (if y309.length + l2.length < 140737488355328 then (crossroadslaw4_ClausePure.l0 kj5 l1 l2 (Int.tmod (wrap64 (a0)) 20) t306 (y309 ++ l2) 0) else (none)))) = some r := by rw [if_neg (show ¬ (false = true) by decide)] at H; exact H
          clear H
          have H := H1
          clear H1
          replace H := Option.bind_eq_some_iff.mp H
          obtain ⟨t306, A130, H⟩ := H
          replace H : ((some (([] : List Bool) : List Bool)).bind fun y309 => (if y309.length + l2.length < 140737488355328 then (crossroadslaw4_ClausePure.l0 kj5 l1 l2 (Int.tmod (wrap64 (a0)) 20) t306 (y309 ++ l2) 0) else (none))) = some r := H
          have A13 := Aside0.mk A130
          clear A130
          obtain ⟨y309, hy309⟩ : ∃ y_ : List Bool, y_ = (([] : List Bool)) := ⟨_, rfl⟩
          replace H : (if y309.length + l2.length < 140737488355328 then (crossroadslaw4_ClausePure.l0 kj5 l1 l2 (Int.tmod (wrap64 (a0)) 20) t306 (y309 ++ l2) 0) else (none)) = some r := by first | (rw [hy309]; with_reducible exact H) | (have H2_ := (Option.bind_some _ _).symm.trans H; rw [hy309]; with_reducible exact H2_) | (have H2_ := (Option.bind_some _ _).symm.trans H; with_reducible exact H2_) | with_reducible exact H | (rw [hy309]; exact H) | exact H
          have Ny309 := Aside0.mk hy309
          clear hy309
          by_cases c14 : y309.length + l2.length < 140737488355328
          · rw [if_pos c14] at H
            have LMc14 := Aside0.mk c14
            clear c14
            obtain ⟨y312, hy312⟩ : ∃ y_ : List Bool, y_ = (y309 ++ l2) := ⟨_, rfl⟩
            replace H : (crossroadslaw4_ClausePure.l0 kj5 l1 l2 (Int.tmod (wrap64 (a0)) 20) t306 y312 0) = some r := by first | (rw [hy312]; with_reducible exact H) | (have H2_ := (Option.bind_some _ _).symm.trans H; rw [hy312]; with_reducible exact H2_) | (have H2_ := (Option.bind_some _ _).symm.trans H; with_reducible exact H2_) | with_reducible exact H | (rw [hy312]; exact H) | exact H
            have Ny312 := Aside0.mk hy312
            clear hy312
            have H' := Aside0.mk H
            clear H
            go_wp2_with (first | (go_at_call 18; (with_reducible refine (clause_Pure.calls (Int.tmod (wrap64 (a0)) 20) _ _ l1 t306 _ ?side1 ?side2 A13.out).mono ?_); (case side1 => repeat (first | exact (Kd.C_below HR1.out HB.out) | (with_reducible refine Kd.C_alloc ?_ _) | (with_reducible refine Kd.C_drewN ?_ _) | (with_reducible refine Kd.C_drew ?_))); (case side2 => exact HC1.out); rintro e w15 ⟨v307, rfl, ho0, hb⟩; have n0_ := Aside0.mk (Kd.R_lower ho0 (below_size (by repeat (first | (with_reducible first | exact HB.out | apply below_alloc | apply pw_below_drewN | apply below_drew1) | exact HB.out)))); have n1_ := Aside0.mk (below_step (by repeat (first | (with_reducible first | exact HB.out | apply below_alloc | apply pw_below_drewN | apply below_drew1) | exact HB.out)) hb); clear HB; have HO308 := n0_; have HB := n1_; clear n0_ n1_; (try clear hb); (try clear hb2); (try clear hk); (try clear hi); (try clear ho0)) | ((with_reducible refine gate_dst (N := 36) rfl ?_); (try (refine gate_guard (by rfl) ?_; dsimp only)); refine Kd.R_lit Kd.bool _ 4 ?hg (N := 36) ?hd (xs := ([] : List Bool)) (inner := []) (ok := fun _ => True) (okp := fun _ => True) ?hr ?hp (fun _ hk => hk) trivial (Below.refl _ _) (Nat.le_refl _) (by simp) ?_; (case hd => rfl); (case hg => rfl); (case hr => first | (go_simp; done) | (go_simp; rfl)); (case hp => exact (Reps.none _ _)); intro v310 w16 ho17 hb hg_ hnew_; clear hg_ hnew_; (first | rw [← Ny309.out] at ho17 | (simp only [Int.reduceToNat] at ho17; rw [← Ny309.out] at ho17)); have n0_ := Aside0.mk (Kd.R_below (by (with_reducible repeat (first | apply Kd.R_alloc | apply Kd.R_drewN | apply Kd.R_drew)); exact HO308.out) hb); have n1_ := Aside0.mk (Kd.R_lower ho17 (below_size (by repeat (first | (with_reducible first | exact HB.out | apply below_alloc | apply pw_below_drewN | apply below_drew1) | exact HB.out)))); have n2_ := Aside0.mk (below_step (by repeat (first | (with_reducible first | exact HB.out | apply below_alloc | apply pw_below_drewN | apply below_drew1) | exact HB.out)) hb); clear HO308; clear HB; have HO308 := n0_; have HO311 := n1_; have HB := n2_; clear n0_ n1_ n2_; clear hb ho17) | ((with_reducible refine gate_builtin (b := .append) (xs := #[.tmp 36, .tmp 37]) rfl ?_); (try (refine gate_guard (by rfl) ?_; dsimp only)); at_builtin; refine Kd.R_append_rows Kd.bool (w0 := w) w.heap.size rfl (.tmp 36) (.tmp 37) 23 4 (.bool false) 1 rfl Try.underlying23 info4 rfl (by decide) (by omega) v310 y309 l2 _ _ _ (fun _ => True) (fun _ => False) rfl rfl ?aO ?aR (fun _ _ h => h) (fun _ h => h.elim) ?aF ?aB ?aS ?aL ?_; (case aR => repeat (first | exact (Kd.C_below HR2.out HB.out) | (with_reducible refine Kd.C_alloc ?_ _) | (with_reducible refine Kd.C_drewN ?_ _) | (with_reducible refine Kd.C_drew ?_))); (case aB => exact (by repeat (first | (with_reducible first | exact HB.out | apply below_alloc | apply pw_below_drewN | apply below_drew1) | exact HB.out))); (case aF => exact (fun _ _ => trivial)); (case aO => exact (by (with_reducible repeat (first | apply Kd.R_alloc | apply Kd.R_drewN | apply Kd.R_drew)); exact HO311.out)); (case aS => exact (below_size (by repeat (first | (with_reducible first | exact HB.out | apply below_alloc | apply pw_below_drewN | apply below_drew1) | exact HB.out)))); (case aL => have := LMc14.out; omega); intro v313 w18 ho hb hg hat; rw [← Ny312.out] at ho; have n0_ := Aside0.mk (Kd.R_over' (by (with_reducible repeat (first | apply Kd.R_alloc | apply Kd.R_drewN | apply Kd.R_drew)); exact HO308.out) (Kd.R_typed (by (with_reducible repeat (first | apply Kd.R_alloc | apply Kd.R_drewN | apply Kd.R_drew)); exact HO311.out)) (by decide) hg); have n1_ := Aside0.mk (hb); have n2_ := Aside0.mk (ho); clear HO308; clear HB; clear HO311; have HO308 := n0_; have HB := n1_; have HO314 := n2_; clear n0_ n1_ n2_; clear ho hb hg hat))
            repeat (go_quiet (first | (go_at_call 18; (with_reducible refine (clause_Pure.calls (Int.tmod (wrap64 (a0)) 20) _ _ l1 t306 _ ?side1 ?side2 A13.out).mono ?_); (case side1 => repeat (first | exact (Kd.C_below HR1.out HB.out) | (with_reducible refine Kd.C_alloc ?_ _) | (with_reducible refine Kd.C_drewN ?_ _) | (with_reducible refine Kd.C_drew ?_))); (case side2 => exact HC1.out); rintro e w15 ⟨v307, rfl, ho0, hb⟩; have n0_ := Aside0.mk (Kd.R_lower ho0 (below_size (by repeat (first | (with_reducible first | exact HB.out | apply below_alloc | apply pw_below_drewN | apply below_drew1) | exact HB.out)))); have n1_ := Aside0.mk (below_step (by repeat (first | (with_reducible first | exact HB.out | apply below_alloc | apply pw_below_drewN | apply below_drew1) | exact HB.out)) hb); clear HB; have HO308 := n0_; have HB := n1_; clear n0_ n1_; (try clear hb); (try clear hb2); (try clear hk); (try clear hi); (try clear ho0)) | ((with_reducible refine gate_dst (N := 36) rfl ?_); (try (refine gate_guard (by rfl) ?_; dsimp only)); refine Kd.R_lit Kd.bool _ 4 ?hg (N := 36) ?hd (xs := ([] : List Bool)) (inner := []) (ok := fun _ => True) (okp := fun _ => True) ?hr ?hp (fun _ hk => hk) trivial (Below.refl _ _) (Nat.le_refl _) (by simp) ?_; (case hd => rfl); (case hg => rfl); (case hr => first | (go_simp; done) | (go_simp; rfl)); (case hp => exact (Reps.none _ _)); intro v310 w16 ho17 hb hg_ hnew_; clear hg_ hnew_; (first | rw [← Ny309.out] at ho17 | (simp only [Int.reduceToNat] at ho17; rw [← Ny309.out] at ho17)); have n0_ := Aside0.mk (Kd.R_below (by (with_reducible repeat (first | apply Kd.R_alloc | apply Kd.R_drewN | apply Kd.R_drew)); exact HO308.out) hb); have n1_ := Aside0.mk (Kd.R_lower ho17 (below_size (by repeat (first | (with_reducible first | exact HB.out | apply below_alloc | apply pw_below_drewN | apply below_drew1) | exact HB.out)))); have n2_ := Aside0.mk (below_step (by repeat (first | (with_reducible first | exact HB.out | apply below_alloc | apply pw_below_drewN | apply below_drew1) | exact HB.out)) hb); clear HO308; clear HB; have HO308 := n0_; have HO311 := n1_; have HB := n2_; clear n0_ n1_ n2_; clear hb ho17) | ((with_reducible refine gate_builtin (b := .append) (xs := #[.tmp 36, .tmp 37]) rfl ?_); (try (refine gate_guard (by rfl) ?_; dsimp only)); at_builtin; refine Kd.R_append_rows Kd.bool (w0 := w) w.heap.size rfl (.tmp 36) (.tmp 37) 23 4 (.bool false) 1 rfl Try.underlying23 info4 rfl (by decide) (by omega) v310 y309 l2 _ _ _ (fun _ => True) (fun _ => False) rfl rfl ?aO ?aR (fun _ _ h => h) (fun _ h => h.elim) ?aF ?aB ?aS ?aL ?_; (case aR => repeat (first | exact (Kd.C_below HR2.out HB.out) | (with_reducible refine Kd.C_alloc ?_ _) | (with_reducible refine Kd.C_drewN ?_ _) | (with_reducible refine Kd.C_drew ?_))); (case aB => exact (by repeat (first | (with_reducible first | exact HB.out | apply below_alloc | apply pw_below_drewN | apply below_drew1) | exact HB.out))); (case aF => exact (fun _ _ => trivial)); (case aO => exact (by (with_reducible repeat (first | apply Kd.R_alloc | apply Kd.R_drewN | apply Kd.R_drew)); exact HO311.out)); (case aS => exact (below_size (by repeat (first | (with_reducible first | exact HB.out | apply below_alloc | apply pw_below_drewN | apply below_drew1) | exact HB.out)))); (case aL => have := LMc14.out; omega); intro v313 w18 ho hb hg hat; rw [← Ny312.out] at ho; have n0_ := Aside0.mk (Kd.R_over' (by (with_reducible repeat (first | apply Kd.R_alloc | apply Kd.R_drewN | apply Kd.R_drew)); exact HO308.out) (Kd.R_typed (by (with_reducible repeat (first | apply Kd.R_alloc | apply Kd.R_drewN | apply Kd.R_drew)); exact HO311.out)) (by decide) hg); have n1_ := Aside0.mk (hb); have n2_ := Aside0.mk (ho); clear HO308; clear HB; clear HO311; have HO308 := n0_; have HB := n1_; have HO314 := n2_; clear n0_ n1_ n2_; clear ho hb hg hat)); try go_wp2_with (first | (go_at_call 18; (with_reducible refine (clause_Pure.calls (Int.tmod (wrap64 (a0)) 20) _ _ l1 t306 _ ?side1 ?side2 A13.out).mono ?_); (case side1 => repeat (first | exact (Kd.C_below HR1.out HB.out) | (with_reducible refine Kd.C_alloc ?_ _) | (with_reducible refine Kd.C_drewN ?_ _) | (with_reducible refine Kd.C_drew ?_))); (case side2 => exact HC1.out); rintro e w15 ⟨v307, rfl, ho0, hb⟩; have n0_ := Aside0.mk (Kd.R_lower ho0 (below_size (by repeat (first | (with_reducible first | exact HB.out | apply below_alloc | apply pw_below_drewN | apply below_drew1) | exact HB.out)))); have n1_ := Aside0.mk (below_step (by repeat (first | (with_reducible first | exact HB.out | apply below_alloc | apply pw_below_drewN | apply below_drew1) | exact HB.out)) hb); clear HB; have HO308 := n0_; have HB := n1_; clear n0_ n1_; (try clear hb); (try clear hb2); (try clear hk); (try clear hi); (try clear ho0)) | ((with_reducible refine gate_dst (N := 36) rfl ?_); (try (refine gate_guard (by rfl) ?_; dsimp only)); refine Kd.R_lit Kd.bool _ 4 ?hg (N := 36) ?hd (xs := ([] : List Bool)) (inner := []) (ok := fun _ => True) (okp := fun _ => True) ?hr ?hp (fun _ hk => hk) trivial (Below.refl _ _) (Nat.le_refl _) (by simp) ?_; (case hd => rfl); (case hg => rfl); (case hr => first | (go_simp; done) | (go_simp; rfl)); (case hp => exact (Reps.none _ _)); intro v310 w16 ho17 hb hg_ hnew_; clear hg_ hnew_; (first | rw [← Ny309.out] at ho17 | (simp only [Int.reduceToNat] at ho17; rw [← Ny309.out] at ho17)); have n0_ := Aside0.mk (Kd.R_below (by (with_reducible repeat (first | apply Kd.R_alloc | apply Kd.R_drewN | apply Kd.R_drew)); exact HO308.out) hb); have n1_ := Aside0.mk (Kd.R_lower ho17 (below_size (by repeat (first | (with_reducible first | exact HB.out | apply below_alloc | apply pw_below_drewN | apply below_drew1) | exact HB.out)))); have n2_ := Aside0.mk (below_step (by repeat (first | (with_reducible first | exact HB.out | apply below_alloc | apply pw_below_drewN | apply below_drew1) | exact HB.out)) hb); clear HO308; clear HB; have HO308 := n0_; have HO311 := n1_; have HB := n2_; clear n0_ n1_ n2_; clear hb ho17) | ((with_reducible refine gate_builtin (b := .append) (xs := #[.tmp 36, .tmp 37]) rfl ?_); (try (refine gate_guard (by rfl) ?_; dsimp only)); at_builtin; refine Kd.R_append_rows Kd.bool (w0 := w) w.heap.size rfl (.tmp 36) (.tmp 37) 23 4 (.bool false) 1 rfl Try.underlying23 info4 rfl (by decide) (by omega) v310 y309 l2 _ _ _ (fun _ => True) (fun _ => False) rfl rfl ?aO ?aR (fun _ _ h => h) (fun _ h => h.elim) ?aF ?aB ?aS ?aL ?_; (case aR => repeat (first | exact (Kd.C_below HR2.out HB.out) | (with_reducible refine Kd.C_alloc ?_ _) | (with_reducible refine Kd.C_drewN ?_ _) | (with_reducible refine Kd.C_drew ?_))); (case aB => exact (by repeat (first | (with_reducible first | exact HB.out | apply below_alloc | apply pw_below_drewN | apply below_drew1) | exact HB.out))); (case aF => exact (fun _ _ => trivial)); (case aO => exact (by (with_reducible repeat (first | apply Kd.R_alloc | apply Kd.R_drewN | apply Kd.R_drew)); exact HO311.out)); (case aS => exact (below_size (by repeat (first | (with_reducible first | exact HB.out | apply below_alloc | apply pw_below_drewN | apply below_drew1) | exact HB.out)))); (case aL => have := LMc14.out; omega); intro v313 w18 ho hb hg hat; rw [← Ny312.out] at ho; have n0_ := Aside0.mk (Kd.R_over' (by (with_reducible repeat (first | apply Kd.R_alloc | apply Kd.R_drewN | apply Kd.R_drew)); exact HO308.out) (Kd.R_typed (by (with_reducible repeat (first | apply Kd.R_alloc | apply Kd.R_drewN | apply Kd.R_drew)); exact HO311.out)) (by decide) hg); have n1_ := Aside0.mk (hb); have n2_ := Aside0.mk (ho); clear HO308; clear HB; clear HO311; have HO308 := n0_; have HB := n1_; have HO314 := n2_; clear n0_ n1_ n2_; clear ho hb hg hat)))
            go_loopg [10] kj5 (fun kq v10 w' => ∃ (x9_2 : List Bool) (x10_2 : Int), v10 = .int .i64 x10_2 ∧ Aside0 (crossroadslaw4_ClausePure.l0 kq l1 l2 (Int.tmod (wrap64 (a0)) 20) t306 x9_2 x10_2 = some r) ∧ Aside0 (kq ≤ kj5) ∧ Aside0 (Kd.R (Kd.int .i64) 3 w' w.heap.size (fun _ => True) v307 t306) ∧ Aside0 (Kd.R Kd.bool 4 w' w.heap.size (fun _ => True) v313 x9_2) ∧ Aside0 (Below w.heap.size w w'))
            case atStart => exact ⟨(y312), (0), (by first | rfl | (simp; done) | (simp [*]; done)), H', ⟨Nat.le_refl _⟩, ⟨by (with_reducible repeat (first | apply Kd.R_alloc | apply Kd.R_drewN | apply Kd.R_drew)); exact HO308.out⟩, ⟨by (with_reducible repeat (first | apply Kd.R_alloc | apply Kd.R_drewN | apply Kd.R_drew)); exact HO314.out⟩, ⟨by repeat (first | (with_reducible first | exact HB.out | apply below_alloc | apply pw_below_drewN | apply below_drew1) | exact HB.out)⟩⟩
            case round =>
              clear H'
              try clear c1
              try clear c2
              try clear p2
              try clear c5
              try clear p6
              try clear c8
              try clear c9
              try clear c11
              try clear c12
              try clear c14
              try clear p2
              try clear p6
              obtain ⟨x9_2, x10_2, rfl, HA, HK2, HO_8, HO_9, HB⟩ := hrel
              cases gk with
              | zero => exact absurd HA.out (by simp [crossroadslaw4_ClausePure.l0])
              | succ k2 =>
                have H := HA.out
                clear HA
                simp only [crossroadslaw4_ClausePure.l0] at H
                by_cases c19 : x10_2 < (t306.length : Int)
                · rw [if_pos c19] at H
                  have c19b0 : decide (x10_2 < (t306.length : Int)) = true := decide_eq_true c19
                  clear c19
                  by_cases c20 : 0 ≤ x10_2
                  · rw [if_pos c20] at H
                    have c20b0 : decide (0 ≤ x10_2) = true := decide_eq_true c20
                    clear c20
                    obtain ⟨ji21, hji21⟩ : ∃ j_ : Int, (mx (rd t306 x10_2) (wrap64 (-(rd t306 x10_2)))) = j_ := ⟨_, rfl⟩
                    replace H : (if (ji21) < 1 then (none) else (if (ji21) > (Int.tmod (wrap64 (a0)) 20) then (none) else (if 0 ≤ (wrap64 ((ji21) - 1)) then (if (wrap64 ((ji21) - 1)) < (x9_2.length : Int) then (crossroadslaw4_ClausePure.l0 k2 l1 l2 (Int.tmod (wrap64 (a0)) 20) t306 (x9_2.set ((wrap64 ((ji21) - 1)) : Int).toNat (decide ((rd t306 x10_2) > 0))) (wrap64 (x10_2 + 1))) else (none)) else (none)))) = some r := by first | (rw [hji21] at H; exact H) | (simp only [hji21] at H ⊢; exact H)
                    have hji21_ : (if (rd t306 x10_2) < (wrap64 (-(rd t306 x10_2))) then (wrap64 (-(rd t306 x10_2))) else (rd t306 x10_2)) = ji21 := hji21
                    by_cases c22 : (ji21) < 1
                    · rw [if_pos c22] at H
                      exact absurd H (by simp)
                    · rw [if_neg c22] at H
                      have c22b0 : decide ((ji21) < 1) = false := decide_eq_false c22
                      clear c22
                      by_cases c23 : (ji21) > (Int.tmod (wrap64 (a0)) 20)
                      · rw [if_pos c23] at H
                        exact absurd H (by simp)
                      · rw [if_neg c23] at H
                        have c23b0 : decide ((Int.tmod (wrap64 (a0)) 20) < (ji21)) = false := decide_eq_false c23
                        clear c23
                        obtain ⟨ji24, hji24⟩ : ∃ j_ : Int, (wrap64 ((ji21) - 1)) = j_ := ⟨_, rfl⟩
                        replace H : (if 0 ≤ (ji24) then (if (ji24) < (x9_2.length : Int) then (crossroadslaw4_ClausePure.l0 k2 l1 l2 (Int.tmod (wrap64 (a0)) 20) t306 (x9_2.set ((ji24) : Int).toNat (decide ((rd t306 x10_2) > 0))) (wrap64 (x10_2 + 1))) else (none)) else (none)) = some r := by first | (rw [hji24] at H; exact H) | (simp only [hji24] at H ⊢; exact H)
                        have hji24w : (IntKind.i64.wrap ((ji21) - 1)) = ji24 := (i64_w _).trans hji24
                        by_cases c25 : 0 ≤ (ji24)
                        · rw [if_pos c25] at H
                          have c25b0 : decide (0 ≤ (ji24)) = true := decide_eq_true c25
                          clear c25
                          by_cases c26 : (ji24) < (x9_2.length : Int)
                          · rw [if_pos c26] at H
                            have c26b0 : decide ((ji24) < (x9_2.length : Int)) = true := decide_eq_true c26
                            clear c26
                            obtain ⟨y318, hy318⟩ : ∃ y_ : List Bool, y_ = (x9_2.set ((ji24) : Int).toNat (decide ((rd t306 x10_2) > 0))) := ⟨_, rfl⟩
                            replace H : (crossroadslaw4_ClausePure.l0 k2 l1 l2 (Int.tmod (wrap64 (a0)) 20) t306 y318 (wrap64 (x10_2 + 1))) = some r := by first | (rw [hy318]; with_reducible exact H) | (have H2_ := (Option.bind_some _ _).symm.trans H; rw [hy318]; with_reducible exact H2_) | (have H2_ := (Option.bind_some _ _).symm.trans H; with_reducible exact H2_) | with_reducible exact H | (rw [hy318]; exact H) | exact H
                            have Ny318 := Aside0.mk hy318
                            clear hy318
                            have H' := Aside0.mk H
                            clear H
                            obtain ⟨Ao28, co28, eo28⟩ := Kd.R_slice HO_8.out
                            subst eo28
                            have p315 : 0 ≤ (x10_2 : Int) := of_decide_eq_true (by first | (with_reducible assumption) | assumption)
                            have q315 : x10_2 < (t306.length : Int) := of_decide_eq_true (by first | (with_reducible assumption) | assumption)
                            (try (obtain ⟨Aoo315, coo315, eoo315⟩ := Kd.R_slice HO_8.out; subst eoo315))
                            obtain ⟨ad315, e315, hx315_0⟩ := Kd.at_int (Kd.R_reads' HO_8.out).2.2 x10_2 p315 q315
                            cases e315
                            replace p315 := eq_true p315
                            replace q315 := eq_true q315
                            have p316 : 0 ≤ (x10_2 : Int) := of_decide_eq_true (by first | (with_reducible assumption) | assumption)
                            have q316 : x10_2 < (t306.length : Int) := of_decide_eq_true (by first | (with_reducible assumption) | assumption)
                            (try (obtain ⟨Aoo316, coo316, eoo316⟩ := Kd.R_slice HO_8.out; subst eoo316))
                            obtain ⟨ad316, e316, hx316_0⟩ := Kd.at_int (Kd.R_reads' HO_8.out).2.2 x10_2 p316 q316
                            obtain rfl : ad315 = ad316 := (by injection e316)
                            replace p316 := eq_true p316
                            replace q316 := eq_true q316
                            have p317 : 0 ≤ (x10_2 : Int) := of_decide_eq_true (by first | (with_reducible assumption) | assumption)
                            have q317 : x10_2 < (t306.length : Int) := of_decide_eq_true (by first | (with_reducible assumption) | assumption)
                            (try (obtain ⟨Aoo317, coo317, eoo317⟩ := Kd.R_slice HO_8.out; subst eoo317))
                            obtain ⟨ad317, e317, hx317_0⟩ := Kd.at_int (Kd.R_reads' HO_8.out).2.2 x10_2 p317 q317
                            obtain rfl : ad315 = ad317 := (by injection e317)
                            replace p317 := eq_true p317
                            replace q317 := eq_true q317
                            have p27 : 0 ≤ ((ji24) : Int) := of_decide_eq_true (by first | (with_reducible assumption) | assumption)
                            have q27 : ((ji24) : Int) < ((x9_2.length : Int) : Int) := of_decide_eq_true (by first | (with_reducible assumption) | assumption)
                            obtain ⟨go27, co27, eo27, gb27, gl27, cl27, HG27⟩ := Kd.R_form HO_9.out (by omega)
                            (first | cases eo27 | (injection eo27 with ea_ en_ ec_; (first | subst ea_ | (injection ea_ with ea_; subst ea_)); subst ec_; clear en_))
                            have GB27 := Aside0.mk gb27
                            have GG27 := Aside0.mk HG27
                            clear gb27 gl27 HG27
                            obtain ⟨hx27_0, hf27_0⟩ := Kd.R_celln false HO_9.out ((ji24) : Int) p27 q27
                            replace p27 := eq_true p27
                            replace q27 := eq_true q27
                            have HP29 := Kd.R_putg HO_9.out ((ji24) : Int) (decide ((rd t306 x10_2) > 0))
                            go_wp2_with (first | ((with_reducible refine gate_store (t := 4) (p := 70) rfl ?_); (try (rw [drewN_self wr]; generalize hq_ : World.drewN wr _ = wr; have n0_ := Aside0.mk (Kd.R_at hq_ HO_8.out); have n1_ := Aside0.mk (Kd.R_at hq_ HO_9.out); have n2_ := Aside0.mk (below_at hq_ HB.out); clear hq_ HO_8 HO_9 HB; have HO_8 := n0_; have HO_9 := n1_; have HB := n2_; clear n0_ n1_ n2_; (try (have HP29 := Kd.R_putg HO_9.out ((ji24) : Int) (decide ((rd t306 x10_2) > 0)))); (try (obtain ⟨hx27_0, hf27_0⟩ := Kd.R_celln false HO_9.out ((ji24) : Int) (of_eq_true p27) (of_eq_true q27))))); refine store_event (t := 4) (p := 70) (v := ?vo_w30) (w1 := (wr.setCell ⟨go27, ((ji24) : Int).toNat, none⟩ (.bool (decide ((rd t306 x10_2) > 0))))) ?hg ?ho ?hn ?hr ?_; (case ho => rfl); (case hg => rfl); (case hn => rfl); (case hr => first | (go_simp; done) | (go_simp; rfl)); intro w30 hw; have hg : wr.grownBy w30 (some go27) := (by rw [hw]; exact HP29.2); have hp_ : Kd.R Kd.bool 4 w30 w.heap.size (fun _ => True) (.slice (some ⟨go27, 0, none⟩) x9_2.length co27) y318 := (by rw [hw, Ny318.out]; exact HP29.1); clear HP29; have n0_ := Aside0.mk (Kd.R_over' (v := (.slice (some ⟨go27, 0, none⟩) x9_2.length co27)) (by (with_reducible repeat (first | apply Kd.R_alloc | apply Kd.R_drewN | apply Kd.R_drew)); exact HO_8.out) (Kd.R_typed HO_9.out) (by decide) hg); have n1_ := Aside0.mk (hp_); have n2_ := Aside0.mk ((by rw [hw]; exact below_set (HB.out) GB27.out : Below w.heap.size w w30)); clear HO_8; clear HO_9; clear HB; have HO_8 := n0_; have HO_9 := n1_; have HB := n2_; clear n0_ n1_ n2_; clear hg hw hp_))
                            repeat (go_quiet (first | ((with_reducible refine gate_store (t := 4) (p := 70) rfl ?_); (try (rw [drewN_self wr]; generalize hq_ : World.drewN wr _ = wr; have n0_ := Aside0.mk (Kd.R_at hq_ HO_8.out); have n1_ := Aside0.mk (Kd.R_at hq_ HO_9.out); have n2_ := Aside0.mk (below_at hq_ HB.out); clear hq_ HO_8 HO_9 HB; have HO_8 := n0_; have HO_9 := n1_; have HB := n2_; clear n0_ n1_ n2_; (try (have HP29 := Kd.R_putg HO_9.out ((ji24) : Int) (decide ((rd t306 x10_2) > 0)))); (try (obtain ⟨hx27_0, hf27_0⟩ := Kd.R_celln false HO_9.out ((ji24) : Int) (of_eq_true p27) (of_eq_true q27))))); refine store_event (t := 4) (p := 70) (v := ?vo_w30) (w1 := (wr.setCell ⟨go27, ((ji24) : Int).toNat, none⟩ (.bool (decide ((rd t306 x10_2) > 0))))) ?hg ?ho ?hn ?hr ?_; (case ho => rfl); (case hg => rfl); (case hn => rfl); (case hr => first | (go_simp; done) | (go_simp; rfl)); intro w30 hw; have hg : wr.grownBy w30 (some go27) := (by rw [hw]; exact HP29.2); have hp_ : Kd.R Kd.bool 4 w30 w.heap.size (fun _ => True) (.slice (some ⟨go27, 0, none⟩) x9_2.length co27) y318 := (by rw [hw, Ny318.out]; exact HP29.1); clear HP29; have n0_ := Aside0.mk (Kd.R_over' (v := (.slice (some ⟨go27, 0, none⟩) x9_2.length co27)) (by (with_reducible repeat (first | apply Kd.R_alloc | apply Kd.R_drewN | apply Kd.R_drew)); exact HO_8.out) (Kd.R_typed HO_9.out) (by decide) hg); have n1_ := Aside0.mk (hp_); have n2_ := Aside0.mk ((by rw [hw]; exact below_set (HB.out) GB27.out : Below w.heap.size w w30)); clear HO_8; clear HO_9; clear HB; have HO_8 := n0_; have HO_9 := n1_; have HB := n2_; clear n0_ n1_ n2_; clear hg hw hp_)); try go_wp2_with (first | ((with_reducible refine gate_store (t := 4) (p := 70) rfl ?_); (try (rw [drewN_self wr]; generalize hq_ : World.drewN wr _ = wr; have n0_ := Aside0.mk (Kd.R_at hq_ HO_8.out); have n1_ := Aside0.mk (Kd.R_at hq_ HO_9.out); have n2_ := Aside0.mk (below_at hq_ HB.out); clear hq_ HO_8 HO_9 HB; have HO_8 := n0_; have HO_9 := n1_; have HB := n2_; clear n0_ n1_ n2_; (try (have HP29 := Kd.R_putg HO_9.out ((ji24) : Int) (decide ((rd t306 x10_2) > 0)))); (try (obtain ⟨hx27_0, hf27_0⟩ := Kd.R_celln false HO_9.out ((ji24) : Int) (of_eq_true p27) (of_eq_true q27))))); refine store_event (t := 4) (p := 70) (v := ?vo_w30) (w1 := (wr.setCell ⟨go27, ((ji24) : Int).toNat, none⟩ (.bool (decide ((rd t306 x10_2) > 0))))) ?hg ?ho ?hn ?hr ?_; (case ho => rfl); (case hg => rfl); (case hn => rfl); (case hr => first | (go_simp; done) | (go_simp; rfl)); intro w30 hw; have hg : wr.grownBy w30 (some go27) := (by rw [hw]; exact HP29.2); have hp_ : Kd.R Kd.bool 4 w30 w.heap.size (fun _ => True) (.slice (some ⟨go27, 0, none⟩) x9_2.length co27) y318 := (by rw [hw, Ny318.out]; exact HP29.1); clear HP29; have n0_ := Aside0.mk (Kd.R_over' (v := (.slice (some ⟨go27, 0, none⟩) x9_2.length co27)) (by (with_reducible repeat (first | apply Kd.R_alloc | apply Kd.R_drewN | apply Kd.R_drew)); exact HO_8.out) (Kd.R_typed HO_9.out) (by decide) hg); have n1_ := Aside0.mk (hp_); have n2_ := Aside0.mk ((by rw [hw]; exact below_set (HB.out) GB27.out : Below w.heap.size w w30)); clear HO_8; clear HO_9; clear HB; have HO_8 := n0_; have HO_9 := n1_; have HB := n2_; clear n0_ n1_ n2_; clear hg hw hp_)))
                            go_roundg k2
                            case measure => have := HJ5.out; have := HK2.out; omega
                            case rel => exact ⟨(y318), (wrap64 (x10_2 + 1)), (by first | rfl | (simp; done) | (simp [*]; done)), H', ⟨by have := HJ5.out; have := HK2.out; omega⟩, ⟨by (with_reducible repeat (first | apply Kd.R_alloc | apply Kd.R_drewN | apply Kd.R_drew)); exact HO_8.out⟩, ⟨by (with_reducible repeat (first | apply Kd.R_alloc | apply Kd.R_drewN | apply Kd.R_drew)); exact HO_9.out⟩, ⟨by repeat (first | (with_reducible first | exact HB.out | apply below_alloc | apply pw_below_drewN | apply below_drew1) | exact HB.out)⟩⟩
                          · rw [if_neg c26] at H
                            exact absurd H (by simp)
                        · rw [if_neg c25] at H
                          exact absurd H (by simp)
                  · rw [if_neg c20] at H
                    exact absurd H (by simp)
                · rw [if_neg c19] at H
                  have c19b0 : decide (x10_2 < (t306.length : Int)) = false := decide_eq_false c19
                  clear c19
                  have H' := Aside0.mk H
                  clear H
                  obtain ⟨Ao31, co31, eo31⟩ := Kd.R_slice HO_8.out
                  subst eo31
                  go_wp2
                  repeat (go_quiet (fail); try go_wp2)
                  go_loopg [12] k2 (fun kq v12 w' => ∃ (x12_3 : Int), v12 = .int .i64 x12_3 ∧ Aside0 (crossroadslaw4_ClausePure.l1 kq l1 l2 x9_2 x12_3 = some r) ∧ Aside0 (kq ≤ k2) ∧ Aside0 (Kd.R Kd.bool 4 w' w.heap.size (fun _ => True) v313 x9_2) ∧ Aside0 (Below w.heap.size w w'))
                  case atStart => exact ⟨(0), (by first | rfl | (simp; done) | (simp [*]; done)), H', ⟨Nat.le_refl _⟩, ⟨by (with_reducible repeat (first | apply Kd.R_alloc | apply Kd.R_drewN | apply Kd.R_drew)); exact HO_9.out⟩, ⟨by repeat (first | (with_reducible first | exact HB.out | apply below_alloc | apply pw_below_drewN | apply below_drew1) | exact HB.out)⟩⟩
                  case round =>
                    clear H'
                    try clear c1
                    try clear c2
                    try clear p2
                    try clear q2
                    try clear hx2
                    try clear p3
                    try clear q3
                    try clear hx3
                    try clear c5
                    try clear p6
                    try clear c8
                    try clear c9
                    try clear c11
                    try clear c12
                    try clear c14
                    try clear c19
                    try clear c19b0
                    try clear c20
                    try clear c20b0
                    try clear c22
                    try clear c22b0
                    try clear c23
                    try clear c23b0
                    try clear c25
                    try clear c25b0
                    try clear c26
                    try clear c26b0
                    try clear p27
                    try clear q27
                    try clear hx27
                    try clear hf27
                    try clear p31
                    try clear q31
                    try clear hx31
                    try clear hx27_0
                    try clear hx315_0
                    try clear hx316_0
                    try clear hx317_0
                    try clear p2
                    try clear p27
                    try clear p315
                    try clear p316
                    try clear p317
                    try clear p6
                    try clear q27
                    try clear q315
                    try clear q316
                    try clear q317
                    obtain ⟨x12_3, rfl, HA, HK3, HO_9, HB⟩ := hrel
                    cases gk with
                    | zero => exact absurd HA.out (by simp [crossroadslaw4_ClausePure.l1])
                    | succ k3 =>
                      have H := HA.out
                      clear HA
                      simp only [crossroadslaw4_ClausePure.l1] at H
                      by_cases c32 : x12_3 < (l1.length : Int)
                      · rw [if_pos c32] at H
                        have c32b0 : decide (x12_3 < (l1.length : Int)) = true := decide_eq_true c32
                        clear c32
                        by_cases c33 : 0 ≤ x12_3
                        · rw [if_pos c33] at H
                          have c33b0 := eq_true c33
                          have c33b1 : decide (0 ≤ x12_3) = true := decide_eq_true c33
                          clear c33
                          by_cases c34 : x12_3 ≤ (wrap64 (x12_3 + 1))
                          · rw [if_pos c34] at H
                            have c34b0 := eq_true c34
                            have c34b1 : decide (x12_3 ≤ (wrap64 (x12_3 + 1))) = true := decide_eq_true c34
                            by_cases c35 : (wrap64 (x12_3 + 1)) ≤ (l1.length : Int)
                            · rw [if_pos c35] at H
                              have c35b0 := eq_true c35
                              have c35b1 : decide ((wrap64 (x12_3 + 1)) ≤ (l1.length : Int)) = true := decide_eq_true c35
                              obtain ⟨y319, hy319⟩ : ∃ y_ : List (List Int), y_ = ((l1.take ((wrap64 (x12_3 + 1)) : Int).toNat).drop (x12_3 : Int).toNat) := ⟨_, rfl⟩
                              replace H : ((crossroadsref1_Eval.f k3 y319 l2).bind fun t323 => (if t323 = true then ((crossroadsref1_Eval.f k3 ((l1.take ((wrap64 (x12_3 + 1)) : Int).toNat).drop (x12_3 : Int).toNat) x9_2).bind fun t328 => (if t328 = true then (crossroadslaw4_ClausePure.l1 k3 l1 l2 x9_2 (wrap64 (x12_3 + 1))) else (none))) else (crossroadslaw4_ClausePure.l1 k3 l1 l2 x9_2 (wrap64 (x12_3 + 1))))) = some r := by first | (rw [hy319]; with_reducible exact H) | (have H2_ := (Option.bind_some _ _).symm.trans H; rw [hy319]; with_reducible exact H2_) | (have H2_ := (Option.bind_some _ _).symm.trans H; with_reducible exact H2_) | with_reducible exact H | (rw [hy319]; exact H) | exact H
                              have Ny319 := Aside0.mk hy319
                              clear hy319
                              replace H := Option.bind_eq_some_iff.mp H
                              obtain ⟨t323, A360, H⟩ := H
                              replace H : (if t323 = true then ((crossroadsref1_Eval.f k3 ((l1.take ((wrap64 (x12_3 + 1)) : Int).toNat).drop (x12_3 : Int).toNat) x9_2).bind fun t328 => (if t328 = true then (crossroadslaw4_ClausePure.l1 k3 l1 l2 x9_2 (wrap64 (x12_3 + 1))) else (none))) else (crossroadslaw4_ClausePure.l1 k3 l1 l2 x9_2 (wrap64 (x12_3 + 1)))) = some r := H
                              have A36 := Aside0.mk A360
                              clear A360
                              by_cases c37 : t323 = true
                              · subst c37
                                have H1 : ((crossroadsref1_Eval.f k3 ((l1.take ((wrap64 (x12_3 + 1)) : Int).toNat).drop (x12_3 : Int).toNat) x9_2).bind fun t328 => (if t328 = true then (crossroadslaw4_ClausePure.l1 k3 l1 l2 x9_2 (wrap64 (x12_3 + 1))) else (none))) = some r := by rw [if_pos rfl] at H; exact H
                                clear H
                                have H := H1
                                clear H1
                                have c38b0 := eq_true (of_decide_eq_true (by first | (with_reducible assumption) | assumption) : 0 ≤ x12_3)
                                have c39b0 := eq_true (of_decide_eq_true (by first | (with_reducible assumption) | assumption) : x12_3 ≤ (wrap64 (x12_3 + 1)))
                                have c40b0 := eq_true (of_decide_eq_true (by first | (with_reducible assumption) | assumption) : (wrap64 (x12_3 + 1)) ≤ (l1.length : Int))
                                have hy324 : y319 = ((l1.take ((wrap64 (x12_3 + 1)) : Int).toNat).drop (x12_3 : Int).toNat) := Ny319.out
                                replace H : ((crossroadsref1_Eval.f k3 y319 x9_2).bind fun t328 => (if t328 = true then (crossroadslaw4_ClausePure.l1 k3 l1 l2 x9_2 (wrap64 (x12_3 + 1))) else (none))) = some r := by first | (rw [hy324]; with_reducible exact H) | (have H2_ := (Option.bind_some _ _).symm.trans H; rw [hy324]; with_reducible exact H2_) | (have H2_ := (Option.bind_some _ _).symm.trans H; with_reducible exact H2_) | with_reducible exact H | (rw [hy324]; exact H) | exact H
                                clear hy324
                                replace H := Option.bind_eq_some_iff.mp H
                                obtain ⟨t328, A410, H⟩ := H
                                replace H : (if t328 = true then (crossroadslaw4_ClausePure.l1 k3 l1 l2 x9_2 (wrap64 (x12_3 + 1))) else (none)) = some r := H
                                have A41 := Aside0.mk A410
                                clear A410
                                by_cases c42 : t328 = true
                                · subst c42
                                  have H1 : (crossroadslaw4_ClausePure.l1 k3 l1 l2 x9_2 (wrap64 (x12_3 + 1))) = some r := by rw [if_pos rfl] at H; exact H
                                  clear H
                                  have H := H1
                                  clear H1
                                  have H' := Aside0.mk H
                                  clear H
                                  have q43 : ((wrap64 (x12_3 + 1)) : Int) ≤ ((l1.length : Int) : Int) := of_decide_eq_true (by first | (with_reducible assumption) | assumption)
                                  obtain ⟨i043, hi043, _, hsz43, _⟩ := info_parts info22
                                  have hroom43 : l1.length ≤ c1 := HC1.out
                                  have hC43 : Kd.C (Kd.slice 3 (Kd.int .i64)) _ A1 l1.length l1 := HR1.out
                                  have ql43 : (x12_3 : Int) ≤ ((wrap64 (x12_3 + 1)) : Int) := of_decide_eq_true (by first | (with_reducible assumption) | assumption)
                                  have q043 : (0 : Int) ≤ (x12_3 : Int) := of_decide_eq_true (by first | (with_reducible assumption) | assumption)
                                  have hcut43 := cut_mid (P := Try.prog) 29 22 .i64 .i64 Try.underlying29 hi043 1 hsz43 A1 l1.length c1 x12_3 (wrap64 (x12_3 + 1)) q043 ql43 q43 hroom43
                                  have hr43 := Kd.C_mid (lo := (x12_3 : Int).toNat) (hi := ((wrap64 (x12_3 + 1)) : Int).toNat) (c := c1) hC43 (by omega) (by omega) hroom43
                                  obtain ⟨A43, hA43⟩ : ∃ Az_, Az_ = (if c1 = (x12_3 : Int).toNat then A1 else (A1 : Option Addr).map (·.add ((x12_3 : Int).toNat * 1))) := ⟨_, rfl⟩
                                  obtain ⟨c43, hc43⟩ : ∃ cz_, cz_ = c1 - (x12_3 : Int).toNat := ⟨_, rfl⟩
                                  have hy43 : y319.length = ((wrap64 (x12_3 + 1)) : Int).toNat - (x12_3 : Int).toNat := (by rw [Ny319.out, List.length_drop, List.length_take] <;> omega)
                                  rw [show ((l1).take ((wrap64 (x12_3 + 1)) : Int).toNat).drop (x12_3 : Int).toNat = y319 from Ny319.out.symm] at hr43
                                  replace hr43 : Kd.C (Kd.slice 3 (Kd.int .i64)) _ A43 y319.length y319 := (by rw [hA43]; exact hr43)
                                  rw [← hy43, ← hA43, ← hc43] at hcut43
                                  have HR322 := Aside0.mk hr43
                                  have HC322 := Aside0.mk (show y319.length ≤ c43 from by rw [hy43, hc43]; exact Nat.sub_le_sub_right (Nat.le_trans (by omega) hroom43) _)
                                  clear hr43 hC43 hroom43 hi043 hsz43 hc43
                                  have KY43 := Aside0.mk hy43
                                  have KA43 := Aside0.mk hA43
                                  clear hy43 hA43
                                  replace q43 := eq_true q43
                                  go_wp2_with (first | (go_at_call 13; (with_reducible refine (crossroadsref1_Eval.calls k3 _ _ y319 _ _ l2 true _ ?side1 ?side2 ?side3 ?side4 A36.out).mono ?_); (case side1 => repeat (first | exact (Kd.C_below HR322.out HB.out) | (with_reducible refine Kd.C_alloc ?_ _) | (with_reducible refine Kd.C_drewN ?_ _) | (with_reducible refine Kd.C_drew ?_))); (case side2 => exact HC322.out); (case side3 => repeat (first | exact (Kd.C_below HR2.out HB.out) | (with_reducible refine Kd.C_alloc ?_ _) | (with_reducible refine Kd.C_drewN ?_ _) | (with_reducible refine Kd.C_drew ?_))); (case side4 => exact HC2.out); rintro e w44 ⟨rfl, hb⟩; have n0_ := Aside0.mk (Kd.R_below (by (with_reducible repeat (first | apply Kd.R_alloc | apply Kd.R_drewN | apply Kd.R_drew)); exact HO_9.out) hb); have n1_ := Aside0.mk (below_step (by repeat (first | (with_reducible first | exact HB.out | apply below_alloc | apply pw_below_drewN | apply below_drew1) | exact HB.out)) hb); clear HO_9; clear HB; have HO_9 := n0_; have HB := n1_; clear n0_ n1_; (try clear hb); (try clear hb2); (try clear hk); (try clear hi); have q45 : ((wrap64 (x12_3 + 1)) : Int) ≤ ((l1.length : Int) : Int) := of_decide_eq_true (by first | (with_reducible assumption) | assumption); obtain ⟨i045, hi045, _, hsz45, _⟩ := info_parts info22; have hroom45 : l1.length ≤ c1 := HC1.out; have hC45 : Kd.C (Kd.slice 3 (Kd.int .i64)) _ A1 l1.length l1 := HR1.out; have ql45 : (x12_3 : Int) ≤ ((wrap64 (x12_3 + 1)) : Int) := of_decide_eq_true (by first | (with_reducible assumption) | assumption); have q045 : (0 : Int) ≤ (x12_3 : Int) := of_decide_eq_true (by first | (with_reducible assumption) | assumption); have hcut45 := cut_mid (P := Try.prog) 29 22 .i64 .i64 Try.underlying29 hi045 1 hsz45 A1 l1.length c1 x12_3 (wrap64 (x12_3 + 1)) q045 ql45 q45 hroom45; have hr45 := Kd.C_mid (lo := (x12_3 : Int).toNat) (hi := ((wrap64 (x12_3 + 1)) : Int).toNat) (c := c1) hC45 (by omega) (by omega) hroom45; obtain ⟨A45, hA45⟩ : ∃ Az_, Az_ = (if c1 = (x12_3 : Int).toNat then A1 else (A1 : Option Addr).map (·.add ((x12_3 : Int).toNat * 1))) := ⟨_, rfl⟩; obtain ⟨c45, hc45⟩ : ∃ cz_, cz_ = c1 - (x12_3 : Int).toNat := ⟨_, rfl⟩; have hy45 : y319.length = ((wrap64 (x12_3 + 1)) : Int).toNat - (x12_3 : Int).toNat := (by rw [Ny319.out, List.length_drop, List.length_take] <;> omega); rw [show ((l1).take ((wrap64 (x12_3 + 1)) : Int).toNat).drop (x12_3 : Int).toNat = y319 from Ny319.out.symm] at hr45; replace hr45 : Kd.C (Kd.slice 3 (Kd.int .i64)) _ A45 y319.length y319 := (by rw [hA45]; exact hr45); rw [← hy45, ← hA45, ← hc45] at hcut45; have HR327 := Aside0.mk hr45; have HC327 := Aside0.mk (show y319.length ≤ c45 from by rw [hy45, hc45]; exact Nat.sub_le_sub_right (Nat.le_trans (by omega) hroom45) _); clear hr45 hC45 hroom45 hi045 hsz45 hc45; have KY45 := Aside0.mk hy45; have KA45 := Aside0.mk hA45; clear hy45 hA45; replace q45 := eq_true q45; obtain ⟨Ao46, co46, eo46⟩ := Kd.R_slice HO_9.out; subst eo46) | (go_at_call 13; (with_reducible refine (crossroadsref1_Eval.calls k3 _ _ y319 _ _ x9_2 true _ ?side1 ?side2 ?side3 ?side4 A41.out).mono ?_); (case side1 => repeat (first | exact (Kd.C_below HR322.out HB.out) | (with_reducible refine Kd.C_alloc ?_ _) | (with_reducible refine Kd.C_drewN ?_ _) | (with_reducible refine Kd.C_drew ?_))); (case side2 => exact HC322.out); (case side3 => repeat (first | exact (Kd.R_reads' HO_9.out).2.2 | (with_reducible refine Kd.C_alloc ?_ _) | (with_reducible refine Kd.C_drewN ?_ _) | (with_reducible refine Kd.C_drew ?_))); (case side4 => exact (Kd.R_reads' HO_9.out).2.1); rintro e w47 ⟨rfl, hb⟩; have n0_ := Aside0.mk (Kd.R_below (by (with_reducible repeat (first | apply Kd.R_alloc | apply Kd.R_drewN | apply Kd.R_drew)); exact HO_9.out) hb); have n1_ := Aside0.mk (below_step (by repeat (first | (with_reducible first | exact HB.out | apply below_alloc | apply pw_below_drewN | apply below_drew1) | exact HB.out)) hb); clear HO_9; clear HB; have HO_9 := n0_; have HB := n1_; clear n0_ n1_; (try clear hb); (try clear hb2); (try clear hk); (try clear hi)))
                                  repeat (go_quiet (first | (go_at_call 13; (with_reducible refine (crossroadsref1_Eval.calls k3 _ _ y319 _ _ l2 true _ ?side1 ?side2 ?side3 ?side4 A36.out).mono ?_); (case side1 => repeat (first | exact (Kd.C_below HR322.out HB.out) | (with_reducible refine Kd.C_alloc ?_ _) | (with_reducible refine Kd.C_drewN ?_ _) | (with_reducible refine Kd.C_drew ?_))); (case side2 => exact HC322.out); (case side3 => repeat (first | exact (Kd.C_below HR2.out HB.out) | (with_reducible refine Kd.C_alloc ?_ _) | (with_reducible refine Kd.C_drewN ?_ _) | (with_reducible refine Kd.C_drew ?_))); (case side4 => exact HC2.out); rintro e w44 ⟨rfl, hb⟩; have n0_ := Aside0.mk (Kd.R_below (by (with_reducible repeat (first | apply Kd.R_alloc | apply Kd.R_drewN | apply Kd.R_drew)); exact HO_9.out) hb); have n1_ := Aside0.mk (below_step (by repeat (first | (with_reducible first | exact HB.out | apply below_alloc | apply pw_below_drewN | apply below_drew1) | exact HB.out)) hb); clear HO_9; clear HB; have HO_9 := n0_; have HB := n1_; clear n0_ n1_; (try clear hb); (try clear hb2); (try clear hk); (try clear hi); have q45 : ((wrap64 (x12_3 + 1)) : Int) ≤ ((l1.length : Int) : Int) := of_decide_eq_true (by first | (with_reducible assumption) | assumption); obtain ⟨i045, hi045, _, hsz45, _⟩ := info_parts info22; have hroom45 : l1.length ≤ c1 := HC1.out; have hC45 : Kd.C (Kd.slice 3 (Kd.int .i64)) _ A1 l1.length l1 := HR1.out; have ql45 : (x12_3 : Int) ≤ ((wrap64 (x12_3 + 1)) : Int) := of_decide_eq_true (by first | (with_reducible assumption) | assumption); have q045 : (0 : Int) ≤ (x12_3 : Int) := of_decide_eq_true (by first | (with_reducible assumption) | assumption); have hcut45 := cut_mid (P := Try.prog) 29 22 .i64 .i64 Try.underlying29 hi045 1 hsz45 A1 l1.length c1 x12_3 (wrap64 (x12_3 + 1)) q045 ql45 q45 hroom45; have hr45 := Kd.C_mid (lo := (x12_3 : Int).toNat) (hi := ((wrap64 (x12_3 + 1)) : Int).toNat) (c := c1) hC45 (by omega) (by omega) hroom45; obtain ⟨A45, hA45⟩ : ∃ Az_, Az_ = (if c1 = (x12_3 : Int).toNat then A1 else (A1 : Option Addr).map (·.add ((x12_3 : Int).toNat * 1))) := ⟨_, rfl⟩; obtain ⟨c45, hc45⟩ : ∃ cz_, cz_ = c1 - (x12_3 : Int).toNat := ⟨_, rfl⟩; have hy45 : y319.length = ((wrap64 (x12_3 + 1)) : Int).toNat - (x12_3 : Int).toNat := (by rw [Ny319.out, List.length_drop, List.length_take] <;> omega); rw [show ((l1).take ((wrap64 (x12_3 + 1)) : Int).toNat).drop (x12_3 : Int).toNat = y319 from Ny319.out.symm] at hr45; replace hr45 : Kd.C (Kd.slice 3 (Kd.int .i64)) _ A45 y319.length y319 := (by rw [hA45]; exact hr45); rw [← hy45, ← hA45, ← hc45] at hcut45; have HR327 := Aside0.mk hr45; have HC327 := Aside0.mk (show y319.length ≤ c45 from by rw [hy45, hc45]; exact Nat.sub_le_sub_right (Nat.le_trans (by omega) hroom45) _); clear hr45 hC45 hroom45 hi045 hsz45 hc45; have KY45 := Aside0.mk hy45; have KA45 := Aside0.mk hA45; clear hy45 hA45; replace q45 := eq_true q45; obtain ⟨Ao46, co46, eo46⟩ := Kd.R_slice HO_9.out; subst eo46) | (go_at_call 13; (with_reducible refine (crossroadsref1_Eval.calls k3 _ _ y319 _ _ x9_2 true _ ?side1 ?side2 ?side3 ?side4 A41.out).mono ?_); (case side1 => repeat (first | exact (Kd.C_below HR322.out HB.out) | (with_reducible refine Kd.C_alloc ?_ _) | (with_reducible refine Kd.C_drewN ?_ _) | (with_reducible refine Kd.C_drew ?_))); (case side2 => exact HC322.out); (case side3 => repeat (first | exact (Kd.R_reads' HO_9.out).2.2 | (with_reducible refine Kd.C_alloc ?_ _) | (with_reducible refine Kd.C_drewN ?_ _) | (with_reducible refine Kd.C_drew ?_))); (case side4 => exact (Kd.R_reads' HO_9.out).2.1); rintro e w47 ⟨rfl, hb⟩; have n0_ := Aside0.mk (Kd.R_below (by (with_reducible repeat (first | apply Kd.R_alloc | apply Kd.R_drewN | apply Kd.R_drew)); exact HO_9.out) hb); have n1_ := Aside0.mk (below_step (by repeat (first | (with_reducible first | exact HB.out | apply below_alloc | apply pw_below_drewN | apply below_drew1) | exact HB.out)) hb); clear HO_9; clear HB; have HO_9 := n0_; have HB := n1_; clear n0_ n1_; (try clear hb); (try clear hb2); (try clear hk); (try clear hi))); try go_wp2_with (first | (go_at_call 13; (with_reducible refine (crossroadsref1_Eval.calls k3 _ _ y319 _ _ l2 true _ ?side1 ?side2 ?side3 ?side4 A36.out).mono ?_); (case side1 => repeat (first | exact (Kd.C_below HR322.out HB.out) | (with_reducible refine Kd.C_alloc ?_ _) | (with_reducible refine Kd.C_drewN ?_ _) | (with_reducible refine Kd.C_drew ?_))); (case side2 => exact HC322.out); (case side3 => repeat (first | exact (Kd.C_below HR2.out HB.out) | (with_reducible refine Kd.C_alloc ?_ _) | (with_reducible refine Kd.C_drewN ?_ _) | (with_reducible refine Kd.C_drew ?_))); (case side4 => exact HC2.out); rintro e w44 ⟨rfl, hb⟩; have n0_ := Aside0.mk (Kd.R_below (by (with_reducible repeat (first | apply Kd.R_alloc | apply Kd.R_drewN | apply Kd.R_drew)); exact HO_9.out) hb); have n1_ := Aside0.mk (below_step (by repeat (first | (with_reducible first | exact HB.out | apply below_alloc | apply pw_below_drewN | apply below_drew1) | exact HB.out)) hb); clear HO_9; clear HB; have HO_9 := n0_; have HB := n1_; clear n0_ n1_; (try clear hb); (try clear hb2); (try clear hk); (try clear hi); have q45 : ((wrap64 (x12_3 + 1)) : Int) ≤ ((l1.length : Int) : Int) := of_decide_eq_true (by first | (with_reducible assumption) | assumption); obtain ⟨i045, hi045, _, hsz45, _⟩ := info_parts info22; have hroom45 : l1.length ≤ c1 := HC1.out; have hC45 : Kd.C (Kd.slice 3 (Kd.int .i64)) _ A1 l1.length l1 := HR1.out; have ql45 : (x12_3 : Int) ≤ ((wrap64 (x12_3 + 1)) : Int) := of_decide_eq_true (by first | (with_reducible assumption) | assumption); have q045 : (0 : Int) ≤ (x12_3 : Int) := of_decide_eq_true (by first | (with_reducible assumption) | assumption); have hcut45 := cut_mid (P := Try.prog) 29 22 .i64 .i64 Try.underlying29 hi045 1 hsz45 A1 l1.length c1 x12_3 (wrap64 (x12_3 + 1)) q045 ql45 q45 hroom45; have hr45 := Kd.C_mid (lo := (x12_3 : Int).toNat) (hi := ((wrap64 (x12_3 + 1)) : Int).toNat) (c := c1) hC45 (by omega) (by omega) hroom45; obtain ⟨A45, hA45⟩ : ∃ Az_, Az_ = (if c1 = (x12_3 : Int).toNat then A1 else (A1 : Option Addr).map (·.add ((x12_3 : Int).toNat * 1))) := ⟨_, rfl⟩; obtain ⟨c45, hc45⟩ : ∃ cz_, cz_ = c1 - (x12_3 : Int).toNat := ⟨_, rfl⟩; have hy45 : y319.length = ((wrap64 (x12_3 + 1)) : Int).toNat - (x12_3 : Int).toNat := (by rw [Ny319.out, List.length_drop, List.length_take] <;> omega); rw [show ((l1).take ((wrap64 (x12_3 + 1)) : Int).toNat).drop (x12_3 : Int).toNat = y319 from Ny319.out.symm] at hr45; replace hr45 : Kd.C (Kd.slice 3 (Kd.int .i64)) _ A45 y319.length y319 := (by rw [hA45]; exact hr45); rw [← hy45, ← hA45, ← hc45] at hcut45; have HR327 := Aside0.mk hr45; have HC327 := Aside0.mk (show y319.length ≤ c45 from by rw [hy45, hc45]; exact Nat.sub_le_sub_right (Nat.le_trans (by omega) hroom45) _); clear hr45 hC45 hroom45 hi045 hsz45 hc45; have KY45 := Aside0.mk hy45; have KA45 := Aside0.mk hA45; clear hy45 hA45; replace q45 := eq_true q45; obtain ⟨Ao46, co46, eo46⟩ := Kd.R_slice HO_9.out; subst eo46) | (go_at_call 13; (with_reducible refine (crossroadsref1_Eval.calls k3 _ _ y319 _ _ x9_2 true _ ?side1 ?side2 ?side3 ?side4 A41.out).mono ?_); (case side1 => repeat (first | exact (Kd.C_below HR322.out HB.out) | (with_reducible refine Kd.C_alloc ?_ _) | (with_reducible refine Kd.C_drewN ?_ _) | (with_reducible refine Kd.C_drew ?_))); (case side2 => exact HC322.out); (case side3 => repeat (first | exact (Kd.R_reads' HO_9.out).2.2 | (with_reducible refine Kd.C_alloc ?_ _) | (with_reducible refine Kd.C_drewN ?_ _) | (with_reducible refine Kd.C_drew ?_))); (case side4 => exact (Kd.R_reads' HO_9.out).2.1); rintro e w47 ⟨rfl, hb⟩; have n0_ := Aside0.mk (Kd.R_below (by (with_reducible repeat (first | apply Kd.R_alloc | apply Kd.R_drewN | apply Kd.R_drew)); exact HO_9.out) hb); have n1_ := Aside0.mk (below_step (by repeat (first | (with_reducible first | exact HB.out | apply below_alloc | apply pw_below_drewN | apply below_drew1) | exact HB.out)) hb); clear HO_9; clear HB; have HO_9 := n0_; have HB := n1_; clear n0_ n1_; (try clear hb); (try clear hb2); (try clear hk); (try clear hi))))
                                  go_roundg k3
                                  case measure => have := HJ5.out; have := HK2.out; have := HK3.out; omega
                                  case rel => exact ⟨(wrap64 (x12_3 + 1)), (by first | rfl | (simp; done) | (simp [*]; done)), H', ⟨by have := HJ5.out; have := HK2.out; have := HK3.out; omega⟩, ⟨by (with_reducible repeat (first | apply Kd.R_alloc | apply Kd.R_drewN | apply Kd.R_drew)); exact HO_9.out⟩, ⟨by repeat (first | (with_reducible first | exact HB.out | apply below_alloc | apply pw_below_drewN | apply below_drew1) | exact HB.out)⟩⟩
                                · replace c42 := Bool.eq_false_iff.mpr c42
                                  subst c42
                                  have H1 : (none) = some r := by rw [if_neg (show ¬ (false = true) by decide)] at H; exact H
                                  clear H
                                  have H := H1
                                  clear H1
                                  exact absurd H (by simp)
                              · replace c37 := Bool.eq_false_iff.mpr c37
                                subst c37
                                have H1 : (crossroadslaw4_ClausePure.l1 k3 l1 l2 x9_2 (wrap64 (x12_3 + 1))) = some r := by rw [if_neg (show ¬ (false = true) by decide)] at H; exact H
                                clear H
                                have H := H1
                                clear H1
                                have H' := Aside0.mk H
                                clear H
                                have q48 : ((wrap64 (x12_3 + 1)) : Int) ≤ ((l1.length : Int) : Int) := of_decide_eq_true (by first | (with_reducible assumption) | assumption)
                                obtain ⟨i048, hi048, _, hsz48, _⟩ := info_parts info22
                                have hroom48 : l1.length ≤ c1 := HC1.out
                                have hC48 : Kd.C (Kd.slice 3 (Kd.int .i64)) _ A1 l1.length l1 := HR1.out
                                have ql48 : (x12_3 : Int) ≤ ((wrap64 (x12_3 + 1)) : Int) := of_decide_eq_true (by first | (with_reducible assumption) | assumption)
                                have q048 : (0 : Int) ≤ (x12_3 : Int) := of_decide_eq_true (by first | (with_reducible assumption) | assumption)
                                have hcut48 := cut_mid (P := Try.prog) 29 22 .i64 .i64 Try.underlying29 hi048 1 hsz48 A1 l1.length c1 x12_3 (wrap64 (x12_3 + 1)) q048 ql48 q48 hroom48
                                have hr48 := Kd.C_mid (lo := (x12_3 : Int).toNat) (hi := ((wrap64 (x12_3 + 1)) : Int).toNat) (c := c1) hC48 (by omega) (by omega) hroom48
                                obtain ⟨A48, hA48⟩ : ∃ Az_, Az_ = (if c1 = (x12_3 : Int).toNat then A1 else (A1 : Option Addr).map (·.add ((x12_3 : Int).toNat * 1))) := ⟨_, rfl⟩
                                obtain ⟨c48, hc48⟩ : ∃ cz_, cz_ = c1 - (x12_3 : Int).toNat := ⟨_, rfl⟩
                                have hy48 : y319.length = ((wrap64 (x12_3 + 1)) : Int).toNat - (x12_3 : Int).toNat := (by rw [Ny319.out, List.length_drop, List.length_take] <;> omega)
                                rw [show ((l1).take ((wrap64 (x12_3 + 1)) : Int).toNat).drop (x12_3 : Int).toNat = y319 from Ny319.out.symm] at hr48
                                replace hr48 : Kd.C (Kd.slice 3 (Kd.int .i64)) _ A48 y319.length y319 := (by rw [hA48]; exact hr48)
                                rw [← hy48, ← hA48, ← hc48] at hcut48
                                have HR322 := Aside0.mk hr48
                                have HC322 := Aside0.mk (show y319.length ≤ c48 from by rw [hy48, hc48]; exact Nat.sub_le_sub_right (Nat.le_trans (by omega) hroom48) _)
                                clear hr48 hC48 hroom48 hi048 hsz48 hc48
                                have KY48 := Aside0.mk hy48
                                have KA48 := Aside0.mk hA48
                                clear hy48 hA48
                                replace q48 := eq_true q48
                                go_wp2_with (first | (go_at_call 13; (with_reducible refine (crossroadsref1_Eval.calls k3 _ _ y319 _ _ l2 false _ ?side1 ?side2 ?side3 ?side4 A36.out).mono ?_); (case side1 => repeat (first | exact (Kd.C_below HR322.out HB.out) | (with_reducible refine Kd.C_alloc ?_ _) | (with_reducible refine Kd.C_drewN ?_ _) | (with_reducible refine Kd.C_drew ?_))); (case side2 => exact HC322.out); (case side3 => repeat (first | exact (Kd.C_below HR2.out HB.out) | (with_reducible refine Kd.C_alloc ?_ _) | (with_reducible refine Kd.C_drewN ?_ _) | (with_reducible refine Kd.C_drew ?_))); (case side4 => exact HC2.out); rintro e w49 ⟨rfl, hb⟩; have n0_ := Aside0.mk (Kd.R_below (by (with_reducible repeat (first | apply Kd.R_alloc | apply Kd.R_drewN | apply Kd.R_drew)); exact HO_9.out) hb); have n1_ := Aside0.mk (below_step (by repeat (first | (with_reducible first | exact HB.out | apply below_alloc | apply pw_below_drewN | apply below_drew1) | exact HB.out)) hb); clear HO_9; clear HB; have HO_9 := n0_; have HB := n1_; clear n0_ n1_; (try clear hb); (try clear hb2); (try clear hk); (try clear hi)))
                                repeat (go_quiet (first | (go_at_call 13; (with_reducible refine (crossroadsref1_Eval.calls k3 _ _ y319 _ _ l2 false _ ?side1 ?side2 ?side3 ?side4 A36.out).mono ?_); (case side1 => repeat (first | exact (Kd.C_below HR322.out HB.out) | (with_reducible refine Kd.C_alloc ?_ _) | (with_reducible refine Kd.C_drewN ?_ _) | (with_reducible refine Kd.C_drew ?_))); (case side2 => exact HC322.out); (case side3 => repeat (first | exact (Kd.C_below HR2.out HB.out) | (with_reducible refine Kd.C_alloc ?_ _) | (with_reducible refine Kd.C_drewN ?_ _) | (with_reducible refine Kd.C_drew ?_))); (case side4 => exact HC2.out); rintro e w49 ⟨rfl, hb⟩; have n0_ := Aside0.mk (Kd.R_below (by (with_reducible repeat (first | apply Kd.R_alloc | apply Kd.R_drewN | apply Kd.R_drew)); exact HO_9.out) hb); have n1_ := Aside0.mk (below_step (by repeat (first | (with_reducible first | exact HB.out | apply below_alloc | apply pw_below_drewN | apply below_drew1) | exact HB.out)) hb); clear HO_9; clear HB; have HO_9 := n0_; have HB := n1_; clear n0_ n1_; (try clear hb); (try clear hb2); (try clear hk); (try clear hi))); try go_wp2_with (first | (go_at_call 13; (with_reducible refine (crossroadsref1_Eval.calls k3 _ _ y319 _ _ l2 false _ ?side1 ?side2 ?side3 ?side4 A36.out).mono ?_); (case side1 => repeat (first | exact (Kd.C_below HR322.out HB.out) | (with_reducible refine Kd.C_alloc ?_ _) | (with_reducible refine Kd.C_drewN ?_ _) | (with_reducible refine Kd.C_drew ?_))); (case side2 => exact HC322.out); (case side3 => repeat (first | exact (Kd.C_below HR2.out HB.out) | (with_reducible refine Kd.C_alloc ?_ _) | (with_reducible refine Kd.C_drewN ?_ _) | (with_reducible refine Kd.C_drew ?_))); (case side4 => exact HC2.out); rintro e w49 ⟨rfl, hb⟩; have n0_ := Aside0.mk (Kd.R_below (by (with_reducible repeat (first | apply Kd.R_alloc | apply Kd.R_drewN | apply Kd.R_drew)); exact HO_9.out) hb); have n1_ := Aside0.mk (below_step (by repeat (first | (with_reducible first | exact HB.out | apply below_alloc | apply pw_below_drewN | apply below_drew1) | exact HB.out)) hb); clear HO_9; clear HB; have HO_9 := n0_; have HB := n1_; clear n0_ n1_; (try clear hb); (try clear hb2); (try clear hk); (try clear hi))))
                                go_roundg k3
                                case measure => have := HJ5.out; have := HK2.out; have := HK3.out; omega
                                case rel => exact ⟨(wrap64 (x12_3 + 1)), (by first | rfl | (simp; done) | (simp [*]; done)), H', ⟨by have := HJ5.out; have := HK2.out; have := HK3.out; omega⟩, ⟨by (with_reducible repeat (first | apply Kd.R_alloc | apply Kd.R_drewN | apply Kd.R_drew)); exact HO_9.out⟩, ⟨by repeat (first | (with_reducible first | exact HB.out | apply below_alloc | apply pw_below_drewN | apply below_drew1) | exact HB.out)⟩⟩
                            · rw [if_neg c35] at H
                              exact absurd H (by simp)
                          · rw [if_neg c34] at H
                            exact absurd H (by simp)
                        · rw [if_neg c33] at H
                          exact absurd H (by simp)
                      · rw [if_neg c32] at H
                        have c32b0 : decide (x12_3 < (l1.length : Int)) = false := decide_eq_false c32
                        clear c32
                        obtain rfl := Option.some.inj H
                        go_wp2
                        repeat (go_quiet (fail); try go_wp2)
                        go_ret
                        exact ⟨by first | rfl | (simp [errW_none, errW_some] <;> rfl) | (simp [*, errW_none, errW_some] <;> rfl), by repeat (first | (with_reducible first | exact HB.out | apply below_alloc | apply pw_below_drewN | apply below_drew1) | exact HB.out)⟩
          · rw [if_neg c14] at H
            exact absurd H (by simp)
  · replace c5 := Bool.eq_false_iff.mpr c5
    subst c5
    have H1 : (none) = some r := by rw [if_neg (show ¬ (false = true) by decide)] at H; exact H
    clear H
    have H := H1
    clear H1
    exact absurd H (by simp)

/-- THE ONE PURE STATEMENT of crossroadslaw4_ClausePure. -/
def crossroadslaw4_ClausePure.Pure : Prop := ∀ (a0 : Int) (l1 : List (List Int)) (l2 : List Bool), (Lit.int .u8 a0).wf = true → (l1.length * 24 ≤ 140737488351232 ∧ l1.length ≤ 9223372036854775807 ∧ ∀ y1_ ∈ l1, (y1_.length * 8 ≤ 140737488351232 ∧ y1_.length ≤ 9223372036854775807 ∧ ∀ y2_ ∈ y1_, (Lit.int .i64 y2_).wf = true)) → (l2.length * 1 ≤ 140737488351232 ∧ l2.length ≤ 9223372036854775807 ∧ ∀ y3_ ∈ l2, True) → ∃ k, crossroadslaw4_ClausePure.f k a0 l1 l2 = some true

-- NOT PRINTED: function 5 (crossroadslaw4_ClauseEvals)

end Go.Proofs.Ytlfghalebkgclaa.P
