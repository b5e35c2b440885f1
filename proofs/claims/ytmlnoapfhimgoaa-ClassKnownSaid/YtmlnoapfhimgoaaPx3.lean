-- Laid by a program of this session (the kit's print, changed): Lean checks it.
import Derived.Test.YtmlnoapfhimgoaaPx0
import Derived.Test.YtmlnoapfhimgoaaPx1
import Derived.Test.YtmlnoapfhimgoaaPx2
import Derived.Test.YtmlnoapfhimgoaaGMay
import Derived.Test.YtmlnoapfhimgoaaGNth
namespace Go.Proofs.Ytmlnoapfhimgoaa.G
end Go.Proofs.Ytmlnoapfhimgoaa.G
namespace Go.Proofs.Ytmlnoapfhimgoaa.P
open Go.Proofs.Ytmlnoapfhimgoaa.G
open Go.RowKit Go.Proofs.YtmlnoapfhimgoaaW.PrintWords Go.Proofs.YtmlnoapfhimgoaaW.PrintLast Go.Proofs.YtmlnoapfhimgoaaW.PrintMore
attribute [local go_sem] max2_int min2_int max_two min_two max_three min_three max_four min_four   -- for this text's walks alone
set_option linter.unusedVariables false
set_option linter.unusedSimpArgs false

/-! ### crossroadslaw17_awake: function 9 -/
def crossroadslaw17_awake.f (k : Nat)  : Option (Bool) := (some (([(⟨(⟨#[97]⟩ : ByteArray), false, 1⟩ : S38)] : List (S38)) : List (S38))).bind fun y145 => ((class_Nth.f y145 ([] : List Int) 0 0 0 1).bind fun bt149 => ((class_May.f y145 ([] : List Int) 0 0 0).bind fun t160 => (if t160 = true then ((class_Count.f k y145 ([] : List Int) 0 0 0).bind fun t161 => (if t161 = 257 then (if bt149.2.2.2 = true then (if (bt149.1.length : Int) = 1 then (if 0 < (bt149.1.length : Int) then (if (strOfNums (rd_L7 bt149.1 0)).toList = ([0] : List UInt8) then ((class_Has.f k y145 ([] : List Int) 0 0 0 bt149.1 bt149.2.1 bt149.2.2.1).bind fun t163 => (if t163 = true then ((class_Files.f k y145 ([] : List Int) 0 0 0).bind fun t164 => (some ((t164.length : Int) == 1))) else (none))) else (none)) else (none)) else (none)) else (none)) else (none))) else (none))))
theorem crossroadslaw17_awake.mono : ∀ k, LeO (crossroadslaw17_awake.f k ) (crossroadslaw17_awake.f (k + 1) ) := by
  intro  k
  unfold crossroadslaw17_awake.f
  repeat' first
      | (with_reducible exact class_Count.mono _ _ _ _ _ _)
      | (with_reducible exact class_Files.mono _ _ _ _ _ _)
      | (with_reducible exact class_Has.mono _ _ _ _ _ _ _ _ _)
      | (with_reducible exact LeO.refl _)
      | (with_reducible exact LeO.none _)
      | (with_reducible refine LeO.ite ?_ ?_)
      | (with_reducible refine LeO.bind ?_ (fun _ => ?_))
      | exact class_Count.mono _ _ _ _ _ _
      | exact class_Files.mono _ _ _ _ _ _
      | exact class_Has.mono _ _ _ _ _ _ _ _ _
      | exact LeO.none _
      | refine LeO.ite ?_ ?_
      | refine LeO.bind ?_ (fun _ => ?_)
set_option maxHeartbeats 8000000 in
set_option maxRecDepth 100000 in
theorem crossroadslaw17_awake.calls (k : Nat)  (r : Bool) (w : World) (h : crossroadslaw17_awake.f k  = some r) :
    Calls Try.prog 9 #[] w fun e w' => e = .returned (.bool r) ∧ Below w.heap.size w w' := by
  have hu38 := Try.underlying38
  have hu25 := Try.underlying25
  have hu31 := Try.underlying31
  have HB := Aside0.mk (Below.refl w.heap.size w)
  have H : ((some (([(⟨(⟨#[97]⟩ : ByteArray), false, 1⟩ : S38)] : List (S38)) : List (S38))).bind fun y145 => ((class_Nth.f y145 ([] : List Int) 0 0 0 1).bind fun bt149 => ((class_May.f y145 ([] : List Int) 0 0 0).bind fun t160 => (if t160 = true then ((class_Count.f k y145 ([] : List Int) 0 0 0).bind fun t161 => (if t161 = 257 then (if bt149.2.2.2 = true then (if (bt149.1.length : Int) = 1 then (if 0 < (bt149.1.length : Int) then (if (strOfNums (rd_L7 bt149.1 0)).toList = ([0] : List UInt8) then ((class_Has.f k y145 ([] : List Int) 0 0 0 bt149.1 bt149.2.1 bt149.2.2.1).bind fun t163 => (if t163 = true then ((class_Files.f k y145 ([] : List Int) 0 0 0).bind fun t164 => (some ((t164.length : Int) == 1))) else (none))) else (none)) else (none)) else (none)) else (none)) else (none))) else (none))))) = some r := h
  clear h
  obtain ⟨y145, hy145⟩ : ∃ y_ : List (S38), y_ = (([(⟨(⟨#[97]⟩ : ByteArray), false, 1⟩ : S38)] : List (S38))) := ⟨_, rfl⟩
  replace H : ((class_Nth.f y145 ([] : List Int) 0 0 0 1).bind fun bt149 => ((class_May.f y145 ([] : List Int) 0 0 0).bind fun t160 => (if t160 = true then ((class_Count.f k y145 ([] : List Int) 0 0 0).bind fun t161 => (if t161 = 257 then (if bt149.2.2.2 = true then (if (bt149.1.length : Int) = 1 then (if 0 < (bt149.1.length : Int) then (if (strOfNums (rd_L7 bt149.1 0)).toList = ([0] : List UInt8) then ((class_Has.f k y145 ([] : List Int) 0 0 0 bt149.1 bt149.2.1 bt149.2.2.1).bind fun t163 => (if t163 = true then ((class_Files.f k y145 ([] : List Int) 0 0 0).bind fun t164 => (some ((t164.length : Int) == 1))) else (none))) else (none)) else (none)) else (none)) else (none)) else (none))) else (none)))) = some r := by first | (rw [hy145]; with_reducible exact H) | (have H2_ := (Option.bind_some _ _).symm.trans H; rw [hy145]; with_reducible exact H2_) | (have H2_ := (Option.bind_some _ _).symm.trans H; with_reducible exact H2_) | with_reducible exact H | (rw [hy145]; exact H) | exact H
  have Ny145 := Aside0.mk hy145
  clear hy145
  replace H := Option.bind_eq_some_iff.mp H
  obtain ⟨⟨t149, t152, t155, t158⟩, A10, H⟩ := H
  replace H : ((class_May.f y145 ([] : List Int) 0 0 0).bind fun t160 => (if t160 = true then ((class_Count.f k y145 ([] : List Int) 0 0 0).bind fun t161 => (if t161 = 257 then (if t158 = true then (if (t149.length : Int) = 1 then (if 0 < (t149.length : Int) then (if (strOfNums (rd_L7 t149 0)).toList = ([0] : List UInt8) then ((class_Has.f k y145 ([] : List Int) 0 0 0 t149 t152 t155).bind fun t163 => (if t163 = true then ((class_Files.f k y145 ([] : List Int) 0 0 0).bind fun t164 => (some ((t164.length : Int) == 1))) else (none))) else (none)) else (none)) else (none)) else (none)) else (none))) else (none))) = some r := H
  have A1 := Aside0.mk A10
  clear A10
  replace H := Option.bind_eq_some_iff.mp H
  obtain ⟨t160, A20, H⟩ := H
  replace H : (if t160 = true then ((class_Count.f k y145 ([] : List Int) 0 0 0).bind fun t161 => (if t161 = 257 then (if t158 = true then (if (t149.length : Int) = 1 then (if 0 < (t149.length : Int) then (if (strOfNums (rd_L7 t149 0)).toList = ([0] : List UInt8) then ((class_Has.f k y145 ([] : List Int) 0 0 0 t149 t152 t155).bind fun t163 => (if t163 = true then ((class_Files.f k y145 ([] : List Int) 0 0 0).bind fun t164 => (some ((t164.length : Int) == 1))) else (none))) else (none)) else (none)) else (none)) else (none)) else (none))) else (none)) = some r := H
  have A2 := Aside0.mk A20
  clear A20
  by_cases c3 : t160 = true
  · subst c3
    have H1 : ((class_Count.f k y145 ([] : List Int) 0 0 0).bind fun t161 => (if t161 = 257 then (if t158 = true then (if (t149.length : Int) = 1 then (if 0 < (t149.length : Int) then (if (strOfNums (rd_L7 t149 0)).toList = ([0] : List UInt8) then ((class_Has.f k y145 ([] : List Int) 0 0 0 t149 t152 t155).bind fun t163 => (if t163 = true then ((class_Files.f k y145 ([] : List Int) 0 0 0).bind fun t164 => (some ((t164.length : Int) == 1))) else (none))) else (none)) else (none)) else (none)) else (none)) else (none))) = some r := by rw [if_pos rfl] at H; exact H
    clear H
    have H := H1
    clear H1
    replace H := Option.bind_eq_some_iff.mp H
    obtain ⟨t161, A40, H⟩ := H
    replace H : (if t161 = 257 then (if t158 = true then (if (t149.length : Int) = 1 then (if 0 < (t149.length : Int) then (if (strOfNums (rd_L7 t149 0)).toList = ([0] : List UInt8) then ((class_Has.f k y145 ([] : List Int) 0 0 0 t149 t152 t155).bind fun t163 => (if t163 = true then ((class_Files.f k y145 ([] : List Int) 0 0 0).bind fun t164 => (some ((t164.length : Int) == 1))) else (none))) else (none)) else (none)) else (none)) else (none)) else (none)) = some r := H
    have A4 := Aside0.mk A40
    clear A40
    by_cases c5 : t161 = 257
    · rw [if_pos c5] at H
      have c5b0 : (t161 == 257) = true := beq_iff_eq.mpr c5
      have c5b1 : (t161 != 257) = false := bne_eq_false_iff_eq.mpr c5
      clear c5
      by_cases c6 : t158 = true
      · subst c6
        have H1 : (if (t149.length : Int) = 1 then (if 0 < (t149.length : Int) then (if (strOfNums (rd_L7 t149 0)).toList = ([0] : List UInt8) then ((class_Has.f k y145 ([] : List Int) 0 0 0 t149 t152 t155).bind fun t163 => (if t163 = true then ((class_Files.f k y145 ([] : List Int) 0 0 0).bind fun t164 => (some ((t164.length : Int) == 1))) else (none))) else (none)) else (none)) else (none)) = some r := by rw [if_pos rfl] at H; exact H
        clear H
        have H := H1
        clear H1
        by_cases c7 : (t149.length : Int) = 1
        · rw [if_pos c7] at H
          have c7b0 : ((t149.length : Int) == 1) = true := beq_iff_eq.mpr c7
          have c7b1 : ((t149.length : Int) != 1) = false := bne_eq_false_iff_eq.mpr c7
          clear c7
          by_cases c8 : 0 < (t149.length : Int)
          · rw [if_pos c8] at H
            have c8b0 : decide (0 < (t149.length : Int)) = true := decide_eq_true c8
            have c8b1 : decide (0 < t149.length) = true := decide_eq_true (by omega)
            clear c8
            by_cases c9 : (strOfNums (rd_L7 t149 0)).toList = ([0] : List UInt8)
            · rw [if_pos c9] at H
              have c9b0 : ((strOfNums (rd_L7 t149 0)).toList == ([0] : List UInt8)) = true := beq_iff_eq.mpr c9
              have c9b1 : ((strOfNums (rd_L7 t149 0)).toList != ([0] : List UInt8)) = false := bne_eq_false_iff_eq.mpr c9
              clear c9
              replace H := Option.bind_eq_some_iff.mp H
              obtain ⟨t163, A100, H⟩ := H
              replace H : (if t163 = true then ((class_Files.f k y145 ([] : List Int) 0 0 0).bind fun t164 => (some ((t164.length : Int) == 1))) else (none)) = some r := H
              have A10 := Aside0.mk A100
              clear A100
              by_cases c11 : t163 = true
              · subst c11
                have H1 : ((class_Files.f k y145 ([] : List Int) 0 0 0).bind fun t164 => (some ((t164.length : Int) == 1))) = some r := by rw [if_pos rfl] at H; exact H
                clear H
                have H := H1
                clear H1
                replace H := Option.bind_eq_some_iff.mp H
                obtain ⟨t164, A120, H⟩ := H
                replace H : (some ((t164.length : Int) == 1)) = some r := H
                have A12 := Aside0.mk A120
                clear A120
                obtain rfl := Option.some.inj H
                go_enter Try.func9, Try.ntmps9
                go_wp2_with (first | ((with_reducible refine gate_dst (N := 5) rfl ?_); (try (refine gate_guard (by rfl) ?_; dsimp only)); refine Kd.R_lit k38 _ 38 ?hg (N := 5) ?hd (xs := ([(⟨(⟨#[97]⟩ : ByteArray), false, 1⟩ : S38)] : List (S38))) (inner := [.string (⟨#[97]⟩ : ByteArray), .bool false, .int .i64 1]) (ok := fun _ => True) (okp := fun _ => True) ?hr ?hp (fun _ hk => hk) trivial (Below.refl _ _) (Nat.le_refl _) (by simp) ?_; (case hd => rfl); (case hg => rfl); (case hr => first | (go_simp; done) | (go_simp; rfl)); (case hp => exact (Reps.c3 (show Kd.M k38 _ _ _ (⟨(⟨#[97]⟩ : ByteArray), false, 1⟩ : S38) [.string (⟨#[97]⟩ : ByteArray), .bool false, .int .i64 1] from (k38_mkM _ _ _ (⟨(⟨#[97]⟩ : ByteArray), false, 1⟩ : S38) )) (Reps.none _ _))); intro v146 w13 ho14 hb hg_ hnew_; clear hg_ hnew_; (first | rw [← Ny145.out] at ho14 | (simp only [Int.reduceToNat] at ho14; rw [← Ny145.out] at ho14)); have n0_ := Aside0.mk (Kd.R_lower ho14 (below_size (by repeat (first | (with_reducible first | exact HB.out | apply below_alloc | apply pw_below_drewN | apply below_drew1) | exact HB.out)))); have n1_ := Aside0.mk (below_step (by repeat (first | (with_reducible first | exact HB.out | apply below_alloc | apply pw_below_drewN | apply below_drew1) | exact HB.out)) hb); clear HB; have HO147 := n0_; have HB := n1_; clear n0_ n1_; clear hb ho14; obtain ⟨Ao15, co15, eo15⟩ := Kd.R_slice HO147.out; subst eo15) | ((with_reducible refine gate_dst (N := 1) rfl ?_); (try (refine gate_guard (by rfl) ?_; dsimp only)); refine box_event ?hg (N := 1) ?hd (cs := #[.slice none 0 0, .slice none 0 0, .int .i64 0, .int .i64 0, .int .i64 0]) (t := 25) ?hr ?_; (case hd => rfl); (case hg => rfl); (case hr => first | (go_simp; done) | (go_simp; rfl)); intro gb148 hg w16 hbox hb; have n0_ := Aside0.mk (Kd.R_below (by (with_reducible repeat (first | apply Kd.R_alloc | apply Kd.R_drewN | apply Kd.R_drew)); exact HO147.out) hb); have n1_ := Aside0.mk (below_step (by repeat (first | (with_reducible first | exact HB.out | apply below_alloc | apply pw_below_drewN | apply below_drew1) | exact HB.out)) hb); have n2_ := Aside0.mk (hbox); have n3_ := Aside0.mk ((by rw [hg]; exact (below_size (by repeat (first | (with_reducible first | exact HB.out | apply below_alloc | apply pw_below_drewN | apply below_drew1) | exact HB.out))) : w.heap.size ≤ gb148)); have n4_ := Aside0.mk ((by rw [hg]; exact (below_size (by repeat (first | (with_reducible first | exact HB.out | apply below_alloc | apply pw_below_drewN | apply below_drew1) | exact HB.out))) : w.heap.size ≤ gb148)); clear HO147; clear HB; have HO147 := n0_; have HB := n1_; have BK148 := n2_; have GW148 := n3_; have GE148 := n4_; clear n0_ n1_ n2_ n3_ n4_; clear hb hbox hg; have hcz17_0 : w16.cell? ⟨gb148, 0, none⟩ = some (.slice none 0 0) := (blk_cell BK148.out 0).trans rfl; have hcz17_1 : w16.cell? ⟨gb148, 1, none⟩ = some (.slice none 0 0) := (blk_cell BK148.out 1).trans rfl; have hcz17_2 : w16.cell? ⟨gb148, 2, none⟩ = some (.int .i64 0) := (blk_cell BK148.out 2).trans rfl; have hcz17_3 : w16.cell? ⟨gb148, 3, none⟩ = some (.int .i64 0) := (blk_cell BK148.out 3).trans rfl; have hcz17_4 : w16.cell? ⟨gb148, 4, none⟩ = some (.int .i64 0) := (blk_cell BK148.out 4).trans rfl; have hfz17_0 := blk_frozen BK148.out 0; have hfz17_1 := blk_frozen BK148.out 1; have hfz17_2 := blk_frozen BK148.out 2; have hfz17_3 := blk_frozen BK148.out 3; have hfz17_4 := blk_frozen BK148.out 4) | ((with_reducible refine gate_callee (f := 11) rfl ?_); refine goesL_ (some 9) rfl rfl Try.func11 (by kernel_rfl) rfl #[.agg #[.slice Ao15 y145.length co15, .slice none 0 0, .int .i64 0, .int .i64 0, .int .i64 0], .int .i64 1] rfl (by (try simp only [List.map_toArray, List.map_cons, List.map_nil]); first | done | rfl | (simp only [List.length_drop, List.length_take]; rfl)) ?_; (refine (class_Nth.calls _ _ y145 _ _ ([] : List Int) 0 0 0 1 t149 t152 t155 true _ ?side1 ?side2 ?side3 ?side4 A1.out).mono ?_); (case side1 => refine (Kd.R_reads' (e := 38) (base := w.heap.size) (ok := fun k_ => True) (n := y145.length) (c := co15) ?_).2.2; exact (by (with_reducible repeat (first | apply Kd.R_alloc | apply Kd.R_drewN | apply Kd.R_drew)); exact (Kd.R_mono (Kd.R_far (p := ⟨gb148, 4, none⟩) (Kd.R_far (p := ⟨gb148, 3, none⟩) (Kd.R_far (p := ⟨gb148, 2, none⟩) (Kd.R_far (p := ⟨gb148, 1, none⟩) (Kd.R_far (p := ⟨gb148, 0, none⟩) (Kd.R_types HO147.out BK148.out (by decide)) (fun _ hk => hk.2) (.slice Ao15 y145.length co15)) (fun _ hk => hk.2) (.slice none 0 0)) (fun _ hk => hk.2) (.int .i64 0)) (fun _ hk => hk.2) (.int .i64 0)) (fun _ hk => hk.2) (.int .i64 0)) (fun _ h_ => h_.1)))); (case side2 => exact (Kd.R_reads' HO147.out).2.1); (case side3 => exact Kd.C_nil _ _); (case side4 => exact Nat.le_refl _); rintro e w18 ⟨v150, v153, v156, rfl, ho0, ho1, ho2, hb⟩; refine ⟨_, rfl, ?_⟩; have n0_ := Aside0.mk (Kd.R_below (by (with_reducible repeat (first | apply Kd.R_alloc | apply Kd.R_drewN | apply Kd.R_drew)); exact (Kd.R_mono (Kd.R_far (p := ⟨gb148, 4, none⟩) (Kd.R_far (p := ⟨gb148, 3, none⟩) (Kd.R_far (p := ⟨gb148, 2, none⟩) (Kd.R_far (p := ⟨gb148, 1, none⟩) (Kd.R_far (p := ⟨gb148, 0, none⟩) (Kd.R_types HO147.out BK148.out (by decide)) (fun _ hk => hk.2) (.slice Ao15 y145.length co15)) (fun _ hk => hk.2) (.slice none 0 0)) (fun _ hk => hk.2) (.int .i64 0)) (fun _ hk => hk.2) (.int .i64 0)) (fun _ hk => hk.2) (.int .i64 0)) (fun _ h_ => h_.1))) hb); have n1_ := Aside0.mk (Kd.V_lower (Kd.V_mono (ok' := fun k_ => some k_ ≠ (.slice Ao15 y145.length co15 : Value).ownBlock ∧ k_ ≠ gb148) ho0 (fun k_ hk_ => ⟨(Kd.fresh' (Kd.R_lt (by (with_reducible repeat (first | apply Kd.R_alloc | apply Kd.R_drewN | apply Kd.R_drew)); exact (Kd.R_mono (Kd.R_far (p := ⟨gb148, 4, none⟩) (Kd.R_far (p := ⟨gb148, 3, none⟩) (Kd.R_far (p := ⟨gb148, 2, none⟩) (Kd.R_far (p := ⟨gb148, 1, none⟩) (Kd.R_far (p := ⟨gb148, 0, none⟩) (Kd.R_types HO147.out BK148.out (by decide)) (fun _ hk => hk.2) (.slice Ao15 y145.length co15)) (fun _ hk => hk.2) (.slice none 0 0)) (fun _ hk => hk.2) (.int .i64 0)) (fun _ hk => hk.2) (.int .i64 0)) (fun _ hk => hk.2) (.int .i64 0)) (fun _ h_ => h_.1)))) k_ hk_), (Kd.freshB (g := gb148) (o := .cells #[.slice Ao15 y145.length co15, .slice none 0 0, .int .i64 0, .int .i64 0, .int .i64 0] 25 (0, 0)) (by (with_reducible repeat (first | refine blk_drewN ?_ _ | refine blk_drew ?_ | refine blk_alloc ?_ _)); refine blk_put (cs := #[.slice Ao15 y145.length co15, .slice none 0 0, .int .i64 0, .int .i64 0, .int .i64 0]) ?_ 4 _ rfl; (with_reducible repeat (first | refine blk_drewN ?_ _ | refine blk_drew ?_ | refine blk_alloc ?_ _)); refine blk_put (cs := #[.slice Ao15 y145.length co15, .slice none 0 0, .int .i64 0, .int .i64 0, .int .i64 0]) ?_ 3 _ rfl; (with_reducible repeat (first | refine blk_drewN ?_ _ | refine blk_drew ?_ | refine blk_alloc ?_ _)); refine blk_put (cs := #[.slice Ao15 y145.length co15, .slice none 0 0, .int .i64 0, .int .i64 0, .int .i64 0]) ?_ 2 _ rfl; (with_reducible repeat (first | refine blk_drewN ?_ _ | refine blk_drew ?_ | refine blk_alloc ?_ _)); refine blk_put (cs := #[.slice Ao15 y145.length co15, .slice none 0 0, .int .i64 0, .int .i64 0, .int .i64 0]) ?_ 1 _ rfl; (with_reducible repeat (first | refine blk_drewN ?_ _ | refine blk_drew ?_ | refine blk_alloc ?_ _)); refine blk_put (cs := #[.slice none 0 0, .slice none 0 0, .int .i64 0, .int .i64 0, .int .i64 0]) ?_ 0 _ rfl; (with_reducible repeat (first | refine blk_drewN ?_ _ | refine blk_drew ?_ | refine blk_alloc ?_ _)); exact BK148.out) k_ hk_)⟩)) (below_size (by repeat (first | (with_reducible first | exact HB.out | apply below_alloc | apply pw_below_drewN | apply below_drew1 | refine below_set ?_ GE148.out) | exact HB.out)))); have n2_ := Aside0.mk (Kd.V_lower (Kd.V_mono (ok' := fun k_ => some k_ ≠ (.slice Ao15 y145.length co15 : Value).ownBlock ∧ k_ ≠ gb148) ho1 (fun k_ hk_ => ⟨(Kd.fresh' (Kd.R_lt (by (with_reducible repeat (first | apply Kd.R_alloc | apply Kd.R_drewN | apply Kd.R_drew)); exact (Kd.R_mono (Kd.R_far (p := ⟨gb148, 4, none⟩) (Kd.R_far (p := ⟨gb148, 3, none⟩) (Kd.R_far (p := ⟨gb148, 2, none⟩) (Kd.R_far (p := ⟨gb148, 1, none⟩) (Kd.R_far (p := ⟨gb148, 0, none⟩) (Kd.R_types HO147.out BK148.out (by decide)) (fun _ hk => hk.2) (.slice Ao15 y145.length co15)) (fun _ hk => hk.2) (.slice none 0 0)) (fun _ hk => hk.2) (.int .i64 0)) (fun _ hk => hk.2) (.int .i64 0)) (fun _ hk => hk.2) (.int .i64 0)) (fun _ h_ => h_.1)))) k_ hk_), (Kd.freshB (g := gb148) (o := .cells #[.slice Ao15 y145.length co15, .slice none 0 0, .int .i64 0, .int .i64 0, .int .i64 0] 25 (0, 0)) (by (with_reducible repeat (first | refine blk_drewN ?_ _ | refine blk_drew ?_ | refine blk_alloc ?_ _)); refine blk_put (cs := #[.slice Ao15 y145.length co15, .slice none 0 0, .int .i64 0, .int .i64 0, .int .i64 0]) ?_ 4 _ rfl; (with_reducible repeat (first | refine blk_drewN ?_ _ | refine blk_drew ?_ | refine blk_alloc ?_ _)); refine blk_put (cs := #[.slice Ao15 y145.length co15, .slice none 0 0, .int .i64 0, .int .i64 0, .int .i64 0]) ?_ 3 _ rfl; (with_reducible repeat (first | refine blk_drewN ?_ _ | refine blk_drew ?_ | refine blk_alloc ?_ _)); refine blk_put (cs := #[.slice Ao15 y145.length co15, .slice none 0 0, .int .i64 0, .int .i64 0, .int .i64 0]) ?_ 2 _ rfl; (with_reducible repeat (first | refine blk_drewN ?_ _ | refine blk_drew ?_ | refine blk_alloc ?_ _)); refine blk_put (cs := #[.slice Ao15 y145.length co15, .slice none 0 0, .int .i64 0, .int .i64 0, .int .i64 0]) ?_ 1 _ rfl; (with_reducible repeat (first | refine blk_drewN ?_ _ | refine blk_drew ?_ | refine blk_alloc ?_ _)); refine blk_put (cs := #[.slice none 0 0, .slice none 0 0, .int .i64 0, .int .i64 0, .int .i64 0]) ?_ 0 _ rfl; (with_reducible repeat (first | refine blk_drewN ?_ _ | refine blk_drew ?_ | refine blk_alloc ?_ _)); exact BK148.out) k_ hk_)⟩)) (below_size (by repeat (first | (with_reducible first | exact HB.out | apply below_alloc | apply pw_below_drewN | apply below_drew1 | refine below_set ?_ GE148.out) | exact HB.out)))); have n3_ := Aside0.mk (Kd.V_lower (Kd.V_mono (ok' := fun k_ => some k_ ≠ (.slice Ao15 y145.length co15 : Value).ownBlock ∧ k_ ≠ gb148) ho2 (fun k_ hk_ => ⟨(Kd.fresh' (Kd.R_lt (by (with_reducible repeat (first | apply Kd.R_alloc | apply Kd.R_drewN | apply Kd.R_drew)); exact (Kd.R_mono (Kd.R_far (p := ⟨gb148, 4, none⟩) (Kd.R_far (p := ⟨gb148, 3, none⟩) (Kd.R_far (p := ⟨gb148, 2, none⟩) (Kd.R_far (p := ⟨gb148, 1, none⟩) (Kd.R_far (p := ⟨gb148, 0, none⟩) (Kd.R_types HO147.out BK148.out (by decide)) (fun _ hk => hk.2) (.slice Ao15 y145.length co15)) (fun _ hk => hk.2) (.slice none 0 0)) (fun _ hk => hk.2) (.int .i64 0)) (fun _ hk => hk.2) (.int .i64 0)) (fun _ hk => hk.2) (.int .i64 0)) (fun _ h_ => h_.1)))) k_ hk_), (Kd.freshB (g := gb148) (o := .cells #[.slice Ao15 y145.length co15, .slice none 0 0, .int .i64 0, .int .i64 0, .int .i64 0] 25 (0, 0)) (by (with_reducible repeat (first | refine blk_drewN ?_ _ | refine blk_drew ?_ | refine blk_alloc ?_ _)); refine blk_put (cs := #[.slice Ao15 y145.length co15, .slice none 0 0, .int .i64 0, .int .i64 0, .int .i64 0]) ?_ 4 _ rfl; (with_reducible repeat (first | refine blk_drewN ?_ _ | refine blk_drew ?_ | refine blk_alloc ?_ _)); refine blk_put (cs := #[.slice Ao15 y145.length co15, .slice none 0 0, .int .i64 0, .int .i64 0, .int .i64 0]) ?_ 3 _ rfl; (with_reducible repeat (first | refine blk_drewN ?_ _ | refine blk_drew ?_ | refine blk_alloc ?_ _)); refine blk_put (cs := #[.slice Ao15 y145.length co15, .slice none 0 0, .int .i64 0, .int .i64 0, .int .i64 0]) ?_ 2 _ rfl; (with_reducible repeat (first | refine blk_drewN ?_ _ | refine blk_drew ?_ | refine blk_alloc ?_ _)); refine blk_put (cs := #[.slice Ao15 y145.length co15, .slice none 0 0, .int .i64 0, .int .i64 0, .int .i64 0]) ?_ 1 _ rfl; (with_reducible repeat (first | refine blk_drewN ?_ _ | refine blk_drew ?_ | refine blk_alloc ?_ _)); refine blk_put (cs := #[.slice none 0 0, .slice none 0 0, .int .i64 0, .int .i64 0, .int .i64 0]) ?_ 0 _ rfl; (with_reducible repeat (first | refine blk_drewN ?_ _ | refine blk_drew ?_ | refine blk_alloc ?_ _)); exact BK148.out) k_ hk_)⟩)) (below_size (by repeat (first | (with_reducible first | exact HB.out | apply below_alloc | apply pw_below_drewN | apply below_drew1 | refine below_set ?_ GE148.out) | exact HB.out)))); have n4_ := Aside0.mk (blk_below (g := gb148) (o := .cells #[.slice Ao15 y145.length co15, .slice none 0 0, .int .i64 0, .int .i64 0, .int .i64 0] 25 (0, 0)) (by (with_reducible repeat (first | refine blk_drewN ?_ _ | refine blk_drew ?_ | refine blk_alloc ?_ _)); refine blk_put (cs := #[.slice Ao15 y145.length co15, .slice none 0 0, .int .i64 0, .int .i64 0, .int .i64 0]) ?_ 4 _ rfl; (with_reducible repeat (first | refine blk_drewN ?_ _ | refine blk_drew ?_ | refine blk_alloc ?_ _)); refine blk_put (cs := #[.slice Ao15 y145.length co15, .slice none 0 0, .int .i64 0, .int .i64 0, .int .i64 0]) ?_ 3 _ rfl; (with_reducible repeat (first | refine blk_drewN ?_ _ | refine blk_drew ?_ | refine blk_alloc ?_ _)); refine blk_put (cs := #[.slice Ao15 y145.length co15, .slice none 0 0, .int .i64 0, .int .i64 0, .int .i64 0]) ?_ 2 _ rfl; (with_reducible repeat (first | refine blk_drewN ?_ _ | refine blk_drew ?_ | refine blk_alloc ?_ _)); refine blk_put (cs := #[.slice Ao15 y145.length co15, .slice none 0 0, .int .i64 0, .int .i64 0, .int .i64 0]) ?_ 1 _ rfl; (with_reducible repeat (first | refine blk_drewN ?_ _ | refine blk_drew ?_ | refine blk_alloc ?_ _)); refine blk_put (cs := #[.slice none 0 0, .slice none 0 0, .int .i64 0, .int .i64 0, .int .i64 0]) ?_ 0 _ rfl; (with_reducible repeat (first | refine blk_drewN ?_ _ | refine blk_drew ?_ | refine blk_alloc ?_ _)); exact BK148.out) hb); have n5_ := Aside0.mk (below_step (by repeat (first | (with_reducible first | exact HB.out | apply below_alloc | apply pw_below_drewN | apply below_drew1 | refine below_set ?_ GE148.out) | exact HB.out)) hb); clear HO147; clear BK148; clear HB; have HO147 := n0_; have HO151 := n1_; have HO154 := n2_; have HO157 := n3_; have BK148 := n4_; have HB := n5_; clear n0_ n1_ n2_ n3_ n4_ n5_; (try clear hb); (try clear hb2); (try clear hk); (try clear hi); (try clear ho0); (try clear ho1); (try clear ho2)) | ((with_reducible refine gate_dst (N := 2) rfl ?_); (try (refine gate_guard (by rfl) ?_; dsimp only)); refine box_event ?hg (N := 2) ?hd (cs := #[.slice none 0 0, .slice none 0 0, .slice none 0 0]) (t := 31) ?hr ?_; (case hd => rfl); (case hg => rfl); (case hr => first | (go_simp; done) | (go_simp; rfl)); intro gb159 hg w19 hbox hb; have n0_ := Aside0.mk (Kd.R_below (by (with_reducible repeat (first | apply Kd.R_alloc | apply Kd.R_drewN | apply Kd.R_drew)); exact HO147.out) hb); have n1_ := Aside0.mk (Kd.V_below (Kd.V_elderB (by (with_reducible repeat (first | apply Kd.V_alloc | apply Kd.V_drewN | apply Kd.V_drew)); exact HO151.out) gb159 (Nat.le_of_eq hg.symm)) hb); have n2_ := Aside0.mk (Kd.V_below (Kd.V_elderB (by (with_reducible repeat (first | apply Kd.V_alloc | apply Kd.V_drewN | apply Kd.V_drew)); exact HO154.out) gb159 (Nat.le_of_eq hg.symm)) hb); have n3_ := Aside0.mk (Kd.V_below (Kd.V_elderB (by (with_reducible repeat (first | apply Kd.V_alloc | apply Kd.V_drewN | apply Kd.V_drew)); exact HO157.out) gb159 (Nat.le_of_eq hg.symm)) hb); have n4_ := Aside0.mk (blk_below (g := gb148) (o := .cells #[.slice Ao15 y145.length co15, .slice none 0 0, .int .i64 0, .int .i64 0, .int .i64 0] 25 (0, 0)) (by (with_reducible repeat (first | refine blk_drewN ?_ _ | refine blk_drew ?_ | refine blk_alloc ?_ _)); exact BK148.out) hb); have n5_ := Aside0.mk (below_step (by repeat (first | (with_reducible first | exact HB.out | apply below_alloc | apply pw_below_drewN | apply below_drew1 | refine below_set ?_ GE148.out) | exact HB.out)) hb); have n6_ := Aside0.mk (hbox); have n7_ := Aside0.mk ((by rw [hg]; exact (below_size (by repeat (first | (with_reducible first | exact HB.out | apply below_alloc | apply pw_below_drewN | apply below_drew1 | refine below_set ?_ GE148.out) | exact HB.out))) : w.heap.size ≤ gb159)); have n8_ := Aside0.mk ((by rw [hg]; exact (below_size (by repeat (first | (with_reducible first | exact HB.out | apply below_alloc | apply pw_below_drewN | apply below_drew1 | refine below_set ?_ GE148.out) | exact HB.out))) : w.heap.size ≤ gb159)); have n9_ := Aside0.mk ((by rw [hg]; exact Nat.ne_of_lt (blk_lt (g := gb148) (o := .cells #[.slice Ao15 y145.length co15, .slice none 0 0, .int .i64 0, .int .i64 0, .int .i64 0] 25 (0, 0)) (by (with_reducible repeat (first | refine blk_drewN ?_ _ | refine blk_drew ?_ | refine blk_alloc ?_ _)); exact BK148.out)) : gb148 ≠ gb159)); have n10_ := Aside0.mk ((by rw [hg]; exact Nat.ne_of_gt (blk_lt (g := gb148) (o := .cells #[.slice Ao15 y145.length co15, .slice none 0 0, .int .i64 0, .int .i64 0, .int .i64 0] 25 (0, 0)) (by (with_reducible repeat (first | refine blk_drewN ?_ _ | refine blk_drew ?_ | refine blk_alloc ?_ _)); exact BK148.out)) : gb159 ≠ gb148)); clear HO147; clear HO151; clear HO154; clear HO157; clear BK148; clear HB; have HO147 := n0_; have HO151 := n1_; have HO154 := n2_; have HO157 := n3_; have BK148 := n4_; have HB := n5_; have BK159 := n6_; have GW159 := n7_; have GE159 := n8_; have NB148_159 := n9_; have NB159_148 := n10_; clear n0_ n1_ n2_ n3_ n4_ n5_ n6_ n7_ n8_ n9_ n10_; clear hb hbox hg; obtain ⟨Ao20, co20, eo20⟩ := Kd.V_slice HO151.out; subst eo20; have hnb21 := NB159_148.out; have hnc21 := NB148_159.out; have hcz22_0 : w19.cell? ⟨gb159, 0, none⟩ = some (.slice none 0 0) := (blk_cell BK159.out 0).trans rfl; have hcz22_1 : w19.cell? ⟨gb159, 1, none⟩ = some (.slice none 0 0) := (blk_cell BK159.out 1).trans rfl; have hcz22_2 : w19.cell? ⟨gb159, 2, none⟩ = some (.slice none 0 0) := (blk_cell BK159.out 2).trans rfl; have hfz22_0 := blk_frozen BK159.out 0; have hfz22_1 := blk_frozen BK159.out 1; have hfz22_2 := blk_frozen BK159.out 2; obtain ⟨Ao23, co23, eo23⟩ := Kd.V_slice HO154.out; subst eo23; obtain ⟨Ao24, co24, eo24⟩ := Kd.V_slice HO157.out; subst eo24; have hcz25_0 : w19.cell? ⟨gb148, 0, none⟩ = some (.slice Ao15 y145.length co15) := (blk_cell BK148.out 0).trans rfl; have hcz25_1 : w19.cell? ⟨gb148, 1, none⟩ = some (.slice none 0 0) := (blk_cell BK148.out 1).trans rfl; have hcz25_2 : w19.cell? ⟨gb148, 2, none⟩ = some (.int .i64 0) := (blk_cell BK148.out 2).trans rfl; have hcz25_3 : w19.cell? ⟨gb148, 3, none⟩ = some (.int .i64 0) := (blk_cell BK148.out 3).trans rfl; have hcz25_4 : w19.cell? ⟨gb148, 4, none⟩ = some (.int .i64 0) := (blk_cell BK148.out 4).trans rfl; have hfz25_0 := blk_frozen BK148.out 0; have hfz25_1 := blk_frozen BK148.out 1; have hfz25_2 := blk_frozen BK148.out 2; have hfz25_3 := blk_frozen BK148.out 3; have hfz25_4 := blk_frozen BK148.out 4) | ((with_reducible refine gate_callee (f := 13) rfl ?_); refine goesL_ (some 13) rfl rfl Try.func13 (by kernel_rfl) rfl #[.agg #[.slice Ao15 y145.length co15, .slice none 0 0, .int .i64 0, .int .i64 0, .int .i64 0]] rfl (by (try simp only [List.map_toArray, List.map_cons, List.map_nil]); first | done | rfl | (simp only [List.length_drop, List.length_take]; rfl)) ?_; (refine (class_May.calls _ _ y145 _ _ ([] : List Int) 0 0 0 true _ ?side1 ?side2 ?side3 ?side4 A2.out).mono ?_); (case side1 => refine (Kd.R_reads' (e := 38) (base := w.heap.size) (ok := fun k_ => True) (n := y145.length) (c := co15) ?_).2.2; exact (by (with_reducible repeat (first | apply Kd.R_alloc | apply Kd.R_drewN | apply Kd.R_drew)); exact (Kd.R_mono (Kd.R_far (p := ⟨gb159, 2, none⟩) (Kd.R_far (p := ⟨gb159, 1, none⟩) (Kd.R_far (p := ⟨gb159, 0, none⟩) (Kd.R_types HO147.out BK159.out (by decide)) (fun _ hk => hk.2) (.slice Ao20 t149.length co20)) (fun _ hk => hk.2) (.slice Ao23 t152.length co23)) (fun _ hk => hk.2) (.slice Ao24 t155.length co24)) (fun _ h_ => h_.1)))); (case side2 => exact (Kd.R_reads' HO147.out).2.1); (case side3 => exact Kd.C_nil _ _); (case side4 => exact Nat.le_refl _); rintro e w26 ⟨rfl, hb⟩; refine ⟨_, rfl, ?_⟩; have n0_ := Aside0.mk (Kd.R_below (by (with_reducible repeat (first | apply Kd.R_alloc | apply Kd.R_drewN | apply Kd.R_drew)); exact (Kd.R_mono (Kd.R_far (p := ⟨gb159, 2, none⟩) (Kd.R_far (p := ⟨gb159, 1, none⟩) (Kd.R_far (p := ⟨gb159, 0, none⟩) (Kd.R_types HO147.out BK159.out (by decide)) (fun _ hk => hk.2) (.slice Ao20 t149.length co20)) (fun _ hk => hk.2) (.slice Ao23 t152.length co23)) (fun _ hk => hk.2) (.slice Ao24 t155.length co24)) (fun _ h_ => h_.1))) hb); have n1_ := Aside0.mk (Kd.V_below (by (with_reducible repeat (first | apply Kd.V_alloc | apply Kd.V_drewN | apply Kd.V_drew)); exact (Kd.V_mono (Kd.V_far (p := ⟨gb159, 2, none⟩) (Kd.V_far (p := ⟨gb159, 1, none⟩) (Kd.V_far (p := ⟨gb159, 0, none⟩) (Kd.V_mono HO151.out (fun k_ hk => (⟨hk, hk.2⟩ : _ ∧ k_ ≠ gb159))) (fun _ hk => hk.2) (.slice Ao20 t149.length co20)) (fun _ hk => hk.2) (.slice Ao23 t152.length co23)) (fun _ hk => hk.2) (.slice Ao24 t155.length co24)) (fun _ h_ => h_.1))) hb); have n2_ := Aside0.mk (Kd.V_below (by (with_reducible repeat (first | apply Kd.V_alloc | apply Kd.V_drewN | apply Kd.V_drew)); exact (Kd.V_mono (Kd.V_far (p := ⟨gb159, 2, none⟩) (Kd.V_far (p := ⟨gb159, 1, none⟩) (Kd.V_far (p := ⟨gb159, 0, none⟩) (Kd.V_mono HO154.out (fun k_ hk => (⟨hk, hk.2⟩ : _ ∧ k_ ≠ gb159))) (fun _ hk => hk.2) (.slice Ao20 t149.length co20)) (fun _ hk => hk.2) (.slice Ao23 t152.length co23)) (fun _ hk => hk.2) (.slice Ao24 t155.length co24)) (fun _ h_ => h_.1))) hb); have n3_ := Aside0.mk (Kd.V_below (by (with_reducible repeat (first | apply Kd.V_alloc | apply Kd.V_drewN | apply Kd.V_drew)); exact (Kd.V_mono (Kd.V_far (p := ⟨gb159, 2, none⟩) (Kd.V_far (p := ⟨gb159, 1, none⟩) (Kd.V_far (p := ⟨gb159, 0, none⟩) (Kd.V_mono HO157.out (fun k_ hk => (⟨hk, hk.2⟩ : _ ∧ k_ ≠ gb159))) (fun _ hk => hk.2) (.slice Ao20 t149.length co20)) (fun _ hk => hk.2) (.slice Ao23 t152.length co23)) (fun _ hk => hk.2) (.slice Ao24 t155.length co24)) (fun _ h_ => h_.1))) hb); have n4_ := Aside0.mk (blk_below (g := gb148) (o := .cells #[.slice Ao15 y145.length co15, .slice none 0 0, .int .i64 0, .int .i64 0, .int .i64 0] 25 (0, 0)) (by (with_reducible repeat (first | refine blk_drewN ?_ _ | refine blk_drew ?_ | refine blk_alloc ?_ _)); refine blk_far ?_ NB148_159.out _; (with_reducible repeat (first | refine blk_drewN ?_ _ | refine blk_drew ?_ | refine blk_alloc ?_ _)); refine blk_far ?_ NB148_159.out _; (with_reducible repeat (first | refine blk_drewN ?_ _ | refine blk_drew ?_ | refine blk_alloc ?_ _)); refine blk_far ?_ NB148_159.out _; (with_reducible repeat (first | refine blk_drewN ?_ _ | refine blk_drew ?_ | refine blk_alloc ?_ _)); exact BK148.out) hb); have n5_ := Aside0.mk (blk_below (g := gb159) (o := .cells #[.slice Ao20 t149.length co20, .slice Ao23 t152.length co23, .slice Ao24 t155.length co24] 31 (0, 0)) (by (with_reducible repeat (first | refine blk_drewN ?_ _ | refine blk_drew ?_ | refine blk_alloc ?_ _)); refine blk_put (cs := #[.slice Ao20 t149.length co20, .slice Ao23 t152.length co23, .slice none 0 0]) ?_ 2 _ rfl; (with_reducible repeat (first | refine blk_drewN ?_ _ | refine blk_drew ?_ | refine blk_alloc ?_ _)); refine blk_put (cs := #[.slice Ao20 t149.length co20, .slice none 0 0, .slice none 0 0]) ?_ 1 _ rfl; (with_reducible repeat (first | refine blk_drewN ?_ _ | refine blk_drew ?_ | refine blk_alloc ?_ _)); refine blk_put (cs := #[.slice none 0 0, .slice none 0 0, .slice none 0 0]) ?_ 0 _ rfl; (with_reducible repeat (first | refine blk_drewN ?_ _ | refine blk_drew ?_ | refine blk_alloc ?_ _)); exact BK159.out) hb); have n6_ := Aside0.mk (below_step (by repeat (first | (with_reducible first | exact HB.out | apply below_alloc | apply pw_below_drewN | apply below_drew1 | refine below_set ?_ GE148.out | refine below_set ?_ GE159.out) | exact HB.out)) hb); clear HO147; clear HO151; clear HO154; clear HO157; clear BK148; clear BK159; clear HB; have HO147 := n0_; have HO151 := n1_; have HO154 := n2_; have HO157 := n3_; have BK148 := n4_; have BK159 := n5_; have HB := n6_; clear n0_ n1_ n2_ n3_ n4_ n5_ n6_; (try clear hb); (try clear hb2); (try clear hk); (try clear hi); have hcz27_0 : w26.cell? ⟨gb148, 0, none⟩ = some (.slice Ao15 y145.length co15) := (blk_cell BK148.out 0).trans rfl; have hcz27_1 : w26.cell? ⟨gb148, 1, none⟩ = some (.slice none 0 0) := (blk_cell BK148.out 1).trans rfl; have hcz27_2 : w26.cell? ⟨gb148, 2, none⟩ = some (.int .i64 0) := (blk_cell BK148.out 2).trans rfl; have hcz27_3 : w26.cell? ⟨gb148, 3, none⟩ = some (.int .i64 0) := (blk_cell BK148.out 3).trans rfl; have hcz27_4 : w26.cell? ⟨gb148, 4, none⟩ = some (.int .i64 0) := (blk_cell BK148.out 4).trans rfl; have hfz27_0 := blk_frozen BK148.out 0; have hfz27_1 := blk_frozen BK148.out 1; have hfz27_2 := blk_frozen BK148.out 2; have hfz27_3 := blk_frozen BK148.out 3; have hfz27_4 := blk_frozen BK148.out 4) | (go_at_call 15; (refine (class_Count.calls k _ _ y145 _ _ ([] : List Int) 0 0 0 t161 _ ?side1 ?side2 ?side3 ?side4 A4.out).mono ?_); (case side1 => repeat (first | exact (Kd.R_reads' HO147.out).2.2 | (with_reducible refine Kd.C_alloc ?_ _) | (with_reducible refine Kd.C_drewN ?_ _) | (with_reducible refine Kd.C_drew ?_))); (case side2 => exact (Kd.R_reads' HO147.out).2.1); (case side3 => exact Kd.C_nil _ _); (case side4 => exact Nat.le_refl _); rintro e w28 ⟨rfl, hb⟩; have n0_ := Aside0.mk (Kd.R_below (by (with_reducible repeat (first | apply Kd.R_alloc | apply Kd.R_drewN | apply Kd.R_drew)); exact HO147.out) hb); have n1_ := Aside0.mk (Kd.V_below (by (with_reducible repeat (first | apply Kd.V_alloc | apply Kd.V_drewN | apply Kd.V_drew)); exact HO151.out) hb); have n2_ := Aside0.mk (Kd.V_below (by (with_reducible repeat (first | apply Kd.V_alloc | apply Kd.V_drewN | apply Kd.V_drew)); exact HO154.out) hb); have n3_ := Aside0.mk (Kd.V_below (by (with_reducible repeat (first | apply Kd.V_alloc | apply Kd.V_drewN | apply Kd.V_drew)); exact HO157.out) hb); have n4_ := Aside0.mk (blk_below (g := gb148) (o := .cells #[.slice Ao15 y145.length co15, .slice none 0 0, .int .i64 0, .int .i64 0, .int .i64 0] 25 (0, 0)) (by (with_reducible repeat (first | refine blk_drewN ?_ _ | refine blk_drew ?_ | refine blk_alloc ?_ _)); exact BK148.out) hb); have n5_ := Aside0.mk (blk_below (g := gb159) (o := .cells #[.slice Ao20 t149.length co20, .slice Ao23 t152.length co23, .slice Ao24 t155.length co24] 31 (0, 0)) (by (with_reducible repeat (first | refine blk_drewN ?_ _ | refine blk_drew ?_ | refine blk_alloc ?_ _)); exact BK159.out) hb); have n6_ := Aside0.mk (below_step (by repeat (first | (with_reducible first | exact HB.out | apply below_alloc | apply pw_below_drewN | apply below_drew1 | refine below_set ?_ GE148.out | refine below_set ?_ GE159.out) | exact HB.out)) hb); clear HO147; clear HO151; clear HO154; clear HO157; clear BK148; clear BK159; clear HB; have HO147 := n0_; have HO151 := n1_; have HO154 := n2_; have HO157 := n3_; have BK148 := n4_; have BK159 := n5_; have HB := n6_; clear n0_ n1_ n2_ n3_ n4_ n5_ n6_; (try clear hb); (try clear hb2); (try clear hk); (try clear hi); have hcz29_0 : w28.cell? ⟨gb159, 0, none⟩ = some (.slice Ao20 t149.length co20) := (blk_cell BK159.out 0).trans rfl; have hcz29_1 : w28.cell? ⟨gb159, 1, none⟩ = some (.slice Ao23 t152.length co23) := (blk_cell BK159.out 1).trans rfl; have hcz29_2 : w28.cell? ⟨gb159, 2, none⟩ = some (.slice Ao24 t155.length co24) := (blk_cell BK159.out 2).trans rfl; have hfz29_0 := blk_frozen BK159.out 0; have hfz29_1 := blk_frozen BK159.out 1; have hfz29_2 := blk_frozen BK159.out 2; have p162 : 0 ≤ (0 : Int) := (by omega); have q162 : 0 < (t149.length : Int) := of_decide_eq_true (by first | (with_reducible assumption) | assumption); obtain ⟨ad162, A162_0, c162_0, e162, hx162_0, hl162_0, hi162_0⟩ := at_L7 (Kd.V_reads' HO151.out).2.2 0 p162 q162; cases e162; obtain ⟨ce162, hce162, hMe162, hcc162⟩ := Kd.V_get HO151.out [] 0 p162 (by first | exact q162 | exact of_decide_eq_true (by first | (with_reducible assumption) | assumption) | (have e_ := (Kd.V_reads' HO151.out).1; omega)); obtain ⟨ua162_0, uc162_0, rfl, ul162_0, ge162_0⟩ := Kd.FK_slice_open hMe162; have hv162_0 := hcc162 0 _ rfl; rw [Nat.add_zero, show ((Kd.slice 5 (Kd.int .u8))).sz = 1 from rfl, Nat.mul_one] at hv162_0; replace hv162_0 := Option.some.inj (hv162_0.symm.trans hx162_0); injection hv162_0 with hva_ hvn_ hvc_; rw [hva_] at ge162_0; rw [hvc_] at ul162_0; have HL162_0 := Aside0.mk (show Kd.V (Kd.int .u8) 5 _ w.heap.size _ _ (rd_L7 t149 0) from Kd.V_mk ul162_0 ge162_0); clear hva_ hvn_ hvc_ ge162_0 ul162_0; clear hcc162 hce162; have qi162 : (0 < t149.length) = True := eq_true (by omega); (try rw [show ((0 : Int)).toNat = 0 from rfl] at hx162_0); (try rw [Addr.add_zero'] at hx162_0); have HR162_0 := Aside0.mk hi162_0; have HC162_0 := Aside0.mk hl162_0; clear hi162_0 hl162_0; replace p162 := eq_true p162; replace q162 := eq_true q162; have hcv30 := Kd.C_string (P := Try.prog) (A := A162_0) (c := c162_0) Try.underlying42 Try.underlying5 Try.underlying9 (by repeat (first | (with_reducible exact HR162_0.out) | (with_reducible refine Kd.C_alloc ?_ _) | (with_reducible refine Kd.C_drewN ?_ _) | (with_reducible refine Kd.C_drew ?_) | exact HR162_0.out)); have hcz31_0 : w28.cell? ⟨gb148, 0, none⟩ = some (.slice Ao15 y145.length co15) := (blk_cell BK148.out 0).trans rfl; have hcz31_1 : w28.cell? ⟨gb148, 1, none⟩ = some (.slice none 0 0) := (blk_cell BK148.out 1).trans rfl; have hcz31_2 : w28.cell? ⟨gb148, 2, none⟩ = some (.int .i64 0) := (blk_cell BK148.out 2).trans rfl; have hcz31_3 : w28.cell? ⟨gb148, 3, none⟩ = some (.int .i64 0) := (blk_cell BK148.out 3).trans rfl; have hcz31_4 : w28.cell? ⟨gb148, 4, none⟩ = some (.int .i64 0) := (blk_cell BK148.out 4).trans rfl; have hfz31_0 := blk_frozen BK148.out 0; have hfz31_1 := blk_frozen BK148.out 1; have hfz31_2 := blk_frozen BK148.out 2; have hfz31_3 := blk_frozen BK148.out 3; have hfz31_4 := blk_frozen BK148.out 4) | (go_at_call 19; (refine (class_Has.calls k _ _ y145 _ _ ([] : List Int) 0 0 0 _ _ t149 _ _ t152 _ _ t155 true _ ?side1 ?side2 ?side3 ?side4 ?side5 ?side6 ?side7 ?side8 ?side9 ?side10 A10.out).mono ?_); (case side1 => repeat (first | exact (Kd.R_reads' HO147.out).2.2 | (with_reducible refine Kd.C_alloc ?_ _) | (with_reducible refine Kd.C_drewN ?_ _) | (with_reducible refine Kd.C_drew ?_))); (case side2 => exact (Kd.R_reads' HO147.out).2.1); (case side3 => exact Kd.C_nil _ _); (case side4 => exact Nat.le_refl _); (case side5 => repeat (first | exact (Kd.V_reads' HO151.out).2.2 | (with_reducible refine Kd.C_alloc ?_ _) | (with_reducible refine Kd.C_drewN ?_ _) | (with_reducible refine Kd.C_drew ?_))); (case side6 => exact (Kd.V_reads' HO151.out).2.1); (case side7 => repeat (first | exact (Kd.V_reads' HO154.out).2.2 | (with_reducible refine Kd.C_alloc ?_ _) | (with_reducible refine Kd.C_drewN ?_ _) | (with_reducible refine Kd.C_drew ?_))); (case side8 => exact (Kd.V_reads' HO154.out).2.1); (case side9 => repeat (first | exact (Kd.V_reads' HO157.out).2.2 | (with_reducible refine Kd.C_alloc ?_ _) | (with_reducible refine Kd.C_drewN ?_ _) | (with_reducible refine Kd.C_drew ?_))); (case side10 => exact (Kd.V_reads' HO157.out).2.1); rintro e w32 ⟨rfl, hb⟩; have n0_ := Aside0.mk (Kd.R_below (by (with_reducible repeat (first | apply Kd.R_alloc | apply Kd.R_drewN | apply Kd.R_drew)); exact HO147.out) hb); have n1_ := Aside0.mk (Kd.V_below (by (with_reducible repeat (first | apply Kd.V_alloc | apply Kd.V_drewN | apply Kd.V_drew)); exact HO151.out) hb); have n2_ := Aside0.mk (Kd.V_below (by (with_reducible repeat (first | apply Kd.V_alloc | apply Kd.V_drewN | apply Kd.V_drew)); exact HO154.out) hb); have n3_ := Aside0.mk (Kd.V_below (by (with_reducible repeat (first | apply Kd.V_alloc | apply Kd.V_drewN | apply Kd.V_drew)); exact HO157.out) hb); have n4_ := Aside0.mk (Kd.V_below (by (with_reducible repeat (first | apply Kd.V_alloc | apply Kd.V_drewN | apply Kd.V_drew)); exact HL162_0.out) hb); have n5_ := Aside0.mk (blk_below (g := gb148) (o := .cells #[.slice Ao15 y145.length co15, .slice none 0 0, .int .i64 0, .int .i64 0, .int .i64 0] 25 (0, 0)) (by (with_reducible repeat (first | refine blk_drewN ?_ _ | refine blk_drew ?_ | refine blk_alloc ?_ _)); exact BK148.out) hb); have n6_ := Aside0.mk (blk_below (g := gb159) (o := .cells #[.slice (some ad162) t149.length co20, .slice Ao23 t152.length co23, .slice Ao24 t155.length co24] 31 (0, 0)) (by (with_reducible repeat (first | refine blk_drewN ?_ _ | refine blk_drew ?_ | refine blk_alloc ?_ _)); exact BK159.out) hb); have n7_ := Aside0.mk (Kd.C_below (by repeat (first | (with_reducible exact HR162_0.out) | (with_reducible refine Kd.C_alloc ?_ _) | (with_reducible refine Kd.C_drewN ?_ _) | (with_reducible refine Kd.C_drew ?_) | exact HR162_0.out)) hb); have n8_ := Aside0.mk (below_step (by repeat (first | (with_reducible first | exact HB.out | apply below_alloc | apply pw_below_drewN | apply below_drew1 | refine below_set ?_ GE148.out | refine below_set ?_ GE159.out) | exact HB.out)) hb); clear HO147; clear HO151; clear HO154; clear HO157; clear HL162_0; clear BK148; clear BK159; clear HR162_0; clear HB; have HO147 := n0_; have HO151 := n1_; have HO154 := n2_; have HO157 := n3_; have HL162_0 := n4_; have BK148 := n5_; have BK159 := n6_; have HR162_0 := n7_; have HB := n8_; clear n0_ n1_ n2_ n3_ n4_ n5_ n6_ n7_ n8_; (try clear hb); (try clear hb2); (try clear hk); (try clear hi); have hcz33_0 : w32.cell? ⟨gb148, 0, none⟩ = some (.slice Ao15 y145.length co15) := (blk_cell BK148.out 0).trans rfl; have hcz33_1 : w32.cell? ⟨gb148, 1, none⟩ = some (.slice none 0 0) := (blk_cell BK148.out 1).trans rfl; have hcz33_2 : w32.cell? ⟨gb148, 2, none⟩ = some (.int .i64 0) := (blk_cell BK148.out 2).trans rfl; have hcz33_3 : w32.cell? ⟨gb148, 3, none⟩ = some (.int .i64 0) := (blk_cell BK148.out 3).trans rfl; have hcz33_4 : w32.cell? ⟨gb148, 4, none⟩ = some (.int .i64 0) := (blk_cell BK148.out 4).trans rfl; have hfz33_0 := blk_frozen BK148.out 0; have hfz33_1 := blk_frozen BK148.out 1; have hfz33_2 := blk_frozen BK148.out 2; have hfz33_3 := blk_frozen BK148.out 3; have hfz33_4 := blk_frozen BK148.out 4) | (go_at_call 18; (refine (class_Files.calls k _ _ y145 _ _ ([] : List Int) 0 0 0 t164 _ ?side1 ?side2 ?side3 ?side4 A12.out).mono ?_); (case side1 => repeat (first | exact (Kd.R_reads' HO147.out).2.2 | (with_reducible refine Kd.C_alloc ?_ _) | (with_reducible refine Kd.C_drewN ?_ _) | (with_reducible refine Kd.C_drew ?_))); (case side2 => exact (Kd.R_reads' HO147.out).2.1); (case side3 => exact Kd.C_nil _ _); (case side4 => exact Nat.le_refl _); rintro e w34 ⟨v165, rfl, ho0, hb⟩; have n0_ := Aside0.mk (Kd.R_below (by (with_reducible repeat (first | apply Kd.R_alloc | apply Kd.R_drewN | apply Kd.R_drew)); exact HO147.out) hb); have n1_ := Aside0.mk (Kd.V_elder' (by (with_reducible repeat (first | apply Kd.V_alloc | apply Kd.V_drewN | apply Kd.V_drew)); exact HO151.out) (Kd.R_base ho0) hb); have n2_ := Aside0.mk (Kd.V_elder' (by (with_reducible repeat (first | apply Kd.V_alloc | apply Kd.V_drewN | apply Kd.V_drew)); exact HO154.out) (Kd.R_base ho0) hb); have n3_ := Aside0.mk (Kd.V_elder' (by (with_reducible repeat (first | apply Kd.V_alloc | apply Kd.V_drewN | apply Kd.V_drew)); exact HO157.out) (Kd.R_base ho0) hb); have n4_ := Aside0.mk (Kd.V_elder' (by (with_reducible repeat (first | apply Kd.V_alloc | apply Kd.V_drewN | apply Kd.V_drew)); exact HL162_0.out) (Kd.R_base ho0) hb); have n5_ := Aside0.mk (Kd.R_lower ho0 (below_size (by repeat (first | (with_reducible first | exact HB.out | apply below_alloc | apply pw_below_drewN | apply below_drew1 | refine below_set ?_ GE148.out | refine below_set ?_ GE159.out) | exact HB.out)))); have n6_ := Aside0.mk (blk_below (g := gb148) (o := .cells #[.slice Ao15 y145.length co15, .slice none 0 0, .int .i64 0, .int .i64 0, .int .i64 0] 25 (0, 0)) (by (with_reducible repeat (first | refine blk_drewN ?_ _ | refine blk_drew ?_ | refine blk_alloc ?_ _)); exact BK148.out) hb); have n7_ := Aside0.mk (blk_below (g := gb159) (o := .cells #[.slice (some ad162) t149.length co20, .slice Ao23 t152.length co23, .slice Ao24 t155.length co24] 31 (0, 0)) (by (with_reducible repeat (first | refine blk_drewN ?_ _ | refine blk_drew ?_ | refine blk_alloc ?_ _)); exact BK159.out) hb); have n8_ := Aside0.mk (Kd.C_below (by repeat (first | (with_reducible exact HR162_0.out) | (with_reducible refine Kd.C_alloc ?_ _) | (with_reducible refine Kd.C_drewN ?_ _) | (with_reducible refine Kd.C_drew ?_) | exact HR162_0.out)) hb); have n9_ := Aside0.mk (below_step (by repeat (first | (with_reducible first | exact HB.out | apply below_alloc | apply pw_below_drewN | apply below_drew1 | refine below_set ?_ GE148.out | refine below_set ?_ GE159.out) | exact HB.out)) hb); clear HO147; clear HO151; clear HO154; clear HO157; clear HL162_0; clear BK148; clear BK159; clear HR162_0; clear HB; have HO147 := n0_; have HO151 := n1_; have HO154 := n2_; have HO157 := n3_; have HL162_0 := n4_; have HO166 := n5_; have BK148 := n6_; have BK159 := n7_; have HR162_0 := n8_; have HB := n9_; clear n0_ n1_ n2_ n3_ n4_ n5_ n6_ n7_ n8_ n9_; (try clear hb); (try clear hb2); (try clear hk); (try clear hi); (try clear ho0); obtain ⟨Ao35, co35, eo35⟩ := Kd.R_slice HO166.out; subst eo35))
                go_ret
                exact ⟨by first | rfl | (simp [errW_none, errW_some] <;> rfl) | (simp [*, errW_none, errW_some] <;> rfl), by repeat (first | (with_reducible first | exact HB.out | apply below_alloc | apply pw_below_drewN | apply below_drew1 | refine below_set ?_ GE148.out | refine below_set ?_ GE159.out) | exact HB.out)⟩
              · replace c11 := Bool.eq_false_iff.mpr c11
                subst c11
                have H1 : (none) = some r := by rw [if_neg (show ¬ (false = true) by decide)] at H; exact H
                clear H
                have H := H1
                clear H1
                exact absurd H (by simp)
            · rw [if_neg c9] at H
              exact absurd H (by simp)
          · rw [if_neg c8] at H
            exact absurd H (by simp)
        · rw [if_neg c7] at H
          exact absurd H (by simp)
      · replace c6 := Bool.eq_false_iff.mpr c6
        subst c6
        have H1 : (none) = some r := by rw [if_neg (show ¬ (false = true) by decide)] at H; exact H
        clear H
        have H := H1
        clear H1
        exact absurd H (by simp)
    · rw [if_neg c5] at H
      exact absurd H (by simp)
  · replace c3 := Bool.eq_false_iff.mpr c3
    subst c3
    have H1 : (none) = some r := by rw [if_neg (show ¬ (false = true) by decide)] at H; exact H
    clear H
    have H := H1
    clear H1
    exact absurd H (by simp)

/-! ### crossroadsref17_sameTexts: function 34 -/
def crossroadsref17_sameTexts.l0 : Nat → List (List Int) → List (List Int) → Int → Option (Bool)
  | 0, _, _, _ => none
  | k + 1, x0, x1, x5 => if x5 < (x0.length : Int) then (if 0 ≤ x5 then (if x5 < (x1.length : Int) then (if (strOfNums (rd_L7 x0 x5)).toList = (strOfNums (rd_L7 x1 x5)).toList then (crossroadsref17_sameTexts.l0 k x0 x1 (wrap64 (x5 + 1))) else (some false)) else (none)) else (none)) else (some true)
def crossroadsref17_sameTexts.f (k : Nat) (l0 : List (List Int)) (l1 : List (List Int)) : Option (Bool) := if (l0.length : Int) = (l1.length : Int) then (crossroadsref17_sameTexts.l0 k l0 l1 0) else (some false)
theorem crossroadsref17_sameTexts.mono_l : ∀ k, (∀ y0 y1 y2, LeO (crossroadsref17_sameTexts.l0 k y0 y1 y2) (crossroadsref17_sameTexts.l0 (k + 1) y0 y1 y2))
  | 0 => fun _ _ _ r h => by simp [crossroadsref17_sameTexts.l0] at h
  | k + 1 => by
    have ih0 := crossroadsref17_sameTexts.mono_l k
    · intro y0 y1 y2
      unfold crossroadsref17_sameTexts.l0
      repeat' first
      | (with_reducible exact ih0 _ _ _)
      | (with_reducible exact LeO.refl _)
      | (with_reducible exact LeO.none _)
      | (with_reducible refine LeO.ite ?_ ?_)
      | (with_reducible refine LeO.bind ?_ (fun _ => ?_))
      | exact ih0 _ _ _
      | exact LeO.none _
      | refine LeO.ite ?_ ?_
      | refine LeO.bind ?_ (fun _ => ?_)
theorem crossroadsref17_sameTexts.mono : ∀ a0 a1 k, LeO (crossroadsref17_sameTexts.f k a0 a1) (crossroadsref17_sameTexts.f (k + 1) a0 a1) := by
  intro a0 a1 k
  have ih0 := crossroadsref17_sameTexts.mono_l k
  unfold crossroadsref17_sameTexts.f
  repeat' first
      | (with_reducible exact ih0 _ _ _)
      | (with_reducible exact LeO.refl _)
      | (with_reducible exact LeO.none _)
      | (with_reducible refine LeO.ite ?_ ?_)
      | (with_reducible refine LeO.bind ?_ (fun _ => ?_))
      | exact ih0 _ _ _
      | exact LeO.none _
      | refine LeO.ite ?_ ?_
      | refine LeO.bind ?_ (fun _ => ?_)
set_option maxHeartbeats 8000000 in
set_option maxRecDepth 100000 in
theorem crossroadsref17_sameTexts.calls (k : Nat) (A0 : Option Addr) (c0 : Nat) (l0 : List (List Int)) (A1 : Option Addr) (c1 : Nat) (l1 : List (List Int)) (r : Bool) (w : World) (hr0 : Kd.C (Kd.slice 5 (Kd.int .u8)) w A0 l0.length l0) (hc0 : l0.length ≤ c0) (hr1 : Kd.C (Kd.slice 5 (Kd.int .u8)) w A1 l1.length l1) (hc1 : l1.length ≤ c1) (h : crossroadsref17_sameTexts.f k l0 l1 = some r) :
    Calls Try.prog 34 #[.slice A0 l0.length c0, .slice A1 l1.length c1] w fun e w' => e = .returned (.bool r) ∧ Drawn0 w w' := by
  have HR0 := Aside0.mk hr0
  have HC0 := Aside0.mk hc0
  clear hr0 hc0
  have HR1 := Aside0.mk hr1
  have HC1 := Aside0.mk hc1
  clear hr1 hc1
  have H : (if (l0.length : Int) = (l1.length : Int) then (crossroadsref17_sameTexts.l0 k l0 l1 0) else (some false)) = some r := h
  clear h
  by_cases c3 : (l0.length : Int) = (l1.length : Int)
  · rw [if_pos c3] at H
    have c3b0 : ((l0.length : Int) == (l1.length : Int)) = true := beq_iff_eq.mpr c3
    have c3b1 : ((l0.length : Int) != (l1.length : Int)) = false := bne_eq_false_iff_eq.mpr c3
    have c3b2 : (l0.length == l1.length) = true := by first | simpa using c3 | (simp at c3 ⊢; omega)
    clear c3
    have H' := Aside0.mk H
    clear H
    go_enter Try.func34, Try.ntmps34
    go_wp2
    repeat (go_quiet (fail); try go_wp2)
    go_loopg [5] k (fun kq v5 w' => ∃ (x5_1 : Int), v5 = .int .i64 x5_1 ∧ Aside0 (crossroadsref17_sameTexts.l0 kq l0 l1 x5_1 = some r) ∧ Aside0 (kq ≤ k) ∧ Drawn0 w w')
    case atStart => exact ⟨(0), (by first | rfl | (simp; done) | (simp [*]; done)), H', ⟨Nat.le_refl _⟩, by repeat (first | exact Drawn0.refl _ | apply Drawn0.step)⟩
    case round =>
      clear H'
      try clear c1
      try clear p2
      try clear c3
      try clear c3b0
      try clear c3b1
      try clear c3b2
      obtain ⟨x5_1, rfl, HA, HK1, ⟨m1, rfl⟩⟩ := hrel
      cases gk with
      | zero => exact absurd HA.out (by simp [crossroadsref17_sameTexts.l0])
      | succ k1 =>
        have H := HA.out
        clear HA
        simp only [crossroadsref17_sameTexts.l0] at H
        by_cases c4 : x5_1 < (l0.length : Int)
        · rw [if_pos c4] at H
          have c4b0 : decide (x5_1 < (l0.length : Int)) = true := decide_eq_true c4
          clear c4
          by_cases c5 : 0 ≤ x5_1
          · rw [if_pos c5] at H
            have c5b0 : decide (0 ≤ x5_1) = true := decide_eq_true c5
            clear c5
            by_cases c6 : x5_1 < (l1.length : Int)
            · rw [if_pos c6] at H
              have c6b0 : decide (x5_1 < (l1.length : Int)) = true := decide_eq_true c6
              clear c6
              by_cases c7 : (strOfNums (rd_L7 l0 x5_1)).toList = (strOfNums (rd_L7 l1 x5_1)).toList
              · rw [if_pos c7] at H
                have c7b0 : ((strOfNums (rd_L7 l0 x5_1)).toList == (strOfNums (rd_L7 l1 x5_1)).toList) = true := beq_iff_eq.mpr c7
                have c7b1 : ((strOfNums (rd_L7 l0 x5_1)).toList != (strOfNums (rd_L7 l1 x5_1)).toList) = false := bne_eq_false_iff_eq.mpr c7
                clear c7
                have H' := Aside0.mk H
                clear H
                have p167 : 0 ≤ (x5_1 : Int) := of_decide_eq_true (by first | (with_reducible assumption) | assumption)
                have q167 : x5_1 < (l0.length : Int) := of_decide_eq_true (by first | (with_reducible assumption) | assumption)
                obtain ⟨ad167, A167_0, c167_0, e167, hx167_0, hl167_0, hi167_0⟩ := at_L7 HR0.out x5_1 p167 q167
                cases e167
                have HR167_0 := Aside0.mk hi167_0
                have HC167_0 := Aside0.mk hl167_0
                clear hi167_0 hl167_0
                replace p167 := eq_true p167
                replace q167 := eq_true q167
                have hcv8 := Kd.C_string (P := Try.prog) (A := A167_0) (c := c167_0) Try.underlying42 Try.underlying5 Try.underlying9 HR167_0.out
                have hcv8n := fun n_ => Kd.C_string (P := Try.prog) (A := A167_0) (c := c167_0) Try.underlying42 Try.underlying5 Try.underlying9 (Kd.C_drewN HR167_0.out n_)
                have p168 : 0 ≤ (x5_1 : Int) := of_decide_eq_true (by first | (with_reducible assumption) | assumption)
                have q168 : x5_1 < (l1.length : Int) := of_decide_eq_true (by first | (with_reducible assumption) | assumption)
                obtain ⟨ad168, A168_0, c168_0, e168, hx168_0, hl168_0, hi168_0⟩ := at_L7 HR1.out x5_1 p168 q168
                cases e168
                have HR168_0 := Aside0.mk hi168_0
                have HC168_0 := Aside0.mk hl168_0
                clear hi168_0 hl168_0
                replace p168 := eq_true p168
                replace q168 := eq_true q168
                have hcv9 := Kd.C_string (P := Try.prog) (A := A168_0) (c := c168_0) Try.underlying42 Try.underlying5 Try.underlying9 HR168_0.out
                have hcv9n := fun n_ => Kd.C_string (P := Try.prog) (A := A168_0) (c := c168_0) Try.underlying42 Try.underlying5 Try.underlying9 (Kd.C_drewN HR168_0.out n_)
                go_wp2
                repeat (go_quiet (fail); try go_wp2)
                go_roundg k1
                case measure => have := HK1.out; omega
                case rel => exact ⟨(wrap64 (x5_1 + 1)), (by first | rfl | (simp; done) | (simp [*]; done)), H', ⟨by have := HK1.out; omega⟩, by repeat (first | exact Drawn0.refl _ | apply Drawn0.step)⟩
              · rw [if_neg c7] at H
                have c7b0 : ((strOfNums (rd_L7 l0 x5_1)).toList == (strOfNums (rd_L7 l1 x5_1)).toList) = false := beq_eq_false_iff_ne.mpr c7
                have c7b1 : ((strOfNums (rd_L7 l0 x5_1)).toList != (strOfNums (rd_L7 l1 x5_1)).toList) = true := bne_iff_ne.mpr c7
                obtain rfl := Option.some.inj H
                have p167 : 0 ≤ (x5_1 : Int) := of_decide_eq_true (by first | (with_reducible assumption) | assumption)
                have q167 : x5_1 < (l0.length : Int) := of_decide_eq_true (by first | (with_reducible assumption) | assumption)
                obtain ⟨ad167, A167_0, c167_0, e167, hx167_0, hl167_0, hi167_0⟩ := at_L7 HR0.out x5_1 p167 q167
                cases e167
                have HR167_0 := Aside0.mk hi167_0
                have HC167_0 := Aside0.mk hl167_0
                clear hi167_0 hl167_0
                replace p167 := eq_true p167
                replace q167 := eq_true q167
                have hcv10 := Kd.C_string (P := Try.prog) (A := A167_0) (c := c167_0) Try.underlying42 Try.underlying5 Try.underlying9 HR167_0.out
                have hcv10n := fun n_ => Kd.C_string (P := Try.prog) (A := A167_0) (c := c167_0) Try.underlying42 Try.underlying5 Try.underlying9 (Kd.C_drewN HR167_0.out n_)
                have p168 : 0 ≤ (x5_1 : Int) := of_decide_eq_true (by first | (with_reducible assumption) | assumption)
                have q168 : x5_1 < (l1.length : Int) := of_decide_eq_true (by first | (with_reducible assumption) | assumption)
                obtain ⟨ad168, A168_0, c168_0, e168, hx168_0, hl168_0, hi168_0⟩ := at_L7 HR1.out x5_1 p168 q168
                cases e168
                have HR168_0 := Aside0.mk hi168_0
                have HC168_0 := Aside0.mk hl168_0
                clear hi168_0 hl168_0
                replace p168 := eq_true p168
                replace q168 := eq_true q168
                have hcv11 := Kd.C_string (P := Try.prog) (A := A168_0) (c := c168_0) Try.underlying42 Try.underlying5 Try.underlying9 HR168_0.out
                have hcv11n := fun n_ => Kd.C_string (P := Try.prog) (A := A168_0) (c := c168_0) Try.underlying42 Try.underlying5 Try.underlying9 (Kd.C_drewN HR168_0.out n_)
                go_wp2
                repeat (go_quiet (fail); try go_wp2)
                go_ret
                exact ⟨by first | rfl | (simp; done) | (simp [*]; done), by repeat (first | exact Drawn0.refl _ | apply Drawn0.step)⟩
            · rw [if_neg c6] at H
              exact absurd H (by simp)
          · rw [if_neg c5] at H
            exact absurd H (by simp)
        · rw [if_neg c4] at H
          have c4b0 : decide (x5_1 < (l0.length : Int)) = false := decide_eq_false c4
          clear c4
          obtain rfl := Option.some.inj H
          go_wp2
          repeat (go_quiet (fail); try go_wp2)
          go_ret
          exact ⟨by first | rfl | (simp; done) | (simp [*]; done), by repeat (first | exact Drawn0.refl _ | apply Drawn0.step)⟩
  · rw [if_neg c3] at H
    have c3b0 : ((l0.length : Int) == (l1.length : Int)) = false := beq_eq_false_iff_ne.mpr c3
    have c3b1 : ((l0.length : Int) != (l1.length : Int)) = true := bne_iff_ne.mpr c3
    have c3b2 : (l0.length == l1.length) = false := by first | simpa using c3 | (simp at c3 ⊢; omega)
    obtain rfl := Option.some.inj H
    go_enter Try.func34, Try.ntmps34
    go_wp2
    repeat (go_quiet (fail); try go_wp2)
    go_ret
    exact ⟨by first | rfl | (simp; done) | (simp [*]; done), by repeat (first | exact Drawn0.refl _ | apply Drawn0.step)⟩

/-! ### crossroadsref17_sameFails: function 35 -/
def crossroadsref17_sameFails.l0 : Nat → List Bool → List Bool → Int → Option (Bool)
  | 0, _, _, _ => none
  | k + 1, x0, x1, x5 => if x5 < (x0.length : Int) then (if 0 ≤ x5 then (if x5 < (x1.length : Int) then (if ((rdOf false x0 x5) != (rdOf false x1 x5)) = true then (some false) else (crossroadsref17_sameFails.l0 k x0 x1 (wrap64 (x5 + 1)))) else (none)) else (none)) else (some true)
def crossroadsref17_sameFails.f (k : Nat) (l0 : List Bool) (l1 : List Bool) : Option (Bool) := if (l0.length : Int) = (l1.length : Int) then (crossroadsref17_sameFails.l0 k l0 l1 0) else (some false)
theorem crossroadsref17_sameFails.mono_l : ∀ k, (∀ y0 y1 y2, LeO (crossroadsref17_sameFails.l0 k y0 y1 y2) (crossroadsref17_sameFails.l0 (k + 1) y0 y1 y2))
  | 0 => fun _ _ _ r h => by simp [crossroadsref17_sameFails.l0] at h
  | k + 1 => by
    have ih0 := crossroadsref17_sameFails.mono_l k
    · intro y0 y1 y2
      unfold crossroadsref17_sameFails.l0
      repeat' first
      | (with_reducible exact ih0 _ _ _)
      | (with_reducible exact LeO.refl _)
      | (with_reducible exact LeO.none _)
      | (with_reducible refine LeO.ite ?_ ?_)
      | (with_reducible refine LeO.bind ?_ (fun _ => ?_))
      | exact ih0 _ _ _
      | exact LeO.none _
      | refine LeO.ite ?_ ?_
      | refine LeO.bind ?_ (fun _ => ?_)
theorem crossroadsref17_sameFails.mono : ∀ a0 a1 k, LeO (crossroadsref17_sameFails.f k a0 a1) (crossroadsref17_sameFails.f (k + 1) a0 a1) := by
  intro a0 a1 k
  have ih0 := crossroadsref17_sameFails.mono_l k
  unfold crossroadsref17_sameFails.f
  repeat' first
      | (with_reducible exact ih0 _ _ _)
      | (with_reducible exact LeO.refl _)
      | (with_reducible exact LeO.none _)
      | (with_reducible refine LeO.ite ?_ ?_)
      | (with_reducible refine LeO.bind ?_ (fun _ => ?_))
      | exact ih0 _ _ _
      | exact LeO.none _
      | refine LeO.ite ?_ ?_
      | refine LeO.bind ?_ (fun _ => ?_)
set_option maxHeartbeats 8000000 in
set_option maxRecDepth 100000 in
theorem crossroadsref17_sameFails.calls (k : Nat) (A0 : Option Addr) (c0 : Nat) (l0 : List Bool) (A1 : Option Addr) (c1 : Nat) (l1 : List Bool) (r : Bool) (w : World) (hr0 : Kd.C Kd.bool w A0 l0.length l0) (hc0 : l0.length ≤ c0) (hr1 : Kd.C Kd.bool w A1 l1.length l1) (hc1 : l1.length ≤ c1) (h : crossroadsref17_sameFails.f k l0 l1 = some r) :
    Calls Try.prog 35 #[.slice A0 l0.length c0, .slice A1 l1.length c1] w fun e w' => e = .returned (.bool r) ∧ Drawn0 w w' := by
  have HR0 := Aside0.mk hr0
  have HC0 := Aside0.mk hc0
  clear hr0 hc0
  have HR1 := Aside0.mk hr1
  have HC1 := Aside0.mk hc1
  clear hr1 hc1
  have H : (if (l0.length : Int) = (l1.length : Int) then (crossroadsref17_sameFails.l0 k l0 l1 0) else (some false)) = some r := h
  clear h
  by_cases c3 : (l0.length : Int) = (l1.length : Int)
  · rw [if_pos c3] at H
    have c3b0 : ((l0.length : Int) == (l1.length : Int)) = true := beq_iff_eq.mpr c3
    have c3b1 : ((l0.length : Int) != (l1.length : Int)) = false := bne_eq_false_iff_eq.mpr c3
    have c3b2 : (l0.length == l1.length) = true := by first | simpa using c3 | (simp at c3 ⊢; omega)
    clear c3
    have H' := Aside0.mk H
    clear H
    go_enter Try.func35, Try.ntmps35
    go_wp2
    repeat (go_quiet (fail); try go_wp2)
    go_loopg [5] k (fun kq v5 w' => ∃ (x5_1 : Int), v5 = .int .i64 x5_1 ∧ Aside0 (crossroadsref17_sameFails.l0 kq l0 l1 x5_1 = some r) ∧ Aside0 (kq ≤ k) ∧ Drawn0 w w')
    case atStart => exact ⟨(0), (by first | rfl | (simp; done) | (simp [*]; done)), H', ⟨Nat.le_refl _⟩, by repeat (first | exact Drawn0.refl _ | apply Drawn0.step)⟩
    case round =>
      clear H'
      try clear c1
      try clear p2
      try clear c3
      try clear c3b0
      try clear c3b1
      try clear c3b2
      obtain ⟨x5_1, rfl, HA, HK1, ⟨m1, rfl⟩⟩ := hrel
      cases gk with
      | zero => exact absurd HA.out (by simp [crossroadsref17_sameFails.l0])
      | succ k1 =>
        have H := HA.out
        clear HA
        simp only [crossroadsref17_sameFails.l0] at H
        by_cases c4 : x5_1 < (l0.length : Int)
        · rw [if_pos c4] at H
          have c4b0 : decide (x5_1 < (l0.length : Int)) = true := decide_eq_true c4
          clear c4
          by_cases c5 : 0 ≤ x5_1
          · rw [if_pos c5] at H
            have c5b0 : decide (0 ≤ x5_1) = true := decide_eq_true c5
            clear c5
            by_cases c6 : x5_1 < (l1.length : Int)
            · rw [if_pos c6] at H
              have c6b0 : decide (x5_1 < (l1.length : Int)) = true := decide_eq_true c6
              clear c6
              by_cases c7 : ((rdOf false l0 x5_1) != (rdOf false l1 x5_1)) = true
              · rw [if_pos c7] at H
                have c7b0 : ((rdOf false l0 x5_1) != (rdOf false l1 x5_1)) = true := c7
                (try (have c7b1 : decide ((rdOf false l0 x5_1) = (rdOf false l1 x5_1)) = false := by simpa using c7))
                (try (have c7b2 : ((rdOf false l0 x5_1) == (rdOf false l1 x5_1)) = false := by simpa using c7))
                (try (have c7b3 : ¬ ((rdOf false l0 x5_1) = (rdOf false l1 x5_1)) := by simpa using c7))
                clear c7
                obtain rfl := Option.some.inj H
                have p169 : 0 ≤ (x5_1 : Int) := of_decide_eq_true (by first | (with_reducible assumption) | assumption)
                have q169 : x5_1 < (l0.length : Int) := of_decide_eq_true (by first | (with_reducible assumption) | assumption)
                obtain ⟨ad169, e169, hx169_0⟩ := Kd.at_bool HR0.out x5_1 p169 q169
                cases e169
                replace p169 := eq_true p169
                replace q169 := eq_true q169
                have p170 : 0 ≤ (x5_1 : Int) := of_decide_eq_true (by first | (with_reducible assumption) | assumption)
                have q170 : x5_1 < (l1.length : Int) := of_decide_eq_true (by first | (with_reducible assumption) | assumption)
                obtain ⟨ad170, e170, hx170_0⟩ := Kd.at_bool HR1.out x5_1 p170 q170
                cases e170
                replace p170 := eq_true p170
                replace q170 := eq_true q170
                go_wp2
                repeat (go_quiet (fail); try go_wp2)
                go_ret
                exact ⟨by first | rfl | (simp; done) | (simp [*]; done), by repeat (first | exact Drawn0.refl _ | apply Drawn0.step)⟩
              · rw [if_neg c7] at H
                have c7b0 : ((rdOf false l0 x5_1) != (rdOf false l1 x5_1)) = false := by simpa using c7
                (try (have c7b1 : decide ((rdOf false l0 x5_1) = (rdOf false l1 x5_1)) = true := by simpa using c7))
                (try (have c7b2 : ((rdOf false l0 x5_1) == (rdOf false l1 x5_1)) = true := by simpa using c7))
                clear c7
                have H' := Aside0.mk H
                clear H
                have p169 : 0 ≤ (x5_1 : Int) := of_decide_eq_true (by first | (with_reducible assumption) | assumption)
                have q169 : x5_1 < (l0.length : Int) := of_decide_eq_true (by first | (with_reducible assumption) | assumption)
                obtain ⟨ad169, e169, hx169_0⟩ := Kd.at_bool HR0.out x5_1 p169 q169
                cases e169
                replace p169 := eq_true p169
                replace q169 := eq_true q169
                have p170 : 0 ≤ (x5_1 : Int) := of_decide_eq_true (by first | (with_reducible assumption) | assumption)
                have q170 : x5_1 < (l1.length : Int) := of_decide_eq_true (by first | (with_reducible assumption) | assumption)
                obtain ⟨ad170, e170, hx170_0⟩ := Kd.at_bool HR1.out x5_1 p170 q170
                cases e170
                replace p170 := eq_true p170
                replace q170 := eq_true q170
                go_wp2
                repeat (go_quiet (fail); try go_wp2)
                go_roundg k1
                case measure => have := HK1.out; omega
                case rel => exact ⟨(wrap64 (x5_1 + 1)), (by first | rfl | (simp; done) | (simp [*]; done)), H', ⟨by have := HK1.out; omega⟩, by repeat (first | exact Drawn0.refl _ | apply Drawn0.step)⟩
            · rw [if_neg c6] at H
              exact absurd H (by simp)
          · rw [if_neg c5] at H
            exact absurd H (by simp)
        · rw [if_neg c4] at H
          have c4b0 : decide (x5_1 < (l0.length : Int)) = false := decide_eq_false c4
          clear c4
          obtain rfl := Option.some.inj H
          go_wp2
          repeat (go_quiet (fail); try go_wp2)
          go_ret
          exact ⟨by first | rfl | (simp; done) | (simp [*]; done), by repeat (first | exact Drawn0.refl _ | apply Drawn0.step)⟩
  · rw [if_neg c3] at H
    have c3b0 : ((l0.length : Int) == (l1.length : Int)) = false := beq_eq_false_iff_ne.mpr c3
    have c3b1 : ((l0.length : Int) != (l1.length : Int)) = true := bne_iff_ne.mpr c3
    have c3b2 : (l0.length == l1.length) = false := by first | simpa using c3 | (simp at c3 ⊢; omega)
    obtain rfl := Option.some.inj H
    go_enter Try.func35, Try.ntmps35
    go_wp2
    repeat (go_quiet (fail); try go_wp2)
    go_ret
    exact ⟨by first | rfl | (simp; done) | (simp [*]; done), by repeat (first | exact Drawn0.refl _ | apply Drawn0.step)⟩

/-! ### crossroadsref17_Same: function 17 -/
def crossroadsref17_Same.f (k : Nat) (l0_0 : List (List Int)) (l0_1 : List (List Int)) (l0_2 : List Bool) (l1_0 : List (List Int)) (l1_1 : List (List Int)) (l1_2 : List Bool) : Option (Bool) := (crossroadsref17_sameTexts.f k l0_0 l1_0).bind fun t173 => (if t173 = true then ((crossroadsref17_sameTexts.f k l0_1 l1_1).bind fun t174 => (if t174 = true then ((crossroadsref17_sameFails.f k l0_2 l1_2).bind fun t175 => (some t175)) else (some false))) else (some false))
theorem crossroadsref17_Same.mono : ∀ a0 a1 a2 a3 a4 a5 k, LeO (crossroadsref17_Same.f k a0 a1 a2 a3 a4 a5) (crossroadsref17_Same.f (k + 1) a0 a1 a2 a3 a4 a5) := by
  intro a0 a1 a2 a3 a4 a5 k
  unfold crossroadsref17_Same.f
  repeat' first
      | (with_reducible exact crossroadsref17_sameFails.mono _ _ _)
      | (with_reducible exact crossroadsref17_sameTexts.mono _ _ _)
      | (with_reducible exact LeO.refl _)
      | (with_reducible exact LeO.none _)
      | (with_reducible refine LeO.ite ?_ ?_)
      | (with_reducible refine LeO.bind ?_ (fun _ => ?_))
      | exact crossroadsref17_sameFails.mono _ _ _
      | exact crossroadsref17_sameTexts.mono _ _ _
      | exact LeO.none _
      | refine LeO.ite ?_ ?_
      | refine LeO.bind ?_ (fun _ => ?_)
set_option maxHeartbeats 8000000 in
set_option maxRecDepth 100000 in
theorem crossroadsref17_Same.calls (k : Nat) (A0_0 : Option Addr) (c0_0 : Nat) (l0_0 : List (List Int)) (A0_1 : Option Addr) (c0_1 : Nat) (l0_1 : List (List Int)) (A0_2 : Option Addr) (c0_2 : Nat) (l0_2 : List Bool) (A1_0 : Option Addr) (c1_0 : Nat) (l1_0 : List (List Int)) (A1_1 : Option Addr) (c1_1 : Nat) (l1_1 : List (List Int)) (A1_2 : Option Addr) (c1_2 : Nat) (l1_2 : List Bool) (r : Bool) (w : World) (hr0_0 : Kd.C (Kd.slice 5 (Kd.int .u8)) w A0_0 l0_0.length l0_0) (hc0_0 : l0_0.length ≤ c0_0) (hr0_1 : Kd.C (Kd.slice 5 (Kd.int .u8)) w A0_1 l0_1.length l0_1) (hc0_1 : l0_1.length ≤ c0_1) (hr0_2 : Kd.C Kd.bool w A0_2 l0_2.length l0_2) (hc0_2 : l0_2.length ≤ c0_2) (hr1_0 : Kd.C (Kd.slice 5 (Kd.int .u8)) w A1_0 l1_0.length l1_0) (hc1_0 : l1_0.length ≤ c1_0) (hr1_1 : Kd.C (Kd.slice 5 (Kd.int .u8)) w A1_1 l1_1.length l1_1) (hc1_1 : l1_1.length ≤ c1_1) (hr1_2 : Kd.C Kd.bool w A1_2 l1_2.length l1_2) (hc1_2 : l1_2.length ≤ c1_2) (h : crossroadsref17_Same.f k l0_0 l0_1 l0_2 l1_0 l1_1 l1_2 = some r) :
    Calls Try.prog 17 #[.agg #[.slice A0_0 l0_0.length c0_0, .slice A0_1 l0_1.length c0_1, .slice A0_2 l0_2.length c0_2], .agg #[.slice A1_0 l1_0.length c1_0, .slice A1_1 l1_1.length c1_1, .slice A1_2 l1_2.length c1_2]] w fun e w' => e = .returned (.bool r) ∧ Below w.heap.size w w' := by
  have hu31 := Try.underlying31
  have HR0_0 := Aside0.mk hr0_0
  have HC0_0 := Aside0.mk hc0_0
  clear hr0_0 hc0_0
  have HR0_1 := Aside0.mk hr0_1
  have HC0_1 := Aside0.mk hc0_1
  clear hr0_1 hc0_1
  have HR0_2 := Aside0.mk hr0_2
  have HC0_2 := Aside0.mk hc0_2
  clear hr0_2 hc0_2
  have HR1_0 := Aside0.mk hr1_0
  have HC1_0 := Aside0.mk hc1_0
  clear hr1_0 hc1_0
  have HR1_1 := Aside0.mk hr1_1
  have HC1_1 := Aside0.mk hc1_1
  clear hr1_1 hc1_1
  have HR1_2 := Aside0.mk hr1_2
  have HC1_2 := Aside0.mk hc1_2
  clear hr1_2 hc1_2
  have HB := Aside0.mk (Below.refl w.heap.size w)
  have H : ((crossroadsref17_sameTexts.f k l0_0 l1_0).bind fun t173 => (if t173 = true then ((crossroadsref17_sameTexts.f k l0_1 l1_1).bind fun t174 => (if t174 = true then ((crossroadsref17_sameFails.f k l0_2 l1_2).bind fun t175 => (some t175)) else (some false))) else (some false))) = some r := h
  clear h
  replace H := Option.bind_eq_some_iff.mp H
  obtain ⟨t173, A30, H⟩ := H
  replace H : (if t173 = true then ((crossroadsref17_sameTexts.f k l0_1 l1_1).bind fun t174 => (if t174 = true then ((crossroadsref17_sameFails.f k l0_2 l1_2).bind fun t175 => (some t175)) else (some false))) else (some false)) = some r := H
  have A3 := Aside0.mk A30
  clear A30
  by_cases c4 : t173 = true
  · subst c4
    have H1 : ((crossroadsref17_sameTexts.f k l0_1 l1_1).bind fun t174 => (if t174 = true then ((crossroadsref17_sameFails.f k l0_2 l1_2).bind fun t175 => (some t175)) else (some false))) = some r := by rw [if_pos rfl] at H; exact H
    clear H
    have H := H1
    clear H1
    replace H := Option.bind_eq_some_iff.mp H
    obtain ⟨t174, A50, H⟩ := H
    replace H : (if t174 = true then ((crossroadsref17_sameFails.f k l0_2 l1_2).bind fun t175 => (some t175)) else (some false)) = some r := H
    have A5 := Aside0.mk A50
    clear A50
    by_cases c6 : t174 = true
    · subst c6
      have H1 : ((crossroadsref17_sameFails.f k l0_2 l1_2).bind fun t175 => (some t175)) = some r := by rw [if_pos rfl] at H; exact H
      clear H
      have H := H1
      clear H1
      replace H := Option.bind_eq_some_iff.mp H
      obtain ⟨t175, A70, H⟩ := H
      replace H : (some t175) = some r := H
      have A7 := Aside0.mk A70
      clear A70
      obtain rfl := Option.some.inj H
      go_enter Try.func17, Try.ntmps17
      go_wp2_with (first | ((with_reducible refine gate_dst (N := 2) rfl ?_); refine box_event ?hg (N := 2) ?hd (cs := #[.slice A0_0 l0_0.length c0_0, .slice A0_1 l0_1.length c0_1, .slice A0_2 l0_2.length c0_2]) (t := 31) ?hr ?_; (case hd => rfl); (case hg => rfl); (case hr => first | (go_simp; done) | (go_simp; rfl)); intro gb171 hg w8 hbox hb; have n0_ := Aside0.mk (below_step (by repeat (first | (with_reducible first | exact HB.out | apply below_alloc | apply pw_below_drewN | apply below_drew1) | exact HB.out)) hb); have n1_ := Aside0.mk (hbox); have n2_ := Aside0.mk ((by rw [hg]; exact (below_size (by repeat (first | (with_reducible first | exact HB.out | apply below_alloc | apply pw_below_drewN | apply below_drew1) | exact HB.out))) : w.heap.size ≤ gb171)); have n3_ := Aside0.mk ((by rw [hg]; exact (below_size (by repeat (first | (with_reducible first | exact HB.out | apply below_alloc | apply pw_below_drewN | apply below_drew1) | exact HB.out))) : w.heap.size ≤ gb171)); clear HB; have HB := n0_; have BK171 := n1_; have GW171 := n2_; have GE171 := n3_; clear n0_ n1_ n2_ n3_; clear hb hbox hg) | ((with_reducible refine gate_dst (N := 3) rfl ?_); refine box_event ?hg (N := 3) ?hd (cs := #[.slice A1_0 l1_0.length c1_0, .slice A1_1 l1_1.length c1_1, .slice A1_2 l1_2.length c1_2]) (t := 31) ?hr ?_; (case hd => rfl); (case hg => rfl); (case hr => first | (go_simp; done) | (go_simp; rfl)); intro gb172 hg w9 hbox hb; have n0_ := Aside0.mk (blk_below (g := gb171) (o := .cells #[.slice A0_0 l0_0.length c0_0, .slice A0_1 l0_1.length c0_1, .slice A0_2 l0_2.length c0_2] 31 (0, 0)) (by (with_reducible repeat (first | refine blk_drewN ?_ _ | refine blk_drew ?_ | refine blk_alloc ?_ _)); exact BK171.out) hb); have n1_ := Aside0.mk (below_step (by repeat (first | (with_reducible first | exact HB.out | apply below_alloc | apply pw_below_drewN | apply below_drew1 | refine below_set ?_ GE171.out) | exact HB.out)) hb); have n2_ := Aside0.mk (hbox); have n3_ := Aside0.mk ((by rw [hg]; exact (below_size (by repeat (first | (with_reducible first | exact HB.out | apply below_alloc | apply pw_below_drewN | apply below_drew1 | refine below_set ?_ GE171.out) | exact HB.out))) : w.heap.size ≤ gb172)); have n4_ := Aside0.mk ((by rw [hg]; exact (below_size (by repeat (first | (with_reducible first | exact HB.out | apply below_alloc | apply pw_below_drewN | apply below_drew1 | refine below_set ?_ GE171.out) | exact HB.out))) : w.heap.size ≤ gb172)); have n5_ := Aside0.mk ((by rw [hg]; exact Nat.ne_of_lt (blk_lt (g := gb171) (o := .cells #[.slice A0_0 l0_0.length c0_0, .slice A0_1 l0_1.length c0_1, .slice A0_2 l0_2.length c0_2] 31 (0, 0)) (by (with_reducible repeat (first | refine blk_drewN ?_ _ | refine blk_drew ?_ | refine blk_alloc ?_ _)); exact BK171.out)) : gb171 ≠ gb172)); have n6_ := Aside0.mk ((by rw [hg]; exact Nat.ne_of_gt (blk_lt (g := gb171) (o := .cells #[.slice A0_0 l0_0.length c0_0, .slice A0_1 l0_1.length c0_1, .slice A0_2 l0_2.length c0_2] 31 (0, 0)) (by (with_reducible repeat (first | refine blk_drewN ?_ _ | refine blk_drew ?_ | refine blk_alloc ?_ _)); exact BK171.out)) : gb172 ≠ gb171)); clear BK171; clear HB; have BK171 := n0_; have HB := n1_; have BK172 := n2_; have GW172 := n3_; have GE172 := n4_; have NB171_172 := n5_; have NB172_171 := n6_; clear n0_ n1_ n2_ n3_ n4_ n5_ n6_; clear hb hbox hg; have hnb10 := NB171_172.out; have hnc10 := NB172_171.out; have hcz11_0 : w9.cell? ⟨gb171, 0, none⟩ = some (.slice A0_0 l0_0.length c0_0) := (blk_cell BK171.out 0).trans rfl; have hcz11_1 : w9.cell? ⟨gb171, 1, none⟩ = some (.slice A0_1 l0_1.length c0_1) := (blk_cell BK171.out 1).trans rfl; have hcz11_2 : w9.cell? ⟨gb171, 2, none⟩ = some (.slice A0_2 l0_2.length c0_2) := (blk_cell BK171.out 2).trans rfl; have hfz11_0 := blk_frozen BK171.out 0; have hfz11_1 := blk_frozen BK171.out 1; have hfz11_2 := blk_frozen BK171.out 2; have hcz12_0 : w9.cell? ⟨gb172, 0, none⟩ = some (.slice A1_0 l1_0.length c1_0) := (blk_cell BK172.out 0).trans rfl; have hcz12_1 : w9.cell? ⟨gb172, 1, none⟩ = some (.slice A1_1 l1_1.length c1_1) := (blk_cell BK172.out 1).trans rfl; have hcz12_2 : w9.cell? ⟨gb172, 2, none⟩ = some (.slice A1_2 l1_2.length c1_2) := (blk_cell BK172.out 2).trans rfl; have hfz12_0 := blk_frozen BK172.out 0; have hfz12_1 := blk_frozen BK172.out 1; have hfz12_2 := blk_frozen BK172.out 2) | ((with_reducible refine gate_callee (f := 34) rfl ?_); refine goesL_ (some 9) rfl rfl Try.func34 (by kernel_rfl) rfl #[.slice A0_0 l0_0.length c0_0, .slice A1_0 l1_0.length c1_0] rfl (by (try simp only [List.map_toArray, List.map_cons, List.map_nil]); first | done | rfl | (simp only [List.length_drop, List.length_take]; rfl)) ?_; (with_reducible refine (crossroadsref17_sameTexts.calls k _ _ l0_0 _ _ l1_0 true _ ?side1 ?side2 ?side3 ?side4 A3.out).mono ?_); (case side1 => repeat (first | exact (Kd.C_below HR0_0.out HB.out) | (with_reducible refine Kd.C_alloc ?_ _) | (with_reducible refine Kd.C_drewN ?_ _) | (with_reducible refine Kd.C_drew ?_))); (case side2 => exact HC0_0.out); (case side3 => repeat (first | exact (Kd.C_below HR1_0.out HB.out) | (with_reducible refine Kd.C_alloc ?_ _) | (with_reducible refine Kd.C_drewN ?_ _) | (with_reducible refine Kd.C_drew ?_))); (case side4 => exact HC1_0.out); rintro e w' ⟨rfl, ⟨nd, rfl⟩⟩; refine ⟨_, rfl, ?_⟩) | (go_at_call 34; (with_reducible refine (crossroadsref17_sameTexts.calls k _ _ l0_1 _ _ l1_1 true _ ?side1 ?side2 ?side3 ?side4 A5.out).mono ?_); (case side1 => repeat (first | exact (Kd.C_below HR0_1.out (by repeat (first | (with_reducible first | exact HB.out | apply below_alloc | apply pw_below_drewN | apply below_drew1 | refine below_set ?_ GE171.out | refine below_set ?_ GE172.out) | exact HB.out))) | (with_reducible refine Kd.C_alloc ?_ _) | (with_reducible refine Kd.C_drewN ?_ _) | (with_reducible refine Kd.C_drew ?_))); (case side2 => exact HC0_1.out); (case side3 => repeat (first | exact (Kd.C_below HR1_1.out (by repeat (first | (with_reducible first | exact HB.out | apply below_alloc | apply pw_below_drewN | apply below_drew1 | refine below_set ?_ GE171.out | refine below_set ?_ GE172.out) | exact HB.out))) | (with_reducible refine Kd.C_alloc ?_ _) | (with_reducible refine Kd.C_drewN ?_ _) | (with_reducible refine Kd.C_drew ?_))); (case side4 => exact HC1_1.out); rintro e w' ⟨rfl, ⟨nd, rfl⟩⟩) | (go_at_call 35; (with_reducible refine (crossroadsref17_sameFails.calls k _ _ l0_2 _ _ l1_2 t175 _ ?side1 ?side2 ?side3 ?side4 A7.out).mono ?_); (case side1 => repeat (first | exact (Kd.C_below HR0_2.out (by repeat (first | (with_reducible first | exact HB.out | apply below_alloc | apply pw_below_drewN | apply below_drew1 | refine below_set ?_ GE171.out | refine below_set ?_ GE172.out) | exact HB.out))) | (with_reducible refine Kd.C_alloc ?_ _) | (with_reducible refine Kd.C_drewN ?_ _) | (with_reducible refine Kd.C_drew ?_))); (case side2 => exact HC0_2.out); (case side3 => repeat (first | exact (Kd.C_below HR1_2.out (by repeat (first | (with_reducible first | exact HB.out | apply below_alloc | apply pw_below_drewN | apply below_drew1 | refine below_set ?_ GE171.out | refine below_set ?_ GE172.out) | exact HB.out))) | (with_reducible refine Kd.C_alloc ?_ _) | (with_reducible refine Kd.C_drewN ?_ _) | (with_reducible refine Kd.C_drew ?_))); (case side4 => exact HC1_2.out); rintro e w' ⟨rfl, ⟨nd, rfl⟩⟩))
      go_ret
      exact ⟨by first | rfl | (simp [errW_none, errW_some] <;> rfl) | (simp [*, errW_none, errW_some] <;> rfl), by repeat (first | (with_reducible first | exact HB.out | apply below_alloc | apply pw_below_drewN | apply below_drew1 | refine below_set ?_ GE171.out | refine below_set ?_ GE172.out) | exact HB.out)⟩
    · replace c6 := Bool.eq_false_iff.mpr c6
      subst c6
      have H1 : (some false) = some r := by rw [if_neg (show ¬ (false = true) by decide)] at H; exact H
      clear H
      have H := H1
      clear H1
      obtain rfl := Option.some.inj H
      go_enter Try.func17, Try.ntmps17
      go_wp2_with (first | ((with_reducible refine gate_dst (N := 2) rfl ?_); refine box_event ?hg (N := 2) ?hd (cs := #[.slice A0_0 l0_0.length c0_0, .slice A0_1 l0_1.length c0_1, .slice A0_2 l0_2.length c0_2]) (t := 31) ?hr ?_; (case hd => rfl); (case hg => rfl); (case hr => first | (go_simp; done) | (go_simp; rfl)); intro gb171 hg w13 hbox hb; have n0_ := Aside0.mk (below_step (by repeat (first | (with_reducible first | exact HB.out | apply below_alloc | apply pw_below_drewN | apply below_drew1) | exact HB.out)) hb); have n1_ := Aside0.mk (hbox); have n2_ := Aside0.mk ((by rw [hg]; exact (below_size (by repeat (first | (with_reducible first | exact HB.out | apply below_alloc | apply pw_below_drewN | apply below_drew1) | exact HB.out))) : w.heap.size ≤ gb171)); have n3_ := Aside0.mk ((by rw [hg]; exact (below_size (by repeat (first | (with_reducible first | exact HB.out | apply below_alloc | apply pw_below_drewN | apply below_drew1) | exact HB.out))) : w.heap.size ≤ gb171)); clear HB; have HB := n0_; have BK171 := n1_; have GW171 := n2_; have GE171 := n3_; clear n0_ n1_ n2_ n3_; clear hb hbox hg) | ((with_reducible refine gate_dst (N := 3) rfl ?_); refine box_event ?hg (N := 3) ?hd (cs := #[.slice A1_0 l1_0.length c1_0, .slice A1_1 l1_1.length c1_1, .slice A1_2 l1_2.length c1_2]) (t := 31) ?hr ?_; (case hd => rfl); (case hg => rfl); (case hr => first | (go_simp; done) | (go_simp; rfl)); intro gb172 hg w14 hbox hb; have n0_ := Aside0.mk (blk_below (g := gb171) (o := .cells #[.slice A0_0 l0_0.length c0_0, .slice A0_1 l0_1.length c0_1, .slice A0_2 l0_2.length c0_2] 31 (0, 0)) (by (with_reducible repeat (first | refine blk_drewN ?_ _ | refine blk_drew ?_ | refine blk_alloc ?_ _)); exact BK171.out) hb); have n1_ := Aside0.mk (below_step (by repeat (first | (with_reducible first | exact HB.out | apply below_alloc | apply pw_below_drewN | apply below_drew1 | refine below_set ?_ GE171.out) | exact HB.out)) hb); have n2_ := Aside0.mk (hbox); have n3_ := Aside0.mk ((by rw [hg]; exact (below_size (by repeat (first | (with_reducible first | exact HB.out | apply below_alloc | apply pw_below_drewN | apply below_drew1 | refine below_set ?_ GE171.out) | exact HB.out))) : w.heap.size ≤ gb172)); have n4_ := Aside0.mk ((by rw [hg]; exact (below_size (by repeat (first | (with_reducible first | exact HB.out | apply below_alloc | apply pw_below_drewN | apply below_drew1 | refine below_set ?_ GE171.out) | exact HB.out))) : w.heap.size ≤ gb172)); have n5_ := Aside0.mk ((by rw [hg]; exact Nat.ne_of_lt (blk_lt (g := gb171) (o := .cells #[.slice A0_0 l0_0.length c0_0, .slice A0_1 l0_1.length c0_1, .slice A0_2 l0_2.length c0_2] 31 (0, 0)) (by (with_reducible repeat (first | refine blk_drewN ?_ _ | refine blk_drew ?_ | refine blk_alloc ?_ _)); exact BK171.out)) : gb171 ≠ gb172)); have n6_ := Aside0.mk ((by rw [hg]; exact Nat.ne_of_gt (blk_lt (g := gb171) (o := .cells #[.slice A0_0 l0_0.length c0_0, .slice A0_1 l0_1.length c0_1, .slice A0_2 l0_2.length c0_2] 31 (0, 0)) (by (with_reducible repeat (first | refine blk_drewN ?_ _ | refine blk_drew ?_ | refine blk_alloc ?_ _)); exact BK171.out)) : gb172 ≠ gb171)); clear BK171; clear HB; have BK171 := n0_; have HB := n1_; have BK172 := n2_; have GW172 := n3_; have GE172 := n4_; have NB171_172 := n5_; have NB172_171 := n6_; clear n0_ n1_ n2_ n3_ n4_ n5_ n6_; clear hb hbox hg; have hnb15 := NB171_172.out; have hnc15 := NB172_171.out; have hcz16_0 : w14.cell? ⟨gb171, 0, none⟩ = some (.slice A0_0 l0_0.length c0_0) := (blk_cell BK171.out 0).trans rfl; have hcz16_1 : w14.cell? ⟨gb171, 1, none⟩ = some (.slice A0_1 l0_1.length c0_1) := (blk_cell BK171.out 1).trans rfl; have hcz16_2 : w14.cell? ⟨gb171, 2, none⟩ = some (.slice A0_2 l0_2.length c0_2) := (blk_cell BK171.out 2).trans rfl; have hfz16_0 := blk_frozen BK171.out 0; have hfz16_1 := blk_frozen BK171.out 1; have hfz16_2 := blk_frozen BK171.out 2; have hcz17_0 : w14.cell? ⟨gb172, 0, none⟩ = some (.slice A1_0 l1_0.length c1_0) := (blk_cell BK172.out 0).trans rfl; have hcz17_1 : w14.cell? ⟨gb172, 1, none⟩ = some (.slice A1_1 l1_1.length c1_1) := (blk_cell BK172.out 1).trans rfl; have hcz17_2 : w14.cell? ⟨gb172, 2, none⟩ = some (.slice A1_2 l1_2.length c1_2) := (blk_cell BK172.out 2).trans rfl; have hfz17_0 := blk_frozen BK172.out 0; have hfz17_1 := blk_frozen BK172.out 1; have hfz17_2 := blk_frozen BK172.out 2) | ((with_reducible refine gate_callee (f := 34) rfl ?_); refine goesL_ (some 9) rfl rfl Try.func34 (by kernel_rfl) rfl #[.slice A0_0 l0_0.length c0_0, .slice A1_0 l1_0.length c1_0] rfl (by (try simp only [List.map_toArray, List.map_cons, List.map_nil]); first | done | rfl | (simp only [List.length_drop, List.length_take]; rfl)) ?_; (with_reducible refine (crossroadsref17_sameTexts.calls k _ _ l0_0 _ _ l1_0 true _ ?side1 ?side2 ?side3 ?side4 A3.out).mono ?_); (case side1 => repeat (first | exact (Kd.C_below HR0_0.out HB.out) | (with_reducible refine Kd.C_alloc ?_ _) | (with_reducible refine Kd.C_drewN ?_ _) | (with_reducible refine Kd.C_drew ?_))); (case side2 => exact HC0_0.out); (case side3 => repeat (first | exact (Kd.C_below HR1_0.out HB.out) | (with_reducible refine Kd.C_alloc ?_ _) | (with_reducible refine Kd.C_drewN ?_ _) | (with_reducible refine Kd.C_drew ?_))); (case side4 => exact HC1_0.out); rintro e w' ⟨rfl, ⟨nd, rfl⟩⟩; refine ⟨_, rfl, ?_⟩) | (go_at_call 34; (with_reducible refine (crossroadsref17_sameTexts.calls k _ _ l0_1 _ _ l1_1 false _ ?side1 ?side2 ?side3 ?side4 A5.out).mono ?_); (case side1 => repeat (first | exact (Kd.C_below HR0_1.out (by repeat (first | (with_reducible first | exact HB.out | apply below_alloc | apply pw_below_drewN | apply below_drew1 | refine below_set ?_ GE171.out | refine below_set ?_ GE172.out) | exact HB.out))) | (with_reducible refine Kd.C_alloc ?_ _) | (with_reducible refine Kd.C_drewN ?_ _) | (with_reducible refine Kd.C_drew ?_))); (case side2 => exact HC0_1.out); (case side3 => repeat (first | exact (Kd.C_below HR1_1.out (by repeat (first | (with_reducible first | exact HB.out | apply below_alloc | apply pw_below_drewN | apply below_drew1 | refine below_set ?_ GE171.out | refine below_set ?_ GE172.out) | exact HB.out))) | (with_reducible refine Kd.C_alloc ?_ _) | (with_reducible refine Kd.C_drewN ?_ _) | (with_reducible refine Kd.C_drew ?_))); (case side4 => exact HC1_1.out); rintro e w' ⟨rfl, ⟨nd, rfl⟩⟩))
      go_ret
      exact ⟨by first | rfl | (simp [errW_none, errW_some] <;> rfl) | (simp [*, errW_none, errW_some] <;> rfl), by repeat (first | (with_reducible first | exact HB.out | apply below_alloc | apply pw_below_drewN | apply below_drew1 | refine below_set ?_ GE171.out | refine below_set ?_ GE172.out) | exact HB.out)⟩
  · replace c4 := Bool.eq_false_iff.mpr c4
    subst c4
    have H1 : (some false) = some r := by rw [if_neg (show ¬ (false = true) by decide)] at H; exact H
    clear H
    have H := H1
    clear H1
    obtain rfl := Option.some.inj H
    go_enter Try.func17, Try.ntmps17
    go_wp2_with (first | ((with_reducible refine gate_dst (N := 2) rfl ?_); refine box_event ?hg (N := 2) ?hd (cs := #[.slice A0_0 l0_0.length c0_0, .slice A0_1 l0_1.length c0_1, .slice A0_2 l0_2.length c0_2]) (t := 31) ?hr ?_; (case hd => rfl); (case hg => rfl); (case hr => first | (go_simp; done) | (go_simp; rfl)); intro gb171 hg w18 hbox hb; have n0_ := Aside0.mk (below_step (by repeat (first | (with_reducible first | exact HB.out | apply below_alloc | apply pw_below_drewN | apply below_drew1) | exact HB.out)) hb); have n1_ := Aside0.mk (hbox); have n2_ := Aside0.mk ((by rw [hg]; exact (below_size (by repeat (first | (with_reducible first | exact HB.out | apply below_alloc | apply pw_below_drewN | apply below_drew1) | exact HB.out))) : w.heap.size ≤ gb171)); have n3_ := Aside0.mk ((by rw [hg]; exact (below_size (by repeat (first | (with_reducible first | exact HB.out | apply below_alloc | apply pw_below_drewN | apply below_drew1) | exact HB.out))) : w.heap.size ≤ gb171)); clear HB; have HB := n0_; have BK171 := n1_; have GW171 := n2_; have GE171 := n3_; clear n0_ n1_ n2_ n3_; clear hb hbox hg) | ((with_reducible refine gate_dst (N := 3) rfl ?_); refine box_event ?hg (N := 3) ?hd (cs := #[.slice A1_0 l1_0.length c1_0, .slice A1_1 l1_1.length c1_1, .slice A1_2 l1_2.length c1_2]) (t := 31) ?hr ?_; (case hd => rfl); (case hg => rfl); (case hr => first | (go_simp; done) | (go_simp; rfl)); intro gb172 hg w19 hbox hb; have n0_ := Aside0.mk (blk_below (g := gb171) (o := .cells #[.slice A0_0 l0_0.length c0_0, .slice A0_1 l0_1.length c0_1, .slice A0_2 l0_2.length c0_2] 31 (0, 0)) (by (with_reducible repeat (first | refine blk_drewN ?_ _ | refine blk_drew ?_ | refine blk_alloc ?_ _)); exact BK171.out) hb); have n1_ := Aside0.mk (below_step (by repeat (first | (with_reducible first | exact HB.out | apply below_alloc | apply pw_below_drewN | apply below_drew1 | refine below_set ?_ GE171.out) | exact HB.out)) hb); have n2_ := Aside0.mk (hbox); have n3_ := Aside0.mk ((by rw [hg]; exact (below_size (by repeat (first | (with_reducible first | exact HB.out | apply below_alloc | apply pw_below_drewN | apply below_drew1 | refine below_set ?_ GE171.out) | exact HB.out))) : w.heap.size ≤ gb172)); have n4_ := Aside0.mk ((by rw [hg]; exact (below_size (by repeat (first | (with_reducible first | exact HB.out | apply below_alloc | apply pw_below_drewN | apply below_drew1 | refine below_set ?_ GE171.out) | exact HB.out))) : w.heap.size ≤ gb172)); have n5_ := Aside0.mk ((by rw [hg]; exact Nat.ne_of_lt (blk_lt (g := gb171) (o := .cells #[.slice A0_0 l0_0.length c0_0, .slice A0_1 l0_1.length c0_1, .slice A0_2 l0_2.length c0_2] 31 (0, 0)) (by (with_reducible repeat (first | refine blk_drewN ?_ _ | refine blk_drew ?_ | refine blk_alloc ?_ _)); exact BK171.out)) : gb171 ≠ gb172)); have n6_ := Aside0.mk ((by rw [hg]; exact Nat.ne_of_gt (blk_lt (g := gb171) (o := .cells #[.slice A0_0 l0_0.length c0_0, .slice A0_1 l0_1.length c0_1, .slice A0_2 l0_2.length c0_2] 31 (0, 0)) (by (with_reducible repeat (first | refine blk_drewN ?_ _ | refine blk_drew ?_ | refine blk_alloc ?_ _)); exact BK171.out)) : gb172 ≠ gb171)); clear BK171; clear HB; have BK171 := n0_; have HB := n1_; have BK172 := n2_; have GW172 := n3_; have GE172 := n4_; have NB171_172 := n5_; have NB172_171 := n6_; clear n0_ n1_ n2_ n3_ n4_ n5_ n6_; clear hb hbox hg; have hnb20 := NB171_172.out; have hnc20 := NB172_171.out; have hcz21_0 : w19.cell? ⟨gb171, 0, none⟩ = some (.slice A0_0 l0_0.length c0_0) := (blk_cell BK171.out 0).trans rfl; have hcz21_1 : w19.cell? ⟨gb171, 1, none⟩ = some (.slice A0_1 l0_1.length c0_1) := (blk_cell BK171.out 1).trans rfl; have hcz21_2 : w19.cell? ⟨gb171, 2, none⟩ = some (.slice A0_2 l0_2.length c0_2) := (blk_cell BK171.out 2).trans rfl; have hfz21_0 := blk_frozen BK171.out 0; have hfz21_1 := blk_frozen BK171.out 1; have hfz21_2 := blk_frozen BK171.out 2; have hcz22_0 : w19.cell? ⟨gb172, 0, none⟩ = some (.slice A1_0 l1_0.length c1_0) := (blk_cell BK172.out 0).trans rfl; have hcz22_1 : w19.cell? ⟨gb172, 1, none⟩ = some (.slice A1_1 l1_1.length c1_1) := (blk_cell BK172.out 1).trans rfl; have hcz22_2 : w19.cell? ⟨gb172, 2, none⟩ = some (.slice A1_2 l1_2.length c1_2) := (blk_cell BK172.out 2).trans rfl; have hfz22_0 := blk_frozen BK172.out 0; have hfz22_1 := blk_frozen BK172.out 1; have hfz22_2 := blk_frozen BK172.out 2) | ((with_reducible refine gate_callee (f := 34) rfl ?_); refine goesL_ (some 9) rfl rfl Try.func34 (by kernel_rfl) rfl #[.slice A0_0 l0_0.length c0_0, .slice A1_0 l1_0.length c1_0] rfl (by (try simp only [List.map_toArray, List.map_cons, List.map_nil]); first | done | rfl | (simp only [List.length_drop, List.length_take]; rfl)) ?_; (with_reducible refine (crossroadsref17_sameTexts.calls k _ _ l0_0 _ _ l1_0 false _ ?side1 ?side2 ?side3 ?side4 A3.out).mono ?_); (case side1 => repeat (first | exact (Kd.C_below HR0_0.out HB.out) | (with_reducible refine Kd.C_alloc ?_ _) | (with_reducible refine Kd.C_drewN ?_ _) | (with_reducible refine Kd.C_drew ?_))); (case side2 => exact HC0_0.out); (case side3 => repeat (first | exact (Kd.C_below HR1_0.out HB.out) | (with_reducible refine Kd.C_alloc ?_ _) | (with_reducible refine Kd.C_drewN ?_ _) | (with_reducible refine Kd.C_drew ?_))); (case side4 => exact HC1_0.out); rintro e w' ⟨rfl, ⟨nd, rfl⟩⟩; refine ⟨_, rfl, ?_⟩))
    go_ret
    exact ⟨by first | rfl | (simp [errW_none, errW_some] <;> rfl) | (simp [*, errW_none, errW_some] <;> rfl), by repeat (first | (with_reducible first | exact HB.out | apply below_alloc | apply pw_below_drewN | apply below_drew1 | refine below_set ?_ GE171.out | refine below_set ?_ GE172.out) | exact HB.out)⟩

/-! ### crossroadslaw17_ClassFails: function 8 -/
mutual
def crossroadslaw17_ClassFails.l0 : Nat → Int → Int → Int → Int → Int → Int → Int → Option (Bool)
  | 0, _, _, _, _, _, _, _ => none
  | k + 1, x5, x6, x8, x9, x178002, x178003, x178004 => if 0 ≤ (IntKind.u64.wrap (x5)) then (if x9 < (shl .i64 1 (IntKind.u64.wrap (x5))) then (crossroadslaw17_ClassFails.l1 k x5 x6 x8 x9 ([] : List Bool) 0 (wrap64 (x5 - 1)) x178002 x178003 x178004) else ((class_Count.f k ([] : List (S38)) ([] : List Int) x178002 x178003 x178004).bind fun t178 => (some (t178 == x8)))) else (none)
def crossroadslaw17_ClassFails.l1 : Nat → Int → Int → Int → Int → List Bool → Int → Int → Int → Int → Int → Option (Bool)
  | 0, _, _, _, _, _, _, _, _, _, _ => none
  | k + 1, x5, x6, x8, x9, x10, x11, x12, x178002, x178003, x178004 => if x12 ≥ 0 then (if 0 ≤ (IntKind.u64.wrap (x12)) then (if x10.length < 140737488355328 then ((some (x10 ++ [((Go.bits .and .i64 (shr .i64 x9 (IntKind.u64.wrap (x12))) 1) == 1)] : List Bool)).bind fun y179 => (if (Go.bits .and .i64 (shr .i64 x9 (IntKind.u64.wrap (x12))) 1) = 1 then (crossroadslaw17_ClassFails.l1 k x5 x6 x8 x9 y179 (wrap64 (x11 + 1)) (wrap64 (x12 - 1)) x178002 x178003 x178004) else (crossroadslaw17_ClassFails.l1 k x5 x6 x8 x9 y179 x11 (wrap64 (x12 - 1)) x178002 x178003 x178004))) else (none)) else (none)) else (if x11 > x6 then (crossroadslaw17_ClassFails.l0 k x5 x6 x8 (wrap64 (x9 + 1)) x178002 x178003 x178004) else ((class_Nth.f ([] : List (S38)) ([] : List Int) x178002 x178003 x178004 x8).bind fun bt182 => (if bt182.2.2.2 = true then ((crossroadsref17_Same.f k bt182.1 bt182.2.1 bt182.2.2.1 ([] : List (List Int)) ([] : List (List Int)) x10).bind fun t193 => (if t193 = true then (crossroadslaw17_ClassFails.l0 k x5 x6 (wrap64 (x8 + 1)) (wrap64 (x9 + 1)) x178002 x178003 x178004) else (none))) else (none))))
end
def crossroadslaw17_ClassFails.f (k : Nat) (a0 : Int) (a1 : Int) : Option (Bool) := (crossroadslaw17_awake.f k).bind fun t176 => (if t176 = true then (if (wrap64 ((Int.tmod (wrap64 (a0)) 7) + 1)) = 0 then (none) else (crossroadslaw17_ClassFails.l0 k (Int.tmod (wrap64 (a0)) 7) (Int.tmod (wrap64 (a1)) (wrap64 ((Int.tmod (wrap64 (a0)) 7) + 1))) 0 0 (Int.tmod (wrap64 (a0)) 7) (Int.tmod (wrap64 (a1)) (wrap64 ((Int.tmod (wrap64 (a0)) 7) + 1))) 0)) else (none))
theorem crossroadslaw17_ClassFails.mono_l : ∀ k, (∀ y0 y1 y2 y3 y4 y5 y6, LeO (crossroadslaw17_ClassFails.l0 k y0 y1 y2 y3 y4 y5 y6) (crossroadslaw17_ClassFails.l0 (k + 1) y0 y1 y2 y3 y4 y5 y6)) ∧ (∀ y0 y1 y2 y3 y4 y5 y6 y7 y8 y9, LeO (crossroadslaw17_ClassFails.l1 k y0 y1 y2 y3 y4 y5 y6 y7 y8 y9) (crossroadslaw17_ClassFails.l1 (k + 1) y0 y1 y2 y3 y4 y5 y6 y7 y8 y9))
  | 0 => ⟨fun _ _ _ _ _ _ _ r h => by simp [crossroadslaw17_ClassFails.l0] at h, fun _ _ _ _ _ _ _ _ _ _ r h => by simp [crossroadslaw17_ClassFails.l1] at h⟩
  | k + 1 => by
    obtain ⟨ih0, ih1⟩ := crossroadslaw17_ClassFails.mono_l k
    refine ⟨?_, ?_⟩
    · intro y0 y1 y2 y3 y4 y5 y6
      unfold crossroadslaw17_ClassFails.l0
      repeat' first
      | (with_reducible exact ih0 _ _ _ _ _ _ _)
      | (with_reducible exact ih1 _ _ _ _ _ _ _ _ _ _)
      | (with_reducible exact class_Count.mono _ _ _ _ _ _)
      | (with_reducible exact crossroadslaw17_awake.mono _)
      | (with_reducible exact crossroadsref17_Same.mono _ _ _ _ _ _ _)
      | (with_reducible exact LeO.refl _)
      | (with_reducible exact LeO.none _)
      | (with_reducible refine LeO.ite ?_ ?_)
      | (with_reducible refine LeO.bind ?_ (fun _ => ?_))
      | exact ih0 _ _ _ _ _ _ _
      | exact ih1 _ _ _ _ _ _ _ _ _ _
      | exact class_Count.mono _ _ _ _ _ _
      | exact crossroadslaw17_awake.mono _
      | exact crossroadsref17_Same.mono _ _ _ _ _ _ _
      | exact LeO.none _
      | refine LeO.ite ?_ ?_
      | refine LeO.bind ?_ (fun _ => ?_)
    · intro y0 y1 y2 y3 y4 y5 y6 y7 y8 y9
      unfold crossroadslaw17_ClassFails.l1
      repeat' first
      | (with_reducible exact ih0 _ _ _ _ _ _ _)
      | (with_reducible exact ih1 _ _ _ _ _ _ _ _ _ _)
      | (with_reducible exact class_Count.mono _ _ _ _ _ _)
      | (with_reducible exact crossroadslaw17_awake.mono _)
      | (with_reducible exact crossroadsref17_Same.mono _ _ _ _ _ _ _)
      | (with_reducible exact LeO.refl _)
      | (with_reducible exact LeO.none _)
      | (with_reducible refine LeO.ite ?_ ?_)
      | (with_reducible refine LeO.bind ?_ (fun _ => ?_))
      | exact ih0 _ _ _ _ _ _ _
      | exact ih1 _ _ _ _ _ _ _ _ _ _
      | exact class_Count.mono _ _ _ _ _ _
      | exact crossroadslaw17_awake.mono _
      | exact crossroadsref17_Same.mono _ _ _ _ _ _ _
      | exact LeO.none _
      | refine LeO.ite ?_ ?_
      | refine LeO.bind ?_ (fun _ => ?_)
theorem crossroadslaw17_ClassFails.mono : ∀ a0 a1 k, LeO (crossroadslaw17_ClassFails.f k a0 a1) (crossroadslaw17_ClassFails.f (k + 1) a0 a1) := by
  intro a0 a1 k
  obtain ⟨ih0, ih1⟩ := crossroadslaw17_ClassFails.mono_l k
  unfold crossroadslaw17_ClassFails.f
  repeat' first
      | (with_reducible exact ih0 _ _ _ _ _ _ _)
      | (with_reducible exact ih1 _ _ _ _ _ _ _ _ _ _)
      | (with_reducible exact class_Count.mono _ _ _ _ _ _)
      | (with_reducible exact crossroadslaw17_awake.mono _)
      | (with_reducible exact crossroadsref17_Same.mono _ _ _ _ _ _ _)
      | (with_reducible exact LeO.refl _)
      | (with_reducible exact LeO.none _)
      | (with_reducible refine LeO.ite ?_ ?_)
      | (with_reducible refine LeO.bind ?_ (fun _ => ?_))
      | exact ih0 _ _ _ _ _ _ _
      | exact ih1 _ _ _ _ _ _ _ _ _ _
      | exact class_Count.mono _ _ _ _ _ _
      | exact crossroadslaw17_awake.mono _
      | exact crossroadsref17_Same.mono _ _ _ _ _ _ _
      | exact LeO.none _
      | refine LeO.ite ?_ ?_
      | refine LeO.bind ?_ (fun _ => ?_)
set_option maxHeartbeats 8000000 in
set_option maxRecDepth 100000 in
theorem crossroadslaw17_ClassFails.calls (k : Nat) (a0 : Int) (a1 : Int) (r : Bool) (w : World) (h : crossroadslaw17_ClassFails.f k a0 a1 = some r) :
    Calls Try.prog 8 #[.int .u8 a0, .int .u8 a1] w fun e w' => e = .returned (.bool r) ∧ Below w.heap.size w w' := by
  have hu25 := Try.underlying25
  have hu31 := Try.underlying31
  have HB := Aside0.mk (Below.refl w.heap.size w)
  have H : ((crossroadslaw17_awake.f k).bind fun t176 => (if t176 = true then (if (wrap64 ((Int.tmod (wrap64 (a0)) 7) + 1)) = 0 then (none) else (crossroadslaw17_ClassFails.l0 k (Int.tmod (wrap64 (a0)) 7) (Int.tmod (wrap64 (a1)) (wrap64 ((Int.tmod (wrap64 (a0)) 7) + 1))) 0 0 (Int.tmod (wrap64 (a0)) 7) (Int.tmod (wrap64 (a1)) (wrap64 ((Int.tmod (wrap64 (a0)) 7) + 1))) 0)) else (none))) = some r := h
  clear h
  replace H := Option.bind_eq_some_iff.mp H
  obtain ⟨t176, A30, H⟩ := H
  replace H : (if t176 = true then (if (wrap64 ((Int.tmod (wrap64 (a0)) 7) + 1)) = 0 then (none) else (crossroadslaw17_ClassFails.l0 k (Int.tmod (wrap64 (a0)) 7) (Int.tmod (wrap64 (a1)) (wrap64 ((Int.tmod (wrap64 (a0)) 7) + 1))) 0 0 (Int.tmod (wrap64 (a0)) 7) (Int.tmod (wrap64 (a1)) (wrap64 ((Int.tmod (wrap64 (a0)) 7) + 1))) 0)) else (none)) = some r := H
  have A3 := Aside0.mk A30
  clear A30
  by_cases c4 : t176 = true
  · subst c4
    have H1 : (if (wrap64 ((Int.tmod (wrap64 (a0)) 7) + 1)) = 0 then (none) else (crossroadslaw17_ClassFails.l0 k (Int.tmod (wrap64 (a0)) 7) (Int.tmod (wrap64 (a1)) (wrap64 ((Int.tmod (wrap64 (a0)) 7) + 1))) 0 0 (Int.tmod (wrap64 (a0)) 7) (Int.tmod (wrap64 (a1)) (wrap64 ((Int.tmod (wrap64 (a0)) 7) + 1))) 0)) = some r := by rw [if_pos rfl] at H; exact H
    clear H
    have H := H1
    clear H1
    by_cases c5 : (wrap64 ((Int.tmod (wrap64 (a0)) 7) + 1)) = 0
    · rw [if_pos c5] at H
      exact absurd H (by simp)
    · rw [if_neg c5] at H
      have c5b0 : ((wrap64 ((Int.tmod (wrap64 (a0)) 7) + 1)) == 0) = false := beq_eq_false_iff_ne.mpr c5
      have c5b1 : ((wrap64 ((Int.tmod (wrap64 (a0)) 7) + 1)) != 0) = true := bne_iff_ne.mpr c5
      have H' := Aside0.mk H
      clear H
      go_enter Try.func8, Try.ntmps8
      go_wp2_with (first | ((with_reducible refine gate_callee (f := 9) rfl ?_); refine goesL_ (some 16) rfl rfl Try.func9 (by kernel_rfl) rfl #[] rfl (by (try simp only [List.map_toArray, List.map_cons, List.map_nil]); first | done | rfl | (simp only [List.length_drop, List.length_take]; rfl)) ?_; (with_reducible refine (crossroadslaw17_awake.calls k  true _ A3.out).mono ?_); rintro e w6 ⟨rfl, hb⟩; refine ⟨_, rfl, ?_⟩; have n0_ := Aside0.mk (below_step (by repeat (first | (with_reducible first | exact HB.out | apply below_alloc | apply pw_below_drewN | apply below_drew1) | exact HB.out)) hb); clear HB; have HB := n0_; clear n0_; (try clear hb); (try clear hb2); (try clear hk); (try clear hi)) | ((with_reducible refine gate_dst (N := 7) rfl ?_); refine box_event ?hg (N := 7) ?hd (cs := #[.slice none 0 0, .slice none 0 0, .int .i64 0, .int .i64 0, .int .i64 0]) (t := 25) ?hr ?_; (case hd => rfl); (case hg => rfl); (case hr => first | (go_simp; done) | (go_simp; rfl)); intro gb177 hg w7 hbox hb; have n0_ := Aside0.mk (below_step (by repeat (first | (with_reducible first | exact HB.out | apply below_alloc | apply pw_below_drewN | apply below_drew1) | exact HB.out)) hb); have n1_ := Aside0.mk (hbox); have n2_ := Aside0.mk ((by rw [hg]; exact (below_size (by repeat (first | (with_reducible first | exact HB.out | apply below_alloc | apply pw_below_drewN | apply below_drew1) | exact HB.out))) : w.heap.size ≤ gb177)); have n3_ := Aside0.mk ((by rw [hg]; exact (below_size (by repeat (first | (with_reducible first | exact HB.out | apply below_alloc | apply pw_below_drewN | apply below_drew1) | exact HB.out))) : w.heap.size ≤ gb177)); clear HB; have HB := n0_; have BK177 := n1_; have GW177 := n2_; have GE177 := n3_; clear n0_ n1_ n2_ n3_; clear hb hbox hg; have hcz8_0 : w7.cell? ⟨gb177, 0, none⟩ = some (.slice none 0 0) := (blk_cell BK177.out 0).trans rfl; have hcz8_1 : w7.cell? ⟨gb177, 1, none⟩ = some (.slice none 0 0) := (blk_cell BK177.out 1).trans rfl; have hcz8_2 : w7.cell? ⟨gb177, 2, none⟩ = some (.int .i64 0) := (blk_cell BK177.out 2).trans rfl; have hcz8_3 : w7.cell? ⟨gb177, 3, none⟩ = some (.int .i64 0) := (blk_cell BK177.out 3).trans rfl; have hcz8_4 : w7.cell? ⟨gb177, 4, none⟩ = some (.int .i64 0) := (blk_cell BK177.out 4).trans rfl; have hfz8_0 := blk_frozen BK177.out 0; have hfz8_1 := blk_frozen BK177.out 1; have hfz8_2 := blk_frozen BK177.out 2; have hfz8_3 := blk_frozen BK177.out 3; have hfz8_4 := blk_frozen BK177.out 4))
      go_loopg [8, 9] k (fun kq v8 v9 w' => ∃ (x8_1 : Int) (x9_1 : Int), v8 = .int .i64 x8_1 ∧ v9 = .int .i64 x9_1 ∧ Aside0 (crossroadslaw17_ClassFails.l0 kq (Int.tmod (wrap64 (a0)) 7) (Int.tmod (wrap64 (a1)) (wrap64 ((Int.tmod (wrap64 (a0)) 7) + 1))) x8_1 x9_1 (Int.tmod (wrap64 (a0)) 7) (Int.tmod (wrap64 (a1)) (wrap64 ((Int.tmod (wrap64 (a0)) 7) + 1))) 0 = some r) ∧ Aside0 (kq ≤ k) ∧ Aside0 (w'.heap[gb177]? = some (.cells #[(.slice none 0 0), (.slice none 0 0), .int .i64 (Int.tmod (wrap64 (a0)) 7), .int .i64 (Int.tmod (wrap64 (a1)) (wrap64 ((Int.tmod (wrap64 (a0)) 7) + 1))), .int .i64 0] 25 (0, 0))) ∧ Aside0 (Below w.heap.size w w'))
      case atStart => exact ⟨(0), (0), (by first | rfl | (simp; done) | (simp [*]; done)), (by first | rfl | (simp; done) | (simp [*]; done)), H', ⟨Nat.le_refl _⟩, ⟨by (with_reducible repeat (first | refine blk_drewN ?_ _ | refine blk_drew ?_ | refine blk_alloc ?_ _)); refine blk_put (cs := #[.slice none 0 0, .slice none 0 0, .int .i64 (Int.tmod (wrap64 (a0)) 7), .int .i64 (Int.tmod (wrap64 (a1)) (wrap64 ((Int.tmod (wrap64 (a0)) 7) + 1))), .int .i64 0]) ?_ 4 _ rfl; (with_reducible repeat (first | refine blk_drewN ?_ _ | refine blk_drew ?_ | refine blk_alloc ?_ _)); refine blk_put (cs := #[.slice none 0 0, .slice none 0 0, .int .i64 (Int.tmod (wrap64 (a0)) 7), .int .i64 0, .int .i64 0]) ?_ 3 _ rfl; (with_reducible repeat (first | refine blk_drewN ?_ _ | refine blk_drew ?_ | refine blk_alloc ?_ _)); refine blk_put (cs := #[.slice none 0 0, .slice none 0 0, .int .i64 0, .int .i64 0, .int .i64 0]) ?_ 2 _ rfl; (with_reducible repeat (first | refine blk_drewN ?_ _ | refine blk_drew ?_ | refine blk_alloc ?_ _)); refine blk_put (cs := #[.slice none 0 0, .slice none 0 0, .int .i64 0, .int .i64 0, .int .i64 0]) ?_ 1 _ rfl; (with_reducible repeat (first | refine blk_drewN ?_ _ | refine blk_drew ?_ | refine blk_alloc ?_ _)); refine blk_put (cs := #[.slice none 0 0, .slice none 0 0, .int .i64 0, .int .i64 0, .int .i64 0]) ?_ 0 _ rfl; (with_reducible repeat (first | refine blk_drewN ?_ _ | refine blk_drew ?_ | refine blk_alloc ?_ _)); exact BK177.out⟩, ⟨by repeat (first | (with_reducible first | exact HB.out | apply below_alloc | apply pw_below_drewN | apply below_drew1 | refine below_set ?_ GE177.out) | exact HB.out)⟩⟩
      case round =>
        clear H'
        try clear p2
        try clear c4
        try clear c5
        try clear c5b0
        try clear c5b1
        try clear p6
        try clear c8
        try clear hcz8_0
        try clear hcz8_1
        try clear hcz8_2
        try clear hcz8_3
        try clear hcz8_4
        try clear hfz8_0
        try clear hfz8_1
        try clear hfz8_2
        try clear hfz8_3
        try clear hfz8_4
        obtain ⟨x8_1, x9_1, rfl, rfl, HA, HK1, BK177, HB⟩ := hrel
        cases gk with
        | zero => exact absurd HA.out (by simp [crossroadslaw17_ClassFails.l0])
        | succ k1 =>
          have H := HA.out
          clear HA
          simp only [crossroadslaw17_ClassFails.l0] at H
          obtain ⟨ji9, hji9⟩ : ∃ j_ : Int, (IntKind.u64.wrap ((Int.tmod (wrap64 (a0)) 7))) = j_ := ⟨_, rfl⟩
          replace H : (if 0 ≤ (ji9) then (if x9_1 < (shl .i64 1 (ji9)) then (crossroadslaw17_ClassFails.l1 k1 (Int.tmod (wrap64 (a0)) 7) (Int.tmod (wrap64 (a1)) (wrap64 ((Int.tmod (wrap64 (a0)) 7) + 1))) x8_1 x9_1 ([] : List Bool) 0 (wrap64 ((Int.tmod (wrap64 (a0)) 7) - 1)) (Int.tmod (wrap64 (a0)) 7) (Int.tmod (wrap64 (a1)) (wrap64 ((Int.tmod (wrap64 (a0)) 7) + 1))) 0) else ((class_Count.f k1 ([] : List (S38)) ([] : List Int) (Int.tmod (wrap64 (a0)) 7) (Int.tmod (wrap64 (a1)) (wrap64 ((Int.tmod (wrap64 (a0)) 7) + 1))) 0).bind fun t178 => (some (t178 == x8_1)))) else (none)) = some r := by first | (rw [hji9] at H; exact H) | (simp only [hji9] at H ⊢; exact H)
          by_cases c10 : 0 ≤ (ji9)
          · rw [if_pos c10] at H
            have c10b0 := eq_true c10
            have c10b1 : decide (0 ≤ (ji9)) = true := decide_eq_true c10
            clear c10
            obtain ⟨ji11, hji11⟩ : ∃ j_ : Int, (shl .i64 1 (ji9)) = j_ := ⟨_, rfl⟩
            replace H : (if x9_1 < (ji11) then (crossroadslaw17_ClassFails.l1 k1 (Int.tmod (wrap64 (a0)) 7) (Int.tmod (wrap64 (a1)) (wrap64 ((Int.tmod (wrap64 (a0)) 7) + 1))) x8_1 x9_1 ([] : List Bool) 0 (wrap64 ((Int.tmod (wrap64 (a0)) 7) - 1)) (Int.tmod (wrap64 (a0)) 7) (Int.tmod (wrap64 (a1)) (wrap64 ((Int.tmod (wrap64 (a0)) 7) + 1))) 0) else ((class_Count.f k1 ([] : List (S38)) ([] : List Int) (Int.tmod (wrap64 (a0)) 7) (Int.tmod (wrap64 (a1)) (wrap64 ((Int.tmod (wrap64 (a0)) 7) + 1))) 0).bind fun t178 => (some (t178 == x8_1)))) = some r := by first | (rw [hji11] at H; exact H) | (simp only [hji11] at H ⊢; exact H)
            have hji11_ : (IntKind.i64.wrap (1 * 2 ^ min (ji9).toNat 64)) = ji11 := hji11
            have hji11z : (ji9) ≤ 64 → (IntKind.i64.wrap (1 * 2 ^ (ji9).toNat)) = ji11 := shl_small hji11
            have hji11u : (IntKind.i64.wrap (2 ^ min (ji9).toNat 64)) = ji11 := by have h_ := hji11_; rw [Int.one_mul] at h_; exact h_
            have hji11v : (ji9) ≤ 64 → (IntKind.i64.wrap (2 ^ (ji9).toNat)) = ji11 := fun hle_ => by have h_ := hji11z hle_; rw [Int.one_mul] at h_; exact h_
            have hji11y : (wrap64 (1 * 2 ^ min (ji9).toNat 64)) = ji11 := (i64_w _).symm.trans hji11_
            have hji11x : (ji9) ≤ 64 → (wrap64 (1 * 2 ^ (ji9).toNat)) = ji11 := fun h_ => (i64_w _).symm.trans (hji11z h_)
            by_cases c12 : x9_1 < (ji11)
            · rw [if_pos c12] at H
              have c12b0 : decide (x9_1 < (ji11)) = true := decide_eq_true c12
              clear c12
              have H' := Aside0.mk H
              clear H
              go_wp2
              go_loopg [10, 11, 12] k1 (fun kq v10 v11 v12 w' => ∃ (x10_2 : List Bool) (x11_2 : Int) (x12_2 : Int), v11 = .int .i64 x11_2 ∧ v12 = .int .i64 x12_2 ∧ Aside0 (crossroadslaw17_ClassFails.l1 kq (Int.tmod (wrap64 (a0)) 7) (Int.tmod (wrap64 (a1)) (wrap64 ((Int.tmod (wrap64 (a0)) 7) + 1))) x8_1 x9_1 x10_2 x11_2 x12_2 (Int.tmod (wrap64 (a0)) 7) (Int.tmod (wrap64 (a1)) (wrap64 ((Int.tmod (wrap64 (a0)) 7) + 1))) 0 = some r) ∧ Aside0 (kq ≤ k1) ∧ Aside0 (Kd.R Kd.bool 4 w' w.heap.size (fun _ => True) v10 x10_2) ∧ Aside0 (w'.heap[gb177]? = some (.cells #[(.slice none 0 0), (.slice none 0 0), .int .i64 (Int.tmod (wrap64 (a0)) 7), .int .i64 (Int.tmod (wrap64 (a1)) (wrap64 ((Int.tmod (wrap64 (a0)) 7) + 1))), .int .i64 0] 25 (0, 0))) ∧ Aside0 (Below w.heap.size w w'))
              case atStart => exact ⟨(([] : List Bool)), (0), (wrap64 ((Int.tmod (wrap64 (a0)) 7) - 1)), (by first | rfl | (simp; done) | (simp [*]; done)), (by first | rfl | (simp; done) | (simp [*]; done)), H', ⟨Nat.le_refl _⟩, ⟨by first | exact Kd.R_nil _ _ _ _ _ | exact Kd.N_nil _ _ _ _ _ | exact Kd.V_nil _ _ _ _ _ | exact Kd.Q_nil _ _ _ _ _ | exact Kd.S_nil _ _ _ _ _⟩, ⟨by (with_reducible repeat (first | refine blk_drewN ?_ _ | refine blk_drew ?_ | refine blk_alloc ?_ _)); exact BK177.out⟩, ⟨by repeat (first | (with_reducible first | exact HB.out | apply below_alloc | apply pw_below_drewN | apply below_drew1 | refine below_set ?_ GE177.out) | exact HB.out)⟩⟩
              case round =>
                clear H'
                try clear c1
                try clear p2
                try clear c4
                try clear c5
                try clear c5b0
                try clear c5b1
                try clear p6
                try clear c8
                try clear c9
                try clear c10
                try clear c10b0
                try clear c10b1
                try clear c12
                try clear c12b0
                try clear hcz8_0
                try clear hcz8_1
                try clear hcz8_2
                try clear hcz8_3
                try clear hcz8_4
                try clear hfz8_0
                try clear hfz8_1
                try clear hfz8_2
                try clear hfz8_3
                try clear hfz8_4
                try clear p2
                try clear p6
                obtain ⟨x10_2, x11_2, x12_2, rfl, rfl, HA, HK2, HO_10, BK177, HB⟩ := hrel
                cases gk with
                | zero => exact absurd HA.out (by simp [crossroadslaw17_ClassFails.l1])
                | succ k2 =>
                  have H := HA.out
                  clear HA
                  simp only [crossroadslaw17_ClassFails.l1] at H
                  by_cases c13 : x12_2 ≥ 0
                  · rw [if_pos c13] at H
                    have c13b0 : decide (0 ≤ x12_2) = true := decide_eq_true c13
                    clear c13
                    obtain ⟨ji14, hji14⟩ : ∃ j_ : Int, (IntKind.u64.wrap (x12_2)) = j_ := ⟨_, rfl⟩
                    replace H : (if 0 ≤ (ji14) then (if x10_2.length < 140737488355328 then ((some (x10_2 ++ [((Go.bits .and .i64 (shr .i64 x9_1 (ji14)) 1) == 1)] : List Bool)).bind fun y179 => (if (Go.bits .and .i64 (shr .i64 x9_1 (ji14)) 1) = 1 then (crossroadslaw17_ClassFails.l1 k2 (Int.tmod (wrap64 (a0)) 7) (Int.tmod (wrap64 (a1)) (wrap64 ((Int.tmod (wrap64 (a0)) 7) + 1))) x8_1 x9_1 y179 (wrap64 (x11_2 + 1)) (wrap64 (x12_2 - 1)) (Int.tmod (wrap64 (a0)) 7) (Int.tmod (wrap64 (a1)) (wrap64 ((Int.tmod (wrap64 (a0)) 7) + 1))) 0) else (crossroadslaw17_ClassFails.l1 k2 (Int.tmod (wrap64 (a0)) 7) (Int.tmod (wrap64 (a1)) (wrap64 ((Int.tmod (wrap64 (a0)) 7) + 1))) x8_1 x9_1 y179 x11_2 (wrap64 (x12_2 - 1)) (Int.tmod (wrap64 (a0)) 7) (Int.tmod (wrap64 (a1)) (wrap64 ((Int.tmod (wrap64 (a0)) 7) + 1))) 0))) else (none)) else (none)) = some r := by first | (rw [hji14] at H; exact H) | (simp only [hji14] at H ⊢; exact H)
                    by_cases c15 : 0 ≤ (ji14)
                    · rw [if_pos c15] at H
                      have c15b0 := eq_true c15
                      have c15b1 : decide (0 ≤ (ji14)) = true := decide_eq_true c15
                      clear c15
                      obtain ⟨ji16, hji16⟩ : ∃ j_ : Int, (shr .i64 x9_1 (ji14)) = j_ := ⟨_, rfl⟩
                      replace H : (if x10_2.length < 140737488355328 then ((some (x10_2 ++ [((Go.bits .and .i64 (ji16) 1) == 1)] : List Bool)).bind fun y179 => (if (Go.bits .and .i64 (ji16) 1) = 1 then (crossroadslaw17_ClassFails.l1 k2 (Int.tmod (wrap64 (a0)) 7) (Int.tmod (wrap64 (a1)) (wrap64 ((Int.tmod (wrap64 (a0)) 7) + 1))) x8_1 x9_1 y179 (wrap64 (x11_2 + 1)) (wrap64 (x12_2 - 1)) (Int.tmod (wrap64 (a0)) 7) (Int.tmod (wrap64 (a1)) (wrap64 ((Int.tmod (wrap64 (a0)) 7) + 1))) 0) else (crossroadslaw17_ClassFails.l1 k2 (Int.tmod (wrap64 (a0)) 7) (Int.tmod (wrap64 (a1)) (wrap64 ((Int.tmod (wrap64 (a0)) 7) + 1))) x8_1 x9_1 y179 x11_2 (wrap64 (x12_2 - 1)) (Int.tmod (wrap64 (a0)) 7) (Int.tmod (wrap64 (a1)) (wrap64 ((Int.tmod (wrap64 (a0)) 7) + 1))) 0))) else (none)) = some r := by first | (rw [hji16] at H; exact H) | (simp only [hji16] at H ⊢; exact H)
                      have hji16_ : (x9_1 / 2 ^ min (ji14).toNat 64) = ji16 := hji16
                      have hji16z : (ji14) ≤ 64 → (x9_1 / 2 ^ (ji14).toNat) = ji16 := shr_small hji16
                      by_cases c17 : x10_2.length < 140737488355328
                      · rw [if_pos c17] at H
                        have LMc17 := Aside0.mk c17
                        clear c17
                        obtain ⟨y179, hy179⟩ : ∃ y_ : List Bool, y_ = (x10_2 ++ [((Go.bits .and .i64 (ji16) 1) == 1)]) := ⟨_, rfl⟩
                        replace H : (if (Go.bits .and .i64 (ji16) 1) = 1 then (crossroadslaw17_ClassFails.l1 k2 (Int.tmod (wrap64 (a0)) 7) (Int.tmod (wrap64 (a1)) (wrap64 ((Int.tmod (wrap64 (a0)) 7) + 1))) x8_1 x9_1 y179 (wrap64 (x11_2 + 1)) (wrap64 (x12_2 - 1)) (Int.tmod (wrap64 (a0)) 7) (Int.tmod (wrap64 (a1)) (wrap64 ((Int.tmod (wrap64 (a0)) 7) + 1))) 0) else (crossroadslaw17_ClassFails.l1 k2 (Int.tmod (wrap64 (a0)) 7) (Int.tmod (wrap64 (a1)) (wrap64 ((Int.tmod (wrap64 (a0)) 7) + 1))) x8_1 x9_1 y179 x11_2 (wrap64 (x12_2 - 1)) (Int.tmod (wrap64 (a0)) 7) (Int.tmod (wrap64 (a1)) (wrap64 ((Int.tmod (wrap64 (a0)) 7) + 1))) 0)) = some r := by first | (rw [hy179]; with_reducible exact H) | (have H2_ := (Option.bind_some _ _).symm.trans H; rw [hy179]; with_reducible exact H2_) | (have H2_ := (Option.bind_some _ _).symm.trans H; with_reducible exact H2_) | with_reducible exact H | (rw [hy179]; exact H) | exact H
                        have Ny179 := Aside0.mk hy179
                        clear hy179
                        by_cases c18 : (Go.bits .and .i64 (ji16) 1) = 1
                        · rw [if_pos c18] at H
                          have c18b0 : ((Go.bits .and .i64 (ji16) 1) == 1) = true := beq_iff_eq.mpr c18
                          have Ny179 := Aside0.mk (show y179 = (x10_2 ++ [true]) by rw [Ny179.out, c18b0])
                          have c18b1 : ((Go.bits .and .i64 (ji16) 1) != 1) = false := bne_eq_false_iff_eq.mpr c18
                          clear c18
                          have H' := Aside0.mk H
                          clear H
                          go_wp2_with (first | ((with_reducible refine gate_builtin (b := .append) (xs := #[.tmp 48, .tmp 50]) rfl ?_); at_builtin; refine Kd.R_append Kd.bool (w0 := w) w.heap.size rfl (.tmp 48) (.tmp 50) 29 4 (.bool false) 1 rfl Try.underlying29 info4 rfl (by decide) (by omega) u10 x10_2 true [.bool true] (fun _ => True) (fun _ => False) rfl rfl ?aP (fun _ hk => hk.elim) ?aF ?aO ?aB ?aS ?aL ?_; (case aP => exact rfl); (case aB => exact (by repeat (first | (with_reducible first | exact HB.out | apply below_alloc | apply pw_below_drewN | apply below_drew1 | refine below_set ?_ GE177.out) | exact HB.out))); (case aF => exact (fun _ _ => trivial)); (case aO => exact (by (with_reducible repeat (first | apply Kd.R_alloc | apply Kd.R_drewN | apply Kd.R_drew)); exact HO_10.out)); (case aS => exact (below_size (by repeat (first | (with_reducible first | exact HB.out | apply below_alloc | apply pw_below_drewN | apply below_drew1 | refine below_set ?_ GE177.out) | exact HB.out)))); (case aL => have := LMc17.out; omega); intro v180 w19 ho hb hg hat; rw [← Ny179.out] at ho; have n0_ := Aside0.mk (blk_grown (g := gb177) (o := .cells #[.slice none 0 0, .slice none 0 0, .int .i64 (Int.tmod (wrap64 (a0)) 7), .int .i64 (Int.tmod (wrap64 (a1)) (wrap64 ((Int.tmod (wrap64 (a0)) 7) + 1))), .int .i64 0] 25 (0, 0)) (by (with_reducible repeat (first | refine blk_drewN ?_ _ | refine blk_drew ?_ | refine blk_alloc ?_ _)); exact BK177.out) hg (Kd.R_ne HO_10.out BK177.out (by decide))); have n1_ := Aside0.mk (hb); have n2_ := Aside0.mk (ho); clear BK177; clear HB; clear HO_10; have BK177 := n0_; have HB := n1_; have HO181 := n2_; clear n0_ n1_ n2_; clear ho hb hg hat))
                          go_roundg k2
                          case measure => have := HK1.out; have := HK2.out; omega
                          case rel => exact ⟨(y179), (wrap64 (x11_2 + 1)), (wrap64 (x12_2 - 1)), (by first | rfl | (simp; done) | (simp [*]; done)), (by first | rfl | (simp; done) | (simp [*]; done)), H', ⟨by have := HK1.out; have := HK2.out; omega⟩, ⟨by (with_reducible repeat (first | apply Kd.R_alloc | apply Kd.R_drewN | apply Kd.R_drew)); exact HO181.out⟩, ⟨by (with_reducible repeat (first | refine blk_drewN ?_ _ | refine blk_drew ?_ | refine blk_alloc ?_ _)); exact BK177.out⟩, ⟨by repeat (first | (with_reducible first | exact HB.out | apply below_alloc | apply pw_below_drewN | apply below_drew1 | refine below_set ?_ GE177.out) | exact HB.out)⟩⟩
                        · rw [if_neg c18] at H
                          have c18b0 : ((Go.bits .and .i64 (ji16) 1) == 1) = false := beq_eq_false_iff_ne.mpr c18
                          have Ny179 := Aside0.mk (show y179 = (x10_2 ++ [false]) by rw [Ny179.out, c18b0])
                          have c18b1 : ((Go.bits .and .i64 (ji16) 1) != 1) = true := bne_iff_ne.mpr c18
                          have H' := Aside0.mk H
                          clear H
                          go_wp2_with (first | ((with_reducible refine gate_builtin (b := .append) (xs := #[.tmp 48, .tmp 50]) rfl ?_); at_builtin; refine Kd.R_append Kd.bool (w0 := w) w.heap.size rfl (.tmp 48) (.tmp 50) 29 4 (.bool false) 1 rfl Try.underlying29 info4 rfl (by decide) (by omega) u10 x10_2 false [.bool false] (fun _ => True) (fun _ => False) rfl rfl ?aP (fun _ hk => hk.elim) ?aF ?aO ?aB ?aS ?aL ?_; (case aP => exact rfl); (case aB => exact (by repeat (first | (with_reducible first | exact HB.out | apply below_alloc | apply pw_below_drewN | apply below_drew1 | refine below_set ?_ GE177.out) | exact HB.out))); (case aF => exact (fun _ _ => trivial)); (case aO => exact (by (with_reducible repeat (first | apply Kd.R_alloc | apply Kd.R_drewN | apply Kd.R_drew)); exact HO_10.out)); (case aS => exact (below_size (by repeat (first | (with_reducible first | exact HB.out | apply below_alloc | apply pw_below_drewN | apply below_drew1 | refine below_set ?_ GE177.out) | exact HB.out)))); (case aL => have := LMc17.out; omega); intro v180 w20 ho hb hg hat; rw [← Ny179.out] at ho; have n0_ := Aside0.mk (blk_grown (g := gb177) (o := .cells #[.slice none 0 0, .slice none 0 0, .int .i64 (Int.tmod (wrap64 (a0)) 7), .int .i64 (Int.tmod (wrap64 (a1)) (wrap64 ((Int.tmod (wrap64 (a0)) 7) + 1))), .int .i64 0] 25 (0, 0)) (by (with_reducible repeat (first | refine blk_drewN ?_ _ | refine blk_drew ?_ | refine blk_alloc ?_ _)); exact BK177.out) hg (Kd.R_ne HO_10.out BK177.out (by decide))); have n1_ := Aside0.mk (hb); have n2_ := Aside0.mk (ho); clear BK177; clear HB; clear HO_10; have BK177 := n0_; have HB := n1_; have HO181 := n2_; clear n0_ n1_ n2_; clear ho hb hg hat))
                          go_roundg k2
                          case measure => have := HK1.out; have := HK2.out; omega
                          case rel => exact ⟨(y179), (x11_2), (wrap64 (x12_2 - 1)), (by first | rfl | (simp; done) | (simp [*]; done)), (by first | rfl | (simp; done) | (simp [*]; done)), H', ⟨by have := HK1.out; have := HK2.out; omega⟩, ⟨by (with_reducible repeat (first | apply Kd.R_alloc | apply Kd.R_drewN | apply Kd.R_drew)); exact HO181.out⟩, ⟨by (with_reducible repeat (first | refine blk_drewN ?_ _ | refine blk_drew ?_ | refine blk_alloc ?_ _)); exact BK177.out⟩, ⟨by repeat (first | (with_reducible first | exact HB.out | apply below_alloc | apply pw_below_drewN | apply below_drew1 | refine below_set ?_ GE177.out) | exact HB.out)⟩⟩
                      · rw [if_neg c17] at H
                        exact absurd H (by simp)
                    · rw [if_neg c15] at H
                      exact absurd H (by simp)
                  · rw [if_neg c13] at H
                    have c13b0 : decide (0 ≤ x12_2) = false := decide_eq_false c13
                    clear c13
                    by_cases c21 : x11_2 > (Int.tmod (wrap64 (a1)) (wrap64 ((Int.tmod (wrap64 (a0)) 7) + 1)))
                    · rw [if_pos c21] at H
                      have c21b0 : decide ((Int.tmod (wrap64 (a1)) (wrap64 ((Int.tmod (wrap64 (a0)) 7) + 1))) < x11_2) = true := decide_eq_true c21
                      clear c21
                      have H' := Aside0.mk H
                      clear H
                      go_wp2
                      go_roundg k2
                      case measure => have := HK1.out; have := HK2.out; omega
                      case rel => exact ⟨(x8_1), (wrap64 (x9_1 + 1)), (by first | rfl | (simp; done) | (simp [*]; done)), (by first | rfl | (simp; done) | (simp [*]; done)), H', ⟨by have := HK1.out; have := HK2.out; omega⟩, ⟨by (with_reducible repeat (first | refine blk_drewN ?_ _ | refine blk_drew ?_ | refine blk_alloc ?_ _)); exact BK177.out⟩, ⟨by repeat (first | (with_reducible first | exact HB.out | apply below_alloc | apply pw_below_drewN | apply below_drew1 | refine below_set ?_ GE177.out) | exact HB.out)⟩⟩
                    · rw [if_neg c21] at H
                      have c21b0 : decide ((Int.tmod (wrap64 (a1)) (wrap64 ((Int.tmod (wrap64 (a0)) 7) + 1))) < x11_2) = false := decide_eq_false c21
                      clear c21
                      replace H := Option.bind_eq_some_iff.mp H
                      obtain ⟨⟨t182, t185, t188, t191⟩, A220, H⟩ := H
                      replace H : (if t191 = true then ((crossroadsref17_Same.f k2 t182 t185 t188 ([] : List (List Int)) ([] : List (List Int)) x10_2).bind fun t193 => (if t193 = true then (crossroadslaw17_ClassFails.l0 k2 (Int.tmod (wrap64 (a0)) 7) (Int.tmod (wrap64 (a1)) (wrap64 ((Int.tmod (wrap64 (a0)) 7) + 1))) (wrap64 (x8_1 + 1)) (wrap64 (x9_1 + 1)) (Int.tmod (wrap64 (a0)) 7) (Int.tmod (wrap64 (a1)) (wrap64 ((Int.tmod (wrap64 (a0)) 7) + 1))) 0) else (none))) else (none)) = some r := H
                      have A22 := Aside0.mk A220
                      clear A220
                      by_cases c23 : t191 = true
                      · subst c23
                        have H1 : ((crossroadsref17_Same.f k2 t182 t185 t188 ([] : List (List Int)) ([] : List (List Int)) x10_2).bind fun t193 => (if t193 = true then (crossroadslaw17_ClassFails.l0 k2 (Int.tmod (wrap64 (a0)) 7) (Int.tmod (wrap64 (a1)) (wrap64 ((Int.tmod (wrap64 (a0)) 7) + 1))) (wrap64 (x8_1 + 1)) (wrap64 (x9_1 + 1)) (Int.tmod (wrap64 (a0)) 7) (Int.tmod (wrap64 (a1)) (wrap64 ((Int.tmod (wrap64 (a0)) 7) + 1))) 0) else (none))) = some r := by rw [if_pos rfl] at H; exact H
                        clear H
                        have H := H1
                        clear H1
                        replace H := Option.bind_eq_some_iff.mp H
                        obtain ⟨t193, A240, H⟩ := H
                        replace H : (if t193 = true then (crossroadslaw17_ClassFails.l0 k2 (Int.tmod (wrap64 (a0)) 7) (Int.tmod (wrap64 (a1)) (wrap64 ((Int.tmod (wrap64 (a0)) 7) + 1))) (wrap64 (x8_1 + 1)) (wrap64 (x9_1 + 1)) (Int.tmod (wrap64 (a0)) 7) (Int.tmod (wrap64 (a1)) (wrap64 ((Int.tmod (wrap64 (a0)) 7) + 1))) 0) else (none)) = some r := H
                        have A24 := Aside0.mk A240
                        clear A240
                        by_cases c25 : t193 = true
                        · subst c25
                          have H1 : (crossroadslaw17_ClassFails.l0 k2 (Int.tmod (wrap64 (a0)) 7) (Int.tmod (wrap64 (a1)) (wrap64 ((Int.tmod (wrap64 (a0)) 7) + 1))) (wrap64 (x8_1 + 1)) (wrap64 (x9_1 + 1)) (Int.tmod (wrap64 (a0)) 7) (Int.tmod (wrap64 (a1)) (wrap64 ((Int.tmod (wrap64 (a0)) 7) + 1))) 0) = some r := by rw [if_pos rfl] at H; exact H
                          clear H
                          have H := H1
                          clear H1
                          have H' := Aside0.mk H
                          clear H
                          have hcz26_0 : wr.cell? ⟨gb177, 0, none⟩ = some (.slice none 0 0) := (blk_cell BK177.out 0).trans rfl
                          have hcz26_1 : wr.cell? ⟨gb177, 1, none⟩ = some (.slice none 0 0) := (blk_cell BK177.out 1).trans rfl
                          have hcz26_2 : wr.cell? ⟨gb177, 2, none⟩ = some (.int .i64 (Int.tmod (wrap64 (a0)) 7)) := (blk_cell BK177.out 2).trans rfl
                          have hcz26_3 : wr.cell? ⟨gb177, 3, none⟩ = some (.int .i64 (Int.tmod (wrap64 (a1)) (wrap64 ((Int.tmod (wrap64 (a0)) 7) + 1)))) := (blk_cell BK177.out 3).trans rfl
                          have hcz26_4 : wr.cell? ⟨gb177, 4, none⟩ = some (.int .i64 0) := (blk_cell BK177.out 4).trans rfl
                          have hfz26_0 := blk_frozen BK177.out 0
                          have hfz26_1 := blk_frozen BK177.out 1
                          have hfz26_2 := blk_frozen BK177.out 2
                          have hfz26_3 := blk_frozen BK177.out 3
                          have hfz26_4 := blk_frozen BK177.out 4
                          go_wp2_with (first | ((with_reducible refine gate_callee (f := 11) rfl ?_); refine goesL_ (some 61) rfl rfl Try.func11 (by kernel_rfl) rfl #[.agg #[.slice none 0 0, .slice none 0 0, .int .i64 (Int.tmod (wrap64 (a0)) 7), .int .i64 (Int.tmod (wrap64 (a1)) (wrap64 ((Int.tmod (wrap64 (a0)) 7) + 1))), .int .i64 0], .int .i64 x8_1] rfl (by (try simp only [List.map_toArray, List.map_cons, List.map_nil]); first | done | rfl | (simp only [List.length_drop, List.length_take]; rfl)) ?_; (refine (class_Nth.calls _ _ ([] : List (S38)) _ _ ([] : List Int) (Int.tmod (wrap64 (a0)) 7) (Int.tmod (wrap64 (a1)) (wrap64 ((Int.tmod (wrap64 (a0)) 7) + 1))) 0 x8_1 t182 t185 t188 true _ ?side1 ?side2 ?side3 ?side4 A22.out).mono ?_); (case side1 => exact Kd.C_nil _ _); (case side2 => exact Nat.le_refl _); (case side3 => exact Kd.C_nil _ _); (case side4 => exact Nat.le_refl _); rintro e w27 ⟨v183, v186, v189, rfl, ho0, ho1, ho2, hb⟩; refine ⟨_, rfl, ?_⟩; have n0_ := Aside0.mk (Kd.R_below (by (with_reducible repeat (first | apply Kd.R_alloc | apply Kd.R_drewN | apply Kd.R_drew)); exact HO_10.out) hb); have n1_ := Aside0.mk (Kd.V_lower (Kd.V_mono (ok' := fun k_ => some k_ ≠ (u10 : Value).ownBlock ∧ k_ ≠ gb177) ho0 (fun k_ hk_ => ⟨(Kd.fresh' (Kd.R_lt (by (with_reducible repeat (first | apply Kd.R_alloc | apply Kd.R_drewN | apply Kd.R_drew)); exact HO_10.out)) k_ hk_), (Kd.freshB (g := gb177) (o := .cells #[.slice none 0 0, .slice none 0 0, .int .i64 (Int.tmod (wrap64 (a0)) 7), .int .i64 (Int.tmod (wrap64 (a1)) (wrap64 ((Int.tmod (wrap64 (a0)) 7) + 1))), .int .i64 0] 25 (0, 0)) (by (with_reducible repeat (first | refine blk_drewN ?_ _ | refine blk_drew ?_ | refine blk_alloc ?_ _)); exact BK177.out) k_ hk_)⟩)) (below_size (by repeat (first | (with_reducible first | exact HB.out | apply below_alloc | apply pw_below_drewN | apply below_drew1 | refine below_set ?_ GE177.out) | exact HB.out)))); have n2_ := Aside0.mk (Kd.V_lower (Kd.V_mono (ok' := fun k_ => some k_ ≠ (u10 : Value).ownBlock ∧ k_ ≠ gb177) ho1 (fun k_ hk_ => ⟨(Kd.fresh' (Kd.R_lt (by (with_reducible repeat (first | apply Kd.R_alloc | apply Kd.R_drewN | apply Kd.R_drew)); exact HO_10.out)) k_ hk_), (Kd.freshB (g := gb177) (o := .cells #[.slice none 0 0, .slice none 0 0, .int .i64 (Int.tmod (wrap64 (a0)) 7), .int .i64 (Int.tmod (wrap64 (a1)) (wrap64 ((Int.tmod (wrap64 (a0)) 7) + 1))), .int .i64 0] 25 (0, 0)) (by (with_reducible repeat (first | refine blk_drewN ?_ _ | refine blk_drew ?_ | refine blk_alloc ?_ _)); exact BK177.out) k_ hk_)⟩)) (below_size (by repeat (first | (with_reducible first | exact HB.out | apply below_alloc | apply pw_below_drewN | apply below_drew1 | refine below_set ?_ GE177.out) | exact HB.out)))); have n3_ := Aside0.mk (Kd.V_lower (Kd.V_mono (ok' := fun k_ => some k_ ≠ (u10 : Value).ownBlock ∧ k_ ≠ gb177) ho2 (fun k_ hk_ => ⟨(Kd.fresh' (Kd.R_lt (by (with_reducible repeat (first | apply Kd.R_alloc | apply Kd.R_drewN | apply Kd.R_drew)); exact HO_10.out)) k_ hk_), (Kd.freshB (g := gb177) (o := .cells #[.slice none 0 0, .slice none 0 0, .int .i64 (Int.tmod (wrap64 (a0)) 7), .int .i64 (Int.tmod (wrap64 (a1)) (wrap64 ((Int.tmod (wrap64 (a0)) 7) + 1))), .int .i64 0] 25 (0, 0)) (by (with_reducible repeat (first | refine blk_drewN ?_ _ | refine blk_drew ?_ | refine blk_alloc ?_ _)); exact BK177.out) k_ hk_)⟩)) (below_size (by repeat (first | (with_reducible first | exact HB.out | apply below_alloc | apply pw_below_drewN | apply below_drew1 | refine below_set ?_ GE177.out) | exact HB.out)))); have n4_ := Aside0.mk (blk_below (g := gb177) (o := .cells #[.slice none 0 0, .slice none 0 0, .int .i64 (Int.tmod (wrap64 (a0)) 7), .int .i64 (Int.tmod (wrap64 (a1)) (wrap64 ((Int.tmod (wrap64 (a0)) 7) + 1))), .int .i64 0] 25 (0, 0)) (by (with_reducible repeat (first | refine blk_drewN ?_ _ | refine blk_drew ?_ | refine blk_alloc ?_ _)); exact BK177.out) hb); have n5_ := Aside0.mk (below_step (by repeat (first | (with_reducible first | exact HB.out | apply below_alloc | apply pw_below_drewN | apply below_drew1 | refine below_set ?_ GE177.out) | exact HB.out)) hb); clear HO_10; clear BK177; clear HB; have HO_10 := n0_; have HO184 := n1_; have HO187 := n2_; have HO190 := n3_; have BK177 := n4_; have HB := n5_; clear n0_ n1_ n2_ n3_ n4_ n5_; (try clear hb); (try clear hb2); (try clear hk); (try clear hi); (try clear ho0); (try clear ho1); (try clear ho2)) | ((with_reducible refine gate_dst (N := 14) rfl ?_); refine box_event ?hg (N := 14) ?hd (cs := #[.slice none 0 0, .slice none 0 0, .slice none 0 0]) (t := 31) ?hr ?_; (case hd => rfl); (case hg => rfl); (case hr => first | (go_simp; done) | (go_simp; rfl)); intro gb192 hg w28 hbox hb; have n0_ := Aside0.mk (Kd.R_below (by (with_reducible repeat (first | apply Kd.R_alloc | apply Kd.R_drewN | apply Kd.R_drew)); exact HO_10.out) hb); have n1_ := Aside0.mk (Kd.V_below (Kd.V_elderB (by (with_reducible repeat (first | apply Kd.V_alloc | apply Kd.V_drewN | apply Kd.V_drew)); exact HO184.out) gb192 (Nat.le_of_eq hg.symm)) hb); have n2_ := Aside0.mk (Kd.V_below (Kd.V_elderB (by (with_reducible repeat (first | apply Kd.V_alloc | apply Kd.V_drewN | apply Kd.V_drew)); exact HO187.out) gb192 (Nat.le_of_eq hg.symm)) hb); have n3_ := Aside0.mk (Kd.V_below (Kd.V_elderB (by (with_reducible repeat (first | apply Kd.V_alloc | apply Kd.V_drewN | apply Kd.V_drew)); exact HO190.out) gb192 (Nat.le_of_eq hg.symm)) hb); have n4_ := Aside0.mk (blk_below (g := gb177) (o := .cells #[.slice none 0 0, .slice none 0 0, .int .i64 (Int.tmod (wrap64 (a0)) 7), .int .i64 (Int.tmod (wrap64 (a1)) (wrap64 ((Int.tmod (wrap64 (a0)) 7) + 1))), .int .i64 0] 25 (0, 0)) (by (with_reducible repeat (first | refine blk_drewN ?_ _ | refine blk_drew ?_ | refine blk_alloc ?_ _)); exact BK177.out) hb); have n5_ := Aside0.mk (below_step (by repeat (first | (with_reducible first | exact HB.out | apply below_alloc | apply pw_below_drewN | apply below_drew1 | refine below_set ?_ GE177.out) | exact HB.out)) hb); have n6_ := Aside0.mk (hbox); have n7_ := Aside0.mk ((by rw [hg]; exact (below_size (by repeat (first | (with_reducible first | exact HB.out | apply below_alloc | apply pw_below_drewN | apply below_drew1 | refine below_set ?_ GE177.out) | exact HB.out))) : w.heap.size ≤ gb192)); have n8_ := Aside0.mk ((by rw [hg]; exact (below_size (by repeat (first | (with_reducible first | exact HB.out | apply below_alloc | apply pw_below_drewN | apply below_drew1 | refine below_set ?_ GE177.out) | exact HB.out))) : w.heap.size ≤ gb192)); have n9_ := Aside0.mk ((by rw [hg]; exact Nat.ne_of_lt (blk_lt (g := gb177) (o := .cells #[.slice none 0 0, .slice none 0 0, .int .i64 (Int.tmod (wrap64 (a0)) 7), .int .i64 (Int.tmod (wrap64 (a1)) (wrap64 ((Int.tmod (wrap64 (a0)) 7) + 1))), .int .i64 0] 25 (0, 0)) (by (with_reducible repeat (first | refine blk_drewN ?_ _ | refine blk_drew ?_ | refine blk_alloc ?_ _)); exact BK177.out)) : gb177 ≠ gb192)); have n10_ := Aside0.mk ((by rw [hg]; exact Nat.ne_of_gt (blk_lt (g := gb177) (o := .cells #[.slice none 0 0, .slice none 0 0, .int .i64 (Int.tmod (wrap64 (a0)) 7), .int .i64 (Int.tmod (wrap64 (a1)) (wrap64 ((Int.tmod (wrap64 (a0)) 7) + 1))), .int .i64 0] 25 (0, 0)) (by (with_reducible repeat (first | refine blk_drewN ?_ _ | refine blk_drew ?_ | refine blk_alloc ?_ _)); exact BK177.out)) : gb192 ≠ gb177)); clear HO_10; clear HO184; clear HO187; clear HO190; clear BK177; clear HB; have HO_10 := n0_; have HO184 := n1_; have HO187 := n2_; have HO190 := n3_; have BK177 := n4_; have HB := n5_; have BK192 := n6_; have GW192 := n7_; have GE192 := n8_; have NB177_192 := n9_; have NB192_177 := n10_; clear n0_ n1_ n2_ n3_ n4_ n5_ n6_ n7_ n8_ n9_ n10_; clear hb hbox hg; obtain ⟨Ao29, co29, eo29⟩ := Kd.V_slice HO184.out; subst eo29; have hnb30 := NB192_177.out; have hnc30 := NB177_192.out; have hcz31_0 : w28.cell? ⟨gb192, 0, none⟩ = some (.slice none 0 0) := (blk_cell BK192.out 0).trans rfl; have hcz31_1 : w28.cell? ⟨gb192, 1, none⟩ = some (.slice none 0 0) := (blk_cell BK192.out 1).trans rfl; have hcz31_2 : w28.cell? ⟨gb192, 2, none⟩ = some (.slice none 0 0) := (blk_cell BK192.out 2).trans rfl; have hfz31_0 := blk_frozen BK192.out 0; have hfz31_1 := blk_frozen BK192.out 1; have hfz31_2 := blk_frozen BK192.out 2; obtain ⟨Ao32, co32, eo32⟩ := Kd.V_slice HO187.out; subst eo32; obtain ⟨Ao33, co33, eo33⟩ := Kd.V_slice HO190.out; subst eo33; obtain ⟨Ao34, co34, eo34⟩ := Kd.R_slice HO_10.out; subst eo34) | (go_at_call 17; (refine (crossroadsref17_Same.calls k2 _ _ t182 _ _ t185 _ _ t188 _ _ ([] : List (List Int)) _ _ ([] : List (List Int)) _ _ x10_2 true _ ?side1 ?side2 ?side3 ?side4 ?side5 ?side6 ?side7 ?side8 ?side9 ?side10 ?side11 ?side12 A24.out).mono ?_); (case side1 => refine (Kd.V_reads' (e := 42) (base := w.heap.size) (ok := fun k_ => ((some k_ ≠ (.slice Ao34 x10_2.length co34 : Value).ownBlock ∧ k_ ≠ gb177) ∧ k_ ≠ gb192)) (n := t182.length) (c := co29) ?_).2.2; exact (by (with_reducible repeat (first | apply Kd.V_alloc | apply Kd.V_drewN | apply Kd.V_drew)); exact (Kd.V_mono (Kd.V_far (p := ⟨gb192, 2, none⟩) (Kd.V_far (p := ⟨gb192, 1, none⟩) (Kd.V_far (p := ⟨gb192, 0, none⟩) (Kd.V_mono HO184.out (fun k_ hk => (⟨hk, hk.2⟩ : _ ∧ k_ ≠ gb192))) (fun _ hk => hk.2) (.slice Ao29 t182.length co29)) (fun _ hk => hk.2) (.slice Ao32 t185.length co32)) (fun _ hk => hk.2) (.slice Ao33 t188.length co33)) (fun _ h_ => h_.1)))); (case side2 => exact (Kd.V_reads' HO184.out).2.1); (case side3 => refine (Kd.V_reads' (e := 42) (base := w.heap.size) (ok := fun k_ => ((some k_ ≠ (.slice Ao34 x10_2.length co34 : Value).ownBlock ∧ k_ ≠ gb177) ∧ k_ ≠ gb192)) (n := t185.length) (c := co32) ?_).2.2; exact (by (with_reducible repeat (first | apply Kd.V_alloc | apply Kd.V_drewN | apply Kd.V_drew)); exact (Kd.V_mono (Kd.V_far (p := ⟨gb192, 2, none⟩) (Kd.V_far (p := ⟨gb192, 1, none⟩) (Kd.V_far (p := ⟨gb192, 0, none⟩) (Kd.V_mono HO187.out (fun k_ hk => (⟨hk, hk.2⟩ : _ ∧ k_ ≠ gb192))) (fun _ hk => hk.2) (.slice Ao29 t182.length co29)) (fun _ hk => hk.2) (.slice Ao32 t185.length co32)) (fun _ hk => hk.2) (.slice Ao33 t188.length co33)) (fun _ h_ => h_.1)))); (case side4 => exact (Kd.V_reads' HO187.out).2.1); (case side5 => refine (Kd.V_reads' (e := 4) (base := w.heap.size) (ok := fun k_ => ((some k_ ≠ (.slice Ao34 x10_2.length co34 : Value).ownBlock ∧ k_ ≠ gb177) ∧ k_ ≠ gb192)) (n := t188.length) (c := co33) ?_).2.2; exact (by (with_reducible repeat (first | apply Kd.V_alloc | apply Kd.V_drewN | apply Kd.V_drew)); exact (Kd.V_mono (Kd.V_far (p := ⟨gb192, 2, none⟩) (Kd.V_far (p := ⟨gb192, 1, none⟩) (Kd.V_far (p := ⟨gb192, 0, none⟩) (Kd.V_mono HO190.out (fun k_ hk => (⟨hk, hk.2⟩ : _ ∧ k_ ≠ gb192))) (fun _ hk => hk.2) (.slice Ao29 t182.length co29)) (fun _ hk => hk.2) (.slice Ao32 t185.length co32)) (fun _ hk => hk.2) (.slice Ao33 t188.length co33)) (fun _ h_ => h_.1)))); (case side6 => exact (Kd.V_reads' HO190.out).2.1); (case side7 => exact Kd.C_nil _ _); (case side8 => exact Nat.le_refl _); (case side9 => exact Kd.C_nil _ _); (case side10 => exact Nat.le_refl _); (case side11 => refine (Kd.R_reads' (e := 4) (base := w.heap.size) (ok := fun k_ => True) (n := x10_2.length) (c := co34) ?_).2.2; exact (by (with_reducible repeat (first | apply Kd.R_alloc | apply Kd.R_drewN | apply Kd.R_drew)); exact (Kd.R_mono (Kd.R_far (p := ⟨gb192, 2, none⟩) (Kd.R_far (p := ⟨gb192, 1, none⟩) (Kd.R_far (p := ⟨gb192, 0, none⟩) (Kd.R_types HO_10.out BK192.out (by decide)) (fun _ hk => hk.2) (.slice Ao29 t182.length co29)) (fun _ hk => hk.2) (.slice Ao32 t185.length co32)) (fun _ hk => hk.2) (.slice Ao33 t188.length co33)) (fun _ h_ => h_.1)))); (case side12 => exact (Kd.R_reads' HO_10.out).2.1); rintro e w35 ⟨rfl, hb⟩; have n0_ := Aside0.mk (Kd.R_below (by (with_reducible repeat (first | apply Kd.R_alloc | apply Kd.R_drewN | apply Kd.R_drew)); exact (Kd.R_mono (Kd.R_far (p := ⟨gb192, 2, none⟩) (Kd.R_far (p := ⟨gb192, 1, none⟩) (Kd.R_far (p := ⟨gb192, 0, none⟩) (Kd.R_types HO_10.out BK192.out (by decide)) (fun _ hk => hk.2) (.slice Ao29 t182.length co29)) (fun _ hk => hk.2) (.slice Ao32 t185.length co32)) (fun _ hk => hk.2) (.slice Ao33 t188.length co33)) (fun _ h_ => h_.1))) hb); have n1_ := Aside0.mk (Kd.V_below (by (with_reducible repeat (first | apply Kd.V_alloc | apply Kd.V_drewN | apply Kd.V_drew)); exact (Kd.V_mono (Kd.V_far (p := ⟨gb192, 2, none⟩) (Kd.V_far (p := ⟨gb192, 1, none⟩) (Kd.V_far (p := ⟨gb192, 0, none⟩) (Kd.V_mono HO184.out (fun k_ hk => (⟨hk, hk.2⟩ : _ ∧ k_ ≠ gb192))) (fun _ hk => hk.2) (.slice Ao29 t182.length co29)) (fun _ hk => hk.2) (.slice Ao32 t185.length co32)) (fun _ hk => hk.2) (.slice Ao33 t188.length co33)) (fun _ h_ => h_.1))) hb); have n2_ := Aside0.mk (Kd.V_below (by (with_reducible repeat (first | apply Kd.V_alloc | apply Kd.V_drewN | apply Kd.V_drew)); exact (Kd.V_mono (Kd.V_far (p := ⟨gb192, 2, none⟩) (Kd.V_far (p := ⟨gb192, 1, none⟩) (Kd.V_far (p := ⟨gb192, 0, none⟩) (Kd.V_mono HO187.out (fun k_ hk => (⟨hk, hk.2⟩ : _ ∧ k_ ≠ gb192))) (fun _ hk => hk.2) (.slice Ao29 t182.length co29)) (fun _ hk => hk.2) (.slice Ao32 t185.length co32)) (fun _ hk => hk.2) (.slice Ao33 t188.length co33)) (fun _ h_ => h_.1))) hb); have n3_ := Aside0.mk (Kd.V_below (by (with_reducible repeat (first | apply Kd.V_alloc | apply Kd.V_drewN | apply Kd.V_drew)); exact (Kd.V_mono (Kd.V_far (p := ⟨gb192, 2, none⟩) (Kd.V_far (p := ⟨gb192, 1, none⟩) (Kd.V_far (p := ⟨gb192, 0, none⟩) (Kd.V_mono HO190.out (fun k_ hk => (⟨hk, hk.2⟩ : _ ∧ k_ ≠ gb192))) (fun _ hk => hk.2) (.slice Ao29 t182.length co29)) (fun _ hk => hk.2) (.slice Ao32 t185.length co32)) (fun _ hk => hk.2) (.slice Ao33 t188.length co33)) (fun _ h_ => h_.1))) hb); have n4_ := Aside0.mk (blk_below (g := gb177) (o := .cells #[.slice none 0 0, .slice none 0 0, .int .i64 (Int.tmod (wrap64 (a0)) 7), .int .i64 (Int.tmod (wrap64 (a1)) (wrap64 ((Int.tmod (wrap64 (a0)) 7) + 1))), .int .i64 0] 25 (0, 0)) (by (with_reducible repeat (first | refine blk_drewN ?_ _ | refine blk_drew ?_ | refine blk_alloc ?_ _)); refine blk_far ?_ NB177_192.out _; (with_reducible repeat (first | refine blk_drewN ?_ _ | refine blk_drew ?_ | refine blk_alloc ?_ _)); refine blk_far ?_ NB177_192.out _; (with_reducible repeat (first | refine blk_drewN ?_ _ | refine blk_drew ?_ | refine blk_alloc ?_ _)); refine blk_far ?_ NB177_192.out _; (with_reducible repeat (first | refine blk_drewN ?_ _ | refine blk_drew ?_ | refine blk_alloc ?_ _)); exact BK177.out) hb); have n5_ := Aside0.mk (blk_below (g := gb192) (o := .cells #[.slice Ao29 t182.length co29, .slice Ao32 t185.length co32, .slice Ao33 t188.length co33] 31 (0, 0)) (by (with_reducible repeat (first | refine blk_drewN ?_ _ | refine blk_drew ?_ | refine blk_alloc ?_ _)); refine blk_put (cs := #[.slice Ao29 t182.length co29, .slice Ao32 t185.length co32, .slice none 0 0]) ?_ 2 _ rfl; (with_reducible repeat (first | refine blk_drewN ?_ _ | refine blk_drew ?_ | refine blk_alloc ?_ _)); refine blk_put (cs := #[.slice Ao29 t182.length co29, .slice none 0 0, .slice none 0 0]) ?_ 1 _ rfl; (with_reducible repeat (first | refine blk_drewN ?_ _ | refine blk_drew ?_ | refine blk_alloc ?_ _)); refine blk_put (cs := #[.slice none 0 0, .slice none 0 0, .slice none 0 0]) ?_ 0 _ rfl; (with_reducible repeat (first | refine blk_drewN ?_ _ | refine blk_drew ?_ | refine blk_alloc ?_ _)); exact BK192.out) hb); have n6_ := Aside0.mk (below_step (by repeat (first | (with_reducible first | exact HB.out | apply below_alloc | apply pw_below_drewN | apply below_drew1 | refine below_set ?_ GE177.out | refine below_set ?_ GE192.out) | exact HB.out)) hb); clear HO_10; clear HO184; clear HO187; clear HO190; clear BK177; clear BK192; clear HB; have HO_10 := n0_; have HO184 := n1_; have HO187 := n2_; have HO190 := n3_; have BK177 := n4_; have BK192 := n5_; have HB := n6_; clear n0_ n1_ n2_ n3_ n4_ n5_ n6_; (try clear hb); (try clear hb2); (try clear hk); (try clear hi)))
                          go_roundg k2
                          case measure => have := HK1.out; have := HK2.out; omega
                          case rel => exact ⟨(wrap64 (x8_1 + 1)), (wrap64 (x9_1 + 1)), (by first | rfl | (simp; done) | (simp [*]; done)), (by first | rfl | (simp; done) | (simp [*]; done)), H', ⟨by have := HK1.out; have := HK2.out; omega⟩, ⟨by (with_reducible repeat (first | refine blk_drewN ?_ _ | refine blk_drew ?_ | refine blk_alloc ?_ _)); exact BK177.out⟩, ⟨by repeat (first | (with_reducible first | exact HB.out | apply below_alloc | apply pw_below_drewN | apply below_drew1 | refine below_set ?_ GE177.out | refine below_set ?_ GE192.out) | exact HB.out)⟩⟩
                        · replace c25 := Bool.eq_false_iff.mpr c25
                          subst c25
                          have H1 : (none) = some r := by rw [if_neg (show ¬ (false = true) by decide)] at H; exact H
                          clear H
                          have H := H1
                          clear H1
                          exact absurd H (by simp)
                      · replace c23 := Bool.eq_false_iff.mpr c23
                        subst c23
                        have H1 : (none) = some r := by rw [if_neg (show ¬ (false = true) by decide)] at H; exact H
                        clear H
                        have H := H1
                        clear H1
                        exact absurd H (by simp)
            · rw [if_neg c12] at H
              have c12b0 : decide (x9_1 < (ji11)) = false := decide_eq_false c12
              clear c12
              replace H := Option.bind_eq_some_iff.mp H
              obtain ⟨t178, A360, H⟩ := H
              replace H : (some (t178 == x8_1)) = some r := H
              have A36 := Aside0.mk A360
              clear A360
              obtain rfl := Option.some.inj H
              have hcz37_0 : wr.cell? ⟨gb177, 0, none⟩ = some (.slice none 0 0) := (blk_cell BK177.out 0).trans rfl
              have hcz37_1 : wr.cell? ⟨gb177, 1, none⟩ = some (.slice none 0 0) := (blk_cell BK177.out 1).trans rfl
              have hcz37_2 : wr.cell? ⟨gb177, 2, none⟩ = some (.int .i64 (Int.tmod (wrap64 (a0)) 7)) := (blk_cell BK177.out 2).trans rfl
              have hcz37_3 : wr.cell? ⟨gb177, 3, none⟩ = some (.int .i64 (Int.tmod (wrap64 (a1)) (wrap64 ((Int.tmod (wrap64 (a0)) 7) + 1)))) := (blk_cell BK177.out 3).trans rfl
              have hcz37_4 : wr.cell? ⟨gb177, 4, none⟩ = some (.int .i64 0) := (blk_cell BK177.out 4).trans rfl
              have hfz37_0 := blk_frozen BK177.out 0
              have hfz37_1 := blk_frozen BK177.out 1
              have hfz37_2 := blk_frozen BK177.out 2
              have hfz37_3 := blk_frozen BK177.out 3
              have hfz37_4 := blk_frozen BK177.out 4
              go_wp2_with (first | ((with_reducible refine gate_callee (f := 15) rfl ?_); refine goesL_ (some 76) rfl rfl Try.func15 (by kernel_rfl) rfl #[.agg #[.slice none 0 0, .slice none 0 0, .int .i64 (Int.tmod (wrap64 (a0)) 7), .int .i64 (Int.tmod (wrap64 (a1)) (wrap64 ((Int.tmod (wrap64 (a0)) 7) + 1))), .int .i64 0]] rfl (by (try simp only [List.map_toArray, List.map_cons, List.map_nil]); first | done | rfl | (simp only [List.length_drop, List.length_take]; rfl)) ?_; (refine (class_Count.calls k1 _ _ ([] : List (S38)) _ _ ([] : List Int) (Int.tmod (wrap64 (a0)) 7) (Int.tmod (wrap64 (a1)) (wrap64 ((Int.tmod (wrap64 (a0)) 7) + 1))) 0 t178 _ ?side1 ?side2 ?side3 ?side4 A36.out).mono ?_); (case side1 => exact Kd.C_nil _ _); (case side2 => exact Nat.le_refl _); (case side3 => exact Kd.C_nil _ _); (case side4 => exact Nat.le_refl _); rintro e w38 ⟨rfl, hb⟩; refine ⟨_, rfl, ?_⟩; have n0_ := Aside0.mk (blk_below (g := gb177) (o := .cells #[.slice none 0 0, .slice none 0 0, .int .i64 (Int.tmod (wrap64 (a0)) 7), .int .i64 (Int.tmod (wrap64 (a1)) (wrap64 ((Int.tmod (wrap64 (a0)) 7) + 1))), .int .i64 0] 25 (0, 0)) (by (with_reducible repeat (first | refine blk_drewN ?_ _ | refine blk_drew ?_ | refine blk_alloc ?_ _)); exact BK177.out) hb); have n1_ := Aside0.mk (below_step (by repeat (first | (with_reducible first | exact HB.out | apply below_alloc | apply pw_below_drewN | apply below_drew1 | refine below_set ?_ GE177.out) | exact HB.out)) hb); clear BK177; clear HB; have BK177 := n0_; have HB := n1_; clear n0_ n1_; (try clear hb); (try clear hb2); (try clear hk); (try clear hi)))
              go_ret
              exact ⟨by first | rfl | (simp [errW_none, errW_some] <;> rfl) | (simp only [← hji9, ← hji11]; first | rfl | (simp [errW_none, errW_some] <;> rfl)) | (simp [*, errW_none, errW_some] <;> rfl), by repeat (first | (with_reducible first | exact HB.out | apply below_alloc | apply pw_below_drewN | apply below_drew1 | refine below_set ?_ GE177.out) | exact HB.out)⟩
          · rw [if_neg c10] at H
            exact absurd H (by simp)
  · replace c4 := Bool.eq_false_iff.mpr c4
    subst c4
    have H1 : (none) = some r := by rw [if_neg (show ¬ (false = true) by decide)] at H; exact H
    clear H
    have H := H1
    clear H1
    exact absurd H (by simp)

/-- THE ONE PURE STATEMENT of crossroadslaw17_ClassFails. -/
def crossroadslaw17_ClassFails.Pure : Prop := ∀ (a0 : Int) (a1 : Int), (Lit.int .u8 a0).wf = true → (Lit.int .u8 a1).wf = true → ∃ k, crossroadslaw17_ClassFails.f k a0 a1 = some true

end Go.Proofs.Ytmlnoapfhimgoaa.P
